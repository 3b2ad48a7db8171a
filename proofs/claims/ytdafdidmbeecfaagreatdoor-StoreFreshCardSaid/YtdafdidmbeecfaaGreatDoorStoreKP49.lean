/- Steps towards the statement StoreK. -/
import Derived.Test.YtdafdidmbeecfaaGreatDoorStoreKP45
import Derived.Test.YtdafdidmbeecfaaGreatDoorStoreKP37
import Derived.Deep.DeepCutAuto
import Derived.Deep.CutBlock
import Derived.Deep.CutRange
section
namespace Go.Proofs.YtdafdidmbeecfaaGreatDoor.Su
set_option linter.unusedVariables false
set_option linter.unusedSimpArgs false
open Go.RowKit Go.SL Go.Proofs.YtdafdidmbeecfaaGreatDoor Go.Proofs.YtdafdidmbeecfaaGreatDoor.Ba
section
variable {D : Dev} {n P B : Nat} {K : List Int}
theorem F1_fates : ∀ k, k ≤ D.wait.length → (F1 D).fates K k = { D.fates K k with cw := i64w (D.cw + 1), wait := D.wait ++ [((0 : Int), zs 512)] } := by
 intro k
 induction k with
 | zero => intro _; rfl
 | succ k ih =>
  intro hk
  have hw : (F1 D).wait[k]? = D.wait[k]? := by
   show (D.wait ++ [((0 : Int), zs 512)])[k]? = _
   exact List.getElem?_append_left (by omega)
  have e1 : (F1 D).fates K (k + 1) = (match (F1 D).wait[k]? with | some p => ((F1 D).fates K k).fate (K.getD k 0) p | none => (F1 D).fates K k) := rfl
  have e2 : D.fates K (k + 1) = (match D.wait[k]? with | some p => (D.fates K k).fate (K.getD k 0) p | none => D.fates K k) := rfl
  rw [e1, e2, hw, ih (by omega)]
  cases D.wait[k]? with
  | none => rfl
  | some p =>
   show Dev.fate _ _ _ = ({ Dev.fate _ _ _ with cw := _, wait := _ } : Dev)
   unfold Dev.fate
   by_cases h1 : K.getD k 0 = 1
   ·rw [if_pos h1, if_pos h1]; rfl
   ·rw [if_neg h1, if_neg h1]
    by_cases h2 : K.getD k 0 = 2
    ·rw [if_pos h2, if_pos h2]; rfl
    ·rw [if_neg h2, if_neg h2]
theorem Mnt.cwx {Sp : List UInt8} {J : Jr} {has : Has} (h : Mnt n P B Sp J D has) (c : Int) : Mnt n P B Sp J { D with cw := c } has :=
 h.dev (h.told.inv.dev ⟨h.told.inv.dok.n, h.told.inv.dok.wait, h.told.inv.dok.many, h.told.inv.dok.keep⟩ ⟨h.told.inv.calm.down, h.told.inv.calm.armed⟩ rfl fun _ _ => rfl) fun _ _ => rfl
theorem F1_again (hs : 1 ≤ D.sec.length) (hc : Crs n P B D) : Blank (Dev.again (F1 D) K) ∨ ∃ J1 h1, Mnt n P B (superE n P) J1 (Dev.again (F1 D) K) h1 := by
 have hl : (F1 D).wait.length = D.wait.length + 1 := by show (D.wait ++ [((0 : Int), zs 512)]).length = _; simp
 have hw : (F1 D).wait[D.wait.length]? = some ((0 : Int), zs 512) := by show (D.wait ++ [((0 : Int), zs 512)])[D.wait.length]? = _; simp
 have e1 : (F1 D).fates K (F1 D).wait.length = ((F1 D).fates K D.wait.length).fate (K.getD D.wait.length 0) ((0 : Int), zs 512) := by
  rw [hl]
  show (match (F1 D).wait[D.wait.length]? with | some p => ((F1 D).fates K D.wait.length).fate (K.getD D.wait.length 0) p | none => (F1 D).fates K D.wait.length) = _
  rw [hw]
 have hE : ((F1 D).fates K D.wait.length).has ((0 : Int), zs 512).1 := ⟨Int.le_refl _, by rw [(fates_keep (F1 D) K _).2.2]; show (0 : Int) < (D.sec.length : Int); omega⟩
 have ht := fate_tells ((F1 D).fates K D.wait.length) (K.getD D.wait.length 0) ((0 : Int), zs 512) hE 0 hE
 rw [← e1, if_pos rfl, ← again_tells] at ht
 by_cases k1 : K.getD D.wait.length 0 = 1
 ·rw [if_pos k1] at ht
  refine .inl (.inl (ht.trans ?_))
  show ((0 : Int), padTo 512 (zs 512)) = _
  rw [padTo_self (zs_len 512)]
 ·rw [if_neg k1] at ht
  by_cases k2 : K.getD D.wait.length 0 = 2
  ·rw [if_pos k2] at ht
   exact .inl (.inr (by rw [ht]))
  ·have hf : ((F1 D).fates K D.wait.length).fate (K.getD D.wait.length 0) ((0 : Int), zs 512) = (F1 D).fates K D.wait.length := by
    unfold Dev.fate
    rw [if_neg k1, if_neg k2]
   obtain ⟨J1, h1, hM⟩ := hc K
   refine .inr ⟨J1, h1, ?_⟩
   have e : Dev.again (F1 D) K = { Dev.again D K with cw := i64w (D.cw + 1) } := by
    unfold Dev.again Dev.crash
    rw [e1, hf, F1_fates _ (Nat.le_refl _)]
   rw [e]
   exact Mnt.cwx hM _
end
structure FmR (P : Nat) (D : Dev) : Prop where
 ok : D.Ok
 calm : D.Calm
 wait : D.wait.length ≤ 1000
 sec : D.sec.length = P + 1
theorem FmR.flushed {P : Nat} {D : Dev} (h : FmR P D) (r : Int) : FmR P ({ D.flushed with cr := r } : Dev) := by
 have hfk := Dev.flush_keeps h.ok
 rw [h.calm.flush] at hfk
 exact ⟨cr_ok (hfk.ok h.ok (by have := h.ok.many; omega)) _, cr_calm (flushed_calm h.calm) _, by show (0 : Nat) ≤ _; omega, by show D.flushed.sec.length = _; rw [(flushed_counts _).2.2.2]; exact h.sec⟩
theorem FmR.again {P : Nat} {D : Dev} {K : List Int} (h : D.Ok) (hs : D.sec.length = P + 1) : FmR P (Dev.again D K) :=
 ⟨(again_okS h).1, again_calm _ _, by show (0 : Nat) ≤ _; omega, (again_okS h).2.trans hs⟩
theorem FmR.sj {n P B : Nat} {Sp : List UInt8} {J : Jr} {D : Dev} {has : Has} (h : Sj n P B Sp J D has) (hw : D.wait = []) (hs : D.sec.length = P + 1) : FmR P D := ⟨h.jt.inv.dok, h.jt.inv.calm, by rw [hw]; show (0 : Nat) ≤ _; omega, hs⟩
theorem FmR.disarm {P : Nat} {D : Dev} {o : Ar} (h : FmR P D) : FmR P (Dev.disarm (D.wth o)) :=
 ⟨⟨by show (D.wth o).sec.length ≤ _; rw [wth_sec]; exact h.ok.n, fun x hx => by
   have hx' : x ∈ (D.wth o).wait := hx
   rw [wth_wait] at hx'
   show 0 ≤ x.1 ∧ x.1 < ((D.wth o).sec.length : Int)
   rw [wth_sec]
   exact h.ok.wait x hx', by show (D.wth o).wait.length ≤ _; rw [wth_wait]; exact h.ok.many, by show (0 : Nat) ≤ _; omega⟩, ⟨(wth_down D o).trans h.calm.down, rfl⟩, by show (D.wth o).wait.length ≤ _; rw [wth_wait]; exact h.wait, by show (D.wth o).sec.length = _; rw [wth_sec]; exact h.sec⟩
def FrX (n P N : Nat) (E : Dev) : Prop := (N ≤ 1 ∧ ∃ B J1 h1, B ≤ 1000 ∧ Mnt n P B (superE n P) J1 E h1) ∨ Blank E ∨ ∃ J1, Mnt n P 1 (superE n P) J1 E noH
def FreshX (n P N : Nat) (K : List Int) (tv : Value) (g : Int) (DX : Dev) : Prop :=
 (g = 2 ∧ tv = .pointer none ∧ ∃ E, DX = E.crash K ∧ FmR P (Dev.again E K) ∧ FrX n P N (Dev.again E K)) ∨ (g = 0 ∧ (∃ s, tv = ptV s) ∧ FmR P (Dev.disarm DX))
theorem fresh_x {w w' : World} {S : Hp} {d n P N B : Nat} {D : Dev} {K : List Int} {F : Assn} {e : Ending} (hq : FormatQ S d n P D (some (N, K)) F w e w') (hs : D.sec.length = P + 1) (hC : Crs n P B D) (hB : B ≤ 1000) :
  ∃ S6 tv g DX Q, e = .returned (.tuple #[tv, .int .i64 g]) ∧ Sat w' (devA S6 d DX * (pool S6 * (Q * F))) ∧ Side w w' ∧ FreshX n P N K tv g DX := by
 rcases hq with ⟨E, hne, hok, hsec, hc, S', hE, rfl, h, hd⟩ | ⟨s, j, S', D', o', hE, rfl, h, hd, hok⟩
 ·refine ⟨S', _, 2, E.crash K, emp, rfl, by rw [emp_star]; exact h, hd, .inl ⟨rfl, rfl, E, rfl, FmR.again hok (hsec.trans hs), ?_⟩⟩
  rcases hc with ⟨K', e1, rfl⟩ | ⟨K', e1, rfl⟩ | hc
  ·injection e1 with e1; injection e1 with e1 e2
   obtain ⟨J1, h1, hM⟩ := hC K
   exact .inl ⟨by omega, B, J1, h1, hB, hM⟩
  ·injection e1 with e1; injection e1 with e1 e2
   rcases F1_again (K := K) (by omega) hC with h1 | ⟨J1, h1, hM⟩
   ·exact .inr (.inl h1)
   ·exact .inl ⟨by omega, B, J1, h1, hB, hM⟩
  ·rcases hc K with h1 | h1
   ·exact .inr (.inl h1)
   ·exact .inr (.inr ⟨_, h1.mnt⟩)
 ·exact ⟨S', _, 0, D'.wth o', stoA s j d n P (J0 P n), rfl, h.to (by ac_rfl), hd, .inr ⟨rfl, ⟨s, rfl⟩, (FmR.sj hok.sj hok.dry (hok.sec.trans hs)).disarm⟩⟩
theorem rds_ints {w : World} {a : Option Addr} {len cap : Nat} {zs : List Int} (h : IsInts w a len cap zs) : Rds w 1 (.slice a len cap) (zs.take len).length (SL.i64v (zs.take len)) ∧ (zs.take len).length = len := by
 rcases h with ⟨rfl, rfl, rfl, rfl⟩ | ⟨x, rfl, h2, h3, h4, h5, h6⟩
 ·exact ⟨⟨rfl, .inl ⟨rfl, rfl⟩⟩, rfl⟩
 ·have hl : (zs.take len).length = len := by rw [List.length_take]; omega
  refine ⟨⟨by simp [SL.i64v], .inr ⟨x, cap, by rw [hl], fun j u hu => ?_⟩⟩, hl⟩
  have hj : j < len := by
   have := (List.getElem?_eq_some_iff.1 hu).1
   simp only [SL.i64v, List.length_map, hl] at this; exact this
  rw [SL.i64v, List.getElem?_map, List.getElem?_take, if_pos hj, List.getElem?_eq_getElem (by omega)] at hu
  rw [h5 j (by omega), List.getD, List.getElem?_eq_getElem (by omega)]
  exact hu
theorem says_one {n : Nat} (h : 1 < n) (c : Int) (h0 : 0 ≤ c) : SaysK (updB noH [((1 : Int), bj c)]) ((List.replicate n (-1)).set 1 c) n := by
 intro i hi
 show ((kget [((1 : Int), bj c)] (i : Int)).or (noH (i : Int))).getD (zs 480) = _
 rw [kget_cons]
 by_cases e : i = 1
 ·subst e
  rw [if_pos (by rfl), List.getD, List.getElem?_set_self (by simpa using h)]
  unfold blkI
  show bj c = if c < 0 then _ else _
  rw [if_neg (by omega)]
  rfl
 ·rw [if_neg (by show ¬ (1 : Int) = (i : Int); omega), List.getD, List.getElem?_set_ne (fun h => e h.symm)]
  have : ((List.replicate n (-1 : Int))[i]?).getD 0 = -1 := by simp [List.getElem?_replicate, hi]
  rw [this]; rfl
end Go.Proofs.YtdafdidmbeecfaaGreatDoor.Su
end
section
namespace Go.Proofs.YtdafdidmbeecfaaGreatDoor.Su
set_option linter.unusedVariables false
set_option linter.unusedSimpArgs false
open Go.RowKit Go.SL Go.Proofs.YtdafdidmbeecfaaGreatDoor Go.Proofs.YtdafdidmbeecfaaGreatDoor.Ba
set_option maxRecDepth 100000 in
set_option maxHeartbeats 40000000 in
theorem fresh_any (w : World) (hh : Half w) (blocks : Int) (a0 : Option Addr) (len0 cap0 : Nat) (X0 : Nat → StV) (nq : Int) (b0 : Option Addr) (ilen icap : Nat) (iz : List Int) (hX : IsSts w a0 len0 cap0 X0) (hI : IsInts w b0 ilen icap iz) (hIl : ilen ≤ 17592186044416) :
  Calls Tryz.prog 7 #[.int .i64 blocks, .slice a0 len0 cap0, .int .i64 nq, .slice b0 ilen icap] w (ShownQ w) := by
 have hF : ∀ w' X, Sat w' (X * whole w) → Half w' := fun w' X h => hh.old h
 have HF := SL.hid hF
 have hsh := shown11_any w hh
 have ha := and16 blocks
 obtain ⟨n, hn, hn4, hn20⟩ : ∃ n : Nat, (n : Int) = 4 + blocks % 65536 % 17 ∧ 4 ≤ n ∧ n ≤ 20 := ⟨(4 + blocks % 65536 % 17).toNat, by omega, by omega, by omega⟩
 have hs0 : 0 ≤ blocks % 65536 := by omega
 have hs1 : blocks % 65536 ≤ 65535 := by omega
 have Hn := SL.hid hn
 have hlen0 := hX.len_le
 have hlen0' : (len0 : Int) ≤ 9223372036854775807 := by omega
 have HX := SL.hid hX
 have hg := geo_least hn4 hn20
 have hle : ∀ w, Calls Tryz.prog 13 #[.int .i64 (n : Int)] w fun e w' => e = .returned (.int .i64 (((5 * n + 241) / 2 : Nat) : Int)) ∧ w = w' := fun w => by rw [← leastI_nat hn4 (by omega)]; exact least_any w n
 have hP200 : (5 * n + 241) / 2 ≤ 200 := by omega
 generalize (5 * n + 241) / 2 = P at hg hle hP200
 have Hg := SL.hid hg
 have hn4' : (4 : Int) ≤ (n : Int) := by omega
 have hn20' : (n : Int) ≤ 20 := by omega
 have hPi : (P : Int) ≤ 200 := by omega
 have hnew : ∀ w, Calls Tryz.prog 10 #[.int .i64 ((P : Int) + 1)] w _ := fun w => new_any (P + 1) (by omega) (by omega) w
 generalize blocks % 65536 = t at *
 clear hn hh hF hX hg hlen0
 have hta := and16 nq
 obtain ⟨N, hN, hN220⟩ : ∃ N : Nat, (N : Int) = nq % 65536 % 220 ∧ N ≤ 219 := ⟨(nq % 65536 % 220).toNat, by omega, by omega⟩
 have ht0 : 0 ≤ nq % 65536 := by omega
 have ht1 : nq % 65536 ≤ 65535 := by omega
 have HN := SL.hid hN
 have hN220' : (N : Int) ≤ 219 := by omega
 generalize nq % 65536 = tt at *
 have HI := SL.hid hI
 clear hI hN
 go_enter Tryz.func7, Tryz.ntmps7
 go_wp2_with fail
 (with_reducible refine hsh.mono ?_)
 rintro e w1 ⟨rfl, h1, d1⟩
 clear hsh
 go_wp2_with fail
 rw [← Hn.out]
 (with_reducible refine (hle _).mono ?_)
 rintro e w2 ⟨rfl, rfl⟩
 go_wp2_with fail
 (with_reducible refine (hnew _).mono ?_)
 rintro e w2 ⟨d, rfl, h2, d2⟩
 have H2 : Sat w2 (devA NoB d (Dev.fresh (P + 1)) * (pool NoB * whole w)) := (((h2 NoB).under h1).poolEmp).to (by ac_rfl)
 have hfm := formatS_any w2 d n P (whole w) H2 Hg.out HF.out
 have D2 := d1.trans d2
 clear h1 h2 d1 d2 H2 hnew
 go_wp2_with fail
 (with_reducible refine hfm.mono ?_)
 rintro e w3 ⟨s, j, S3, D3, rfl, h3, d3, hL3, hw3⟩
 have H5h := SL.hid (h3.to (by rw [emp_star]) : Sat w3 (stoA s j d n P (J0 P n) * (devA S3 d D3 * (pool S3 * (emp * whole w)))))
 have D5h := SL.hid (D2.trans d3); have HL3 := SL.hid hL3; have Hw3 := SL.hid hw3
 clear h3 d3 D2 hfm hL3 hw3
 go_upto_block 0 with (fail)
 go_cut [] from 60 to 86 (fun wx => Bat0 d n P s j 41 w wx)
 case first =>
  go_wp2_with fail
  go_loopw [14] (fun ui wr => Bat0Rel d n P s j 40 w ui wr) (fun u _ => 40 - (intOf u).toNat)
  case atStart => exact ⟨0, Nat.zero_le _, rfl, S3, J0 P n, D3, noH, _, HL3.out, ⟨crs_dry HL3.out Hw3.out, by rw [Hw3.out]; simp⟩, H5h.out, D5h.out⟩
  case round =>
   clear H5h D5h HL3 Hw3
   obtain ⟨i, hi, rfl, S, J, D, has, Y, hL, hC, hsat, hside⟩ := hrel
   by_cases hlt : i < len0 ∧ i < 40
   ·obtain ⟨hlt, h80⟩ := hlt
    have hlt' : (i : Int) < (len0 : Int) := by omega
    have h80' : (i : Int) < 40 := by omega
    obtain ⟨b, off, rfl, hSt, hlc, hcapX⟩ := HX.out.cell hlt
    obtain ⟨x, hx⟩ : ∃ x, x = X0 i := ⟨_, rfl⟩
    rw [← hx] at hSt
    have hW0 : Sat wr ((stoA s j d n P J * (devA S d D * (pool S * Y))) * whole w) := hsat.to (by ac_rfl)
    obtain ⟨c0, c1, c2, c3, c4⟩ := hSt.old hW0
    have hwr := writes11_any wr n (by omega) (by omega) x.kd x.dt x.nn x.ia x.il x.ic x.iz (ints_old hSt.ids hW0) (.slice x.ka x.kl x.kc)
    unfold stepV at hwr
    have HL := SL.hid hL; have Hsat := SL.hid hsat; have Hsd := SL.hid hside
    have HC := SL.hid hC
    clear hx hSt hL hC hW0 hsat hside hlt h80
    obtain ⟨xkd, xdt, xnn, xia, xil, xic, xiz, xka, xkl, xkc, xkz⟩ := x
    dsimp only at *
    go_wp2_with fail
    (with_reducible refine hwr.mono ?_)
    rintro e w9 ⟨v, L, rfl, hW, h9, d9⟩
    obtain ⟨va, vc, rfl⟩ := hW.sh
    obtain ⟨m, hm⟩ : ∃ m, m = L.length := ⟨_, rfl⟩
    have hm24 : m ≤ 24 := by rw [hm]; exact hW.l24
    have hm24' : (m : Int) ≤ 24 := by omega
    have Hm := SL.hid hm; have HW := SL.hid hW
    have h9' := h9.under Hsat.out
    have D9 := Hsd.out.trans d9
    rw [← hm]
    clear hwr h9 d9 hm hW c0 c1 c2 c3 c4 Hsat Hsd
    by_cases h0 : m = 0
    ·have hfin : Sat w9 (stoA s j d n P J * (devA S d D * (pool S * ((wrsA (.slice va L.length vc) L * Y) * whole w)))) := h9'.to (by ac_rfl)
     have Hfin := SL.hid hfin; have HD9 := SL.hid D9
     have h0' : ¬ 0 < (m : Int) := by omega
     clear h9' D9 hfin h0
     go_wp2_with fail
     go_roundw
     case rel => exact ⟨i + 1, by omega, by go_num, S, J, D, has, _, HL.out.more (by omega), ⟨HC.out.1.more (by omega), HC.out.2⟩, Hfin.out, HD9.out⟩
     case measure => simp [intOf]; omega
    ·have h0' : 0 < (m : Int) := by omega
     have H9 : Sat w9 (stoA s j d n P J * (devA S d D * (pool S * (wrsA (.slice va L.length vc) L * (Y * whole w))))) := h9'.to (by ac_rfl)
     have cs := sto_cell H9
     have hcm := commitS_any w9 S s j d n P (i + 1) J D has _ _ L H9 HL.out Hg.out (by omega) HW.out (by rw [← Hm.out]; omega)
     rw [← Hm.out] at hcm
     have HD9 := SL.hid D9
     clear h9' H9 D9
     go_wp2_with fail
     (with_reducible refine hcm.mono ?_)
     rintro e w10 ⟨S2, J2, D2, hE2, rfl, h10, d10, hL2, k1, k2, k3, k4, k5, k6, k7, k8⟩
     have D10 := HD9.out.trans d10
     have hL2' := SL.hid hL2
     have Hfin := SL.hid (h10.to (by ac_rfl : _ = stoA s j d n P J2 * (devA S2 d D2 * (pool S2 * ((wrsA (.slice va m vc) L * Y) * whole w))))); have HDf := SL.hid D10
     have HC2 := SL.hid (And.intro (crs_comm k7) k8)
     clear hcm h10 d10 D10 hL2 k1 k2 k3 k4 k5 k6 k7 k8 cs HD9 h0'
     go_wp2_with fail
     go_roundw
     case rel => exact ⟨i + 1, by omega, by go_num, S2, J2, D2, _, _, hL2'.out, HC2.out, Hfin.out, HDf.out⟩
     case measure => simp [intOf]; omega
   ·have HL := SL.hid hL; have Hsat := SL.hid hsat; have Hsd := SL.hid hside
    have HC := SL.hid hC
    clear hL hC hsat hside
    by_cases hl1 : i < len0
    ·have hl1' : (i : Int) < (len0 : Int) := by omega
     have hl2' : ¬ (i : Int) < 40 := fun h => hlt ⟨hl1, by omega⟩
     clear hlt
     go_wp2_with fail
     go_meet
     exact ⟨S, J, D, has, Y, HL.out.more (by omega), ⟨HC.out.1.more (by omega), HC.out.2⟩, Hsat.out, Hsd.out⟩
    ·have hl1' : ¬ (i : Int) < (len0 : Int) := by omega
     clear hlt
     go_wp2_with fail
     go_meet
     exact ⟨S, J, D, has, Y, HL.out.more (by omega), ⟨HC.out.1.more (by omega), HC.out.2⟩, Hsat.out, Hsd.out⟩
 case rest =>
  clear H5h D5h HL3 Hw3
  obtain ⟨S, J, D, has, Y, hL, ⟨hC, hwl⟩, hsat, hside⟩ := hcut
  obtain ⟨hrds, hlK⟩ := rds_ints (ints_old HI.out (hsat.to (by ac_rfl : _ = (stoA s j d n P J * (devA S d D * (pool S * Y))) * whole w)))
  have hKl : (iz.take ilen).length ≤ 17592186044416 := by rw [hlK]; exact hIl
  have har := arm_any wc S d D _ (N : Int) (by omega) (.slice b0 ilen icap) (iz.take ilen) hrds hKl (hsat.to (by ac_rfl : _ = devA S d D * (pool S * ((stoA s j d n P J * Y) * whole w))))
  generalize iz.take ilen = K at har hKl
  have hDw : Dev.arm D (N : Int) K = D.wth (some (N, K)) := rfl
  rw [hDw] at har
  have HL := SL.hid hL; have HC := SL.hid hC; have Hsd := SL.hid hside
  clear hL hC hsat hside hrds hlK hDw
  go_wp2_with fail
  rw [← HN.out]
  (with_reducible refine har.mono ?_)
  rintro e w5 ⟨rfl, h5, d5⟩
  have hfm := format_any w5 S d n P D (some (N, K)) _ h5 HL.out.sj.jt.inv.dok HL.out.sj.jt.inv.calm (by omega) Hg.out HL.out.sec (fun N' K' e => by injection e with e; injection e with e1 e2; subst e1; subst e2; exact ⟨by omega, by omega⟩) (fun w' X hx => HF.out w' (X * (stoA s j d n P J * Y)) (hx.to (by ac_rfl)))
  have D5 := SL.hid (Hsd.out.trans d5)
  clear har h5 d5 Hsd
  go_wp2_with fail
  (with_reducible refine hfm.mono ?_)
  rintro e w6 hq
  obtain ⟨S6, tv, g, DX, Q6, rfl, h6, d6, hX⟩ := fresh_x hq HL.out.sec HC.out (by omega)
  have HX6 := SL.hid hX
  obtain ⟨F0, hF0⟩ : ∃ l, l = fill1 n 0 := ⟨_, rfl⟩
  have hmk : ∀ w, (Instr.makeSlice 45 (.int .i64 (n : Int)) (.int .i64 (n : Int))).run Tryz.prog w = .ok (.slice (some ⟨w.heap.size, 0, none⟩) n n) (w.alloc (.cells (ints F0) 3 (0, 0))) := by
   rw [hF0]; exact make_ints n (by omega)
  have HF0 := SL.hid hF0
  have h7 := h6.alloc (.cells (ints F0) 3 (0, 0))
  have D7 := (D5.out.trans d6).alloc (.cells (ints F0) 3 (0, 0))
  clear hfm hq h6 d6 D5 hX hF0
  go_upto_block 2 with (fail)
  generalize w6.alloc (.cells (ints F0) 3 (0, 0)) = w7 at h7 D7 ⊢
  generalize w6.heap.size = hb at h7 ⊢
  obtain ⟨Z2, hZ2⟩ : ∃ X, X = devA S6 d DX * (pool S6 * ((Q6 * (stoA s j d n P J * Y)) * whole w)) := ⟨_, rfl⟩
  have H7 : Sat w7 (pt hb (.cells (ints F0) 3 (0, 0)) * Z2) := h7.to (by rw [hZ2]; ac_rfl)
  have HZ2 := SL.hid hZ2; have H7h := SL.hid H7; have HD7 := SL.hid D7
  clear hZ2 hmk h7 H7 D7
  go_cut [] from 101 to 108 (fun wx => Sat wx (pt hb (.cells (ints (List.replicate n (-1))) 3 (0, 0)) * Z2) ∧ Side w wx)
  case first =>
   go_wp2_with fail
   go_loopw [20] (fun u wr => Fill1Rel n hb Z2 w u wr) (fun u _ => n - (intOf u).toNat)
   case atStart => exact ⟨0, Nat.zero_le _, rfl, by rw [← HF0.out]; exact H7h.out, HD7.out⟩
   case round =>
    clear H7h HD7
    obtain ⟨k, hk, rfl, hsat, hside⟩ := hrel
    by_cases hlt : k < n
    ·have hlt' : (k : Int) < (n : Int) := by omega
     have ck : wr.cell? ⟨hb, k, none⟩ = some (.int .i64 ((fill1 n k).getD k 0)) := (hsat.cell k).trans (get_ints_lt (by rw [fill1_len hk]; exact hlt))
     have fk := hsat.frozen k
     have h2 := hsat.setCell k (.int .i64 (-1))
     rw [set_ints, fill1_set hlt] at h2
     have hset := SL.hid h2
     have Hside := SL.hid hside
     generalize (fill1 n k).getD k 0 = uo at ck
     clear hsat hside h2
     go_wp2
     go_roundw
     case rel => exact ⟨k + 1, by omega, by go_num, hset.out, Hside.out.setCell _ _⟩
     case measure => simp [intOf]; omega
    ·obtain rfl : k = n := by omega
     have e : fill1 k k = List.replicate k (-1) := by simp [fill1]
     rw [e] at hsat
     have Hs := SL.hid hsat; have Hd := SL.hid hside
     clear hsat hside e
     go_wp2_with fail
     go_meet
     exact ⟨Hs.out, Hd.out⟩
  case rest =>
   clear H7h HD7 HF0
   obtain ⟨h8, d8⟩ := hcut
   rw [HZ2.out] at h8
   have hdi := disarm_any _ S6 d DX _ (-1) (by decide) (h8.to (by ac_rfl : _ = devA S6 d DX * (pool S6 * (((Q6 * (stoA s j d n P J * Y)) * pt hb (.cells (ints (List.replicate n (-1))) 3 (0, 0))) * whole w))))
   have D8 := SL.hid d8
   clear h8 d8 HZ2
   obtain ⟨Q8, hQ8⟩ : ∃ A, A = Q6 * (stoA s j d n P J * Y) := ⟨_, rfl⟩
   rw [← hQ8] at hdi
   clear hQ8
   go_wp2_with fail
   (with_reducible refine hdi.mono ?_)
   rintro e w9 ⟨rfl, h9, d9⟩
   have H9 := SL.hid h9; have D9 := SL.hid (D8.out.trans d9)
   clear hdi h9 d9 D8
   have hNN : tt % 220 = (N : Int) := HN.out.symm
   go_upto_if 112 with (fail)
   generalize hgb : decide (g ≠ 0) = gb at *
   go_cut [] from 113 to 156 (fun wx => ∃ S9 D9 Q9, FmR P D9 ∧ Sat wx (devA S9 d D9 * (pool S9 * ((Q9 * pt hb (.cells (ints (List.replicate n (-1))) 3 (0, 0))) * whole w))) ∧ Side w wx)
   case first =>
    rcases HX6.out with ⟨rfl, rfl, E, rfl, hE, hFx⟩ | ⟨rfl, ⟨s9, rfl⟩, hG⟩
    ·obtain rfl : gb = true := by rw [← hgb]; rfl
     have hde : Dev.disarm (E.crash K) = E.crash K := rfl
     rw [hde] at H9
     have hdn := downD_any w9 S6 d (E.crash K) _ H9.out
     have hdt : (E.crash K).down = true := rfl
     rw [hdt] at hdn
     have hst := start_any w9 S6 d (E.crash K) _ H9.out
     have hse : Dev.start (E.crash K) = (0, Dev.again E K) := rfl
     rw [hse] at hst
     clear H9 hde hdt hse
     go_wp2_with fail
     (with_reducible refine hdn.mono ?_)
     rintro e w9b ⟨rfl, rfl⟩
     clear hdn
     go_wp2_with fail
     (with_reducible refine hst.mono ?_)
     rintro e w10 ⟨rfl, h10, d10⟩
     clear hst
     generalize Dev.again E K = G at hE hFx h10
     rcases hFx with ⟨hN1, B1, J1, h1, hB1, hM⟩ | hBl | ⟨J1, hM⟩
     ·have hmt := mount_any w10 S6 d n P B1 J1 G h1 none _ (by rw [wth_none]; exact h10) hM (by omega) Hg.out hE.sec arOk_none (fun w' X hx => HF.out w' (X * (Q8 * pt hb (.cells (ints (List.replicate n (-1))) 3 (0, 0)))) (hx.to (by ac_rfl)))
      have hN1' : ¬ (1 : Int) < (N : Int) := by omega
      have HD10 := SL.hid (D9.out.trans d10); have HEs := SL.hid hE
      clear h10 d10 D9 hM hE hN1
      go_wp2_with fail
      (with_reducible refine hmt.mono ?_)
      rintro e w11 (⟨E1, hne, _⟩ | ⟨s2, j2, S2, J2, D2, has2, o2, hE2, rfl, h11, d11, hok⟩)
      ·exact absurd rfl hne
      have ho := hok.ar.none rfl
      subst ho
      rw [wth_none] at h11
      have Hf := SL.hid (FmR.sj hok.sj hok.dry (hok.sec.trans HEs.out.sec))
      have Hfin := SL.hid (h11.to (by ac_rfl : _ = devA S2 d D2 * (pool S2 * (((stoA s2 j2 d n P J2 * Q8) * pt hb (.cells (ints (List.replicate n (-1))) 3 (0, 0))) * whole w)))); have HDf := SL.hid (HD10.out.trans d11)
      clear hmt h11 d11 HD10 hok
      go_wp2_with fail
      go_meet
      exact ⟨S2, D2, _, Hf.out, Hfin.out, HDf.out⟩
     ·have hmt := mountNo_any w10 S6 d G _ h10 hE.ok hE.calm (by have := hE.sec; omega) (superD_blank hBl) (fun w' X hx => HF.out w' (X * (Q8 * pt hb (.cells (ints (List.replicate n (-1))) 3 (0, 0)))) (hx.to (by ac_rfl)))
      have Hf := SL.hid (hE.flushed (i64w (G.cr + 1)))
      have HD10 := SL.hid (D9.out.trans d10)
      clear h10 d10 D9 hE
      go_wp2_with fail
      (with_reducible refine hmt.mono ?_)
      rintro e w11 ⟨rfl, h11, d11⟩
      have Hfin := SL.hid h11; have HDf := SL.hid (HD10.out.trans d11)
      clear hmt h11 d11 HD10
      by_cases hN1 : (1 : Int) < (N : Int)
      ·go_wp2_with fail
       go_meet
       exact ⟨_, _, _, Hf.out, Hfin.out, HDf.out⟩
      ·go_wp2_with fail
       go_meet
       exact ⟨_, _, _, Hf.out, Hfin.out, HDf.out⟩
     ·have hmt := mount_any w10 S6 d n P 1 J1 G noH none _ (by rw [wth_none]; exact h10) hM (by omega) Hg.out hE.sec arOk_none (fun w' X hx => HF.out w' (X * (Q8 * pt hb (.cells (ints (List.replicate n (-1))) 3 (0, 0)))) (hx.to (by ac_rfl)))
      have HD10 := SL.hid (D9.out.trans d10); have HEs := SL.hid hE
      clear h10 d10 D9 hM hE
      go_wp2_with fail
      (with_reducible refine hmt.mono ?_)
      rintro e w11 (⟨E1, hne, _⟩ | ⟨s2, j2, S2, J2, D2, has2, o2, hE2, rfl, h11, d11, hok⟩)
      ·exact absurd rfl hne
      have ho := hok.ar.none rfl
      subst ho
      rw [wth_none] at h11
      have Hf := SL.hid (FmR.sj hok.sj hok.dry (hok.sec.trans HEs.out.sec))
      have HD11 := SL.hid (HD10.out.trans d11)
      clear hmt d11 HD10
      by_cases hN1 : (1 : Int) < (N : Int)
      ·have hls : Lst ((Q8 * pt hb (.cells (ints (List.replicate n (-1))) 3 (0, 0))) * whole w) (.slice (some ⟨hb, 0, none⟩) n n) n (List.replicate n (-1)) := ((lst_pt (F := Q8 * whole w) (hb := hb) (by omega) List.length_replicate (fun i hi => .inl (by simp [List.getD, List.getElem?_replicate, hi]))) : Lst (pt hb (.cells (ints (List.replicate n (-1))) 3 (0, 0)) * (Q8 * whole w)) _ n _).cast (by ac_rfl)
       have his := is11_any w11 S2 s2 j2 d n P 3 (superE n P) J2 D2 has2 (.slice (some ⟨hb, 0, none⟩) n n) (List.replicate n (-1)) _ (h11.to (by ac_rfl : _ = stoA s2 j2 d n P J2 * (devA S2 d D2 * (pool S2 * ((Q8 * pt hb (.cells (ints (List.replicate n (-1))) 3 (0, 0))) * whole w))))) hok.sj (by omega) hls
       have Hsay := SL.hid (says_same (says_no n) hok.same)
       clear h11 hok hls
       go_wp2_with fail
       (with_reducible refine his.mono ?_)
       rintro e w12 ⟨bb, k, rfl, hbb, hk, h12, d12⟩
       obtain rfl : bb = true := hbb.2 Hsay.out
       have Hf2 : Hid (FmR P ({ D2 with cr := addN D2.cr k } : Dev)) := ⟨cr_ok Hf.out.ok _, cr_calm Hf.out.calm _, Hf.out.wait, Hf.out.sec⟩
       have Hfin := SL.hid (h12.to (by ac_rfl : _ = devA S2 d ({ D2 with cr := addN D2.cr k } : Dev) * (pool S2 * (((stoA s2 j2 d n P J2 * Q8) * pt hb (.cells (ints (List.replicate n (-1))) 3 (0, 0))) * whole w)))); have HDf := SL.hid (HD11.out.trans d12)
       clear his h12 d12 hbb HD11
       go_wp2_with fail
       go_meet
       exact ⟨S2, _, _, Hf2.out, Hfin.out, HDf.out⟩
      ·have Hfin := SL.hid (h11.to (by ac_rfl : _ = devA S2 d D2 * (pool S2 * (((stoA s2 j2 d n P J2 * Q8) * pt hb (.cells (ints (List.replicate n (-1))) 3 (0, 0))) * whole w))))
       clear h11 hok
       go_wp2_with fail
       go_meet
       exact ⟨S2, D2, _, Hf.out, Hfin.out, HD11.out⟩
    ·obtain rfl : gb = false := by rw [← hgb]; rfl
     go_wp2_with fail
     go_meet
     exact ⟨S6, _, Q8, hG, H9.out, D9.out⟩
   case rest =>
    obtain ⟨S9, D9, Q9, hR, h9, d9⟩ := hcut
    have hfm := format_any wc S9 d n P D9 none _ (by rw [wth_none]; exact h9) hR.ok hR.calm hR.wait Hg.out hR.sec arOk_none (fun w' X hx => HF.out w' (X * (Q9 * pt hb (.cells (ints (List.replicate n (-1))) 3 (0, 0)))) (hx.to (by ac_rfl)))
    have HD9 := SL.hid d9
    have hs9 := hR.sec
    clear h9 d9 hR H9 HX6
    go_wp2_with fail
    (with_reducible refine hfm.mono ?_)
    rintro e w10 (⟨E1, hne, _⟩ | ⟨s2, j2, S2, D2, o2, hE2, rfl, h10, d10, hok⟩)
    ·exact absurd rfl hne
    have ho := hok.ar.none rfl
    subst ho
    rw [wth_none] at h10
    have hs2 : D2.sec.length = P + 1 := hok.sec.trans hs9
    have hls : Lst ((Q9 * pt hb (.cells (ints (List.replicate n (-1))) 3 (0, 0))) * whole w) (.slice (some ⟨hb, 0, none⟩) n n) n (List.replicate n (-1)) := ((lst_pt (F := Q9 * whole w) (hb := hb) (by omega) List.length_replicate (fun i hi => .inl (by simp [List.getD, List.getElem?_replicate, hi]))) : Lst (pt hb (.cells (ints (List.replicate n (-1))) 3 (0, 0)) * (Q9 * whole w)) _ n _).cast (by ac_rfl)
    have his := is11_any w10 S2 s2 j2 d n P 1 (superE n P) (J0 P n) D2 noH (.slice (some ⟨hb, 0, none⟩) n n) (List.replicate n (-1)) _ h10 hok.sj (by omega) hls
    have HD10 := SL.hid (HD9.out.trans d10); have Hsj := SL.hid hok.sj; have Hs2 := SL.hid hs2
    clear hfm h10 d10 HD9 hs9 hok hls hs2
    go_wp2_with fail
    (with_reducible refine his.mono ?_)
    rintro e w11 ⟨bb, k, rfl, hbb, hk, h11, d11⟩
    obtain rfl : bb = true := hbb.2 (says_no n)
    have hsj3 := Hsj.out.cr (addN D2.cr k)
    have hs3 : ({ D2 with cr := addN D2.cr k } : Dev).sec.length = P + 1 := Hs2.out
    generalize ({ D2 with cr := addN D2.cr k } : Dev) = D3x at h11 hsj3 hs3
    have c0 := sto_cell h11
    have H5 := SL.hid h11; have D5 := SL.hid (HD10.out.trans d11); have Hsj3 := SL.hid hsj3; have Hs3 := SL.hid hs3
    have hJ := hsj3.jt.inv.ok; have hJN := hsj3.jt.inv.nums; have hD3 := hsj3.jt.inv.dok
    have hJn : (1 : Int) < (J0 P n).n := by rw [J0_n]; omega
    have hcb : ∀ (w6 : World) (gb : Nat), Sat w6 (pt gb (.cells (u8s (bj 9)) 5 (0, 0)) * (stoA s2 j2 d n P (J0 P n) * (devA S2 d D3x * (pool S2 * ((Q9 * pt hb (.cells (ints (List.replicate n (-1))) 3 (0, 0))) * whole w))))) →
      Calls Tryz.prog 19 #[ptV j2, .slice (some ⟨w6.heap.size, 0, none⟩) 1 1] (w6.alloc (.cells #[.int .i64 1, .slice (some ⟨gb, 0, none⟩) 480 480] 57 (0, 0))) (CommitBQ S2 j2 d (jcommit (J0 P n) D3x true [((1 : Int), bj 9)]) (pt s2 (.cells #[ptV j2, .int .i64 (n : Int), .int .i64 (P : Int)] 42 (0, 0)) * ((Q9 * pt hb (.cells (ints (List.replicate n (-1))) 3 (0, 0))) * whole w)) w6) := fun w6 gb hb =>
     commitB_any w6 S2 j2 d (J0 P n) D3x _ gb 9 1 (hb.to (by unfold stoA; ac_rfl)) hJ hJN hD3 (by decide) hJn
    clear his h11 d11 hbb HD10 Hsj Hs2 hsj3 hs3 hJ hJN hD3
    go_upto_region 35 with (fail)
    refine wp_region_held_drew (S := (fun w' => w'.cell? ⟨s2, 0, none⟩ = some (ptV j2))) (by kernel_rfl) ?_ (fun hHeld => ?_)
    ·first | exact c0 | exact kb | exact cell_alloc _ _ _ _ kb | exact kc | assumption
    refine wpAnyH_take (i := 0) (v := ?_) rfl (by kernel_rfl) (by kernel_rfl) (by kernel_rfl) (fun _ _ _ h => h) (Or.inl ⟨by kernel_rfl, ?_⟩) (by assumption) ?_
    rotate_left
    ·intro w hSw; (try dsimp only at hSw); go_simp; try with_reducible rfl
    try simp only [List.getElem_toArray, List.getElem_cons_succ, List.getElem_cons_zero, Act.put, List.setIfInBounds_toArray, List.set_cons_zero, List.set_cons_succ]
    refine wpAnyH_take (i := 1) (v := ?_) rfl (by kernel_rfl) (by kernel_rfl) (by kernel_rfl) (fun _ _ _ h => h) (Or.inl ⟨by kernel_rfl, ?_⟩) (by assumption) ?_
    rotate_left
    ·intro w hSw; (try dsimp only at hSw); go_simp; try with_reducible rfl
    try simp only [List.getElem_toArray, List.getElem_cons_succ, List.getElem_cons_zero, Act.put, List.setIfInBounds_toArray, List.set_cons_zero, List.set_cons_succ]
    refine wpAnyH_take (i := 2) (v := ?_) rfl (by kernel_rfl) (by kernel_rfl) (by kernel_rfl) (fun _ _ _ h => h) (Or.inl ⟨by kernel_rfl, ?_⟩) (by assumption) ?_
    rotate_left
    ·intro w hSw; (try dsimp only at hSw); go_simp; try with_reducible rfl
    try simp only [List.getElem_toArray, List.getElem_cons_succ, List.getElem_cons_zero, Act.put, List.setIfInBounds_toArray, List.set_cons_zero, List.set_cons_succ]
    refine wpAnyH_take (i := 3) (v := ?_) rfl (by kernel_rfl) (by kernel_rfl) (by kernel_rfl) (fun _ _ _ h => h) (Or.inl ⟨by kernel_rfl, ?_⟩) (by assumption) ?_
    rotate_left
    ·intro w hSw; (try dsimp only at hSw); go_simp; try with_reducible rfl
    try simp only [List.getElem_toArray, List.getElem_cons_succ, List.getElem_cons_zero, Act.put, List.setIfInBounds_toArray, List.set_cons_zero, List.set_cons_succ]
    refine wpAnyH_ready (rs := [4]) (by kernel_rfl) (by simp) ?_
    refine AllReadyH.cons rfl (fun K hK => ?_) AllReadyH.nil
    go_simp
    go_wp2_with (go_at_call 31; (with_reducible refine (block11_any _ _).mono ?_); rintro e w6 ⟨gb, rfl, hbx, db⟩; have HBA := hbx.under H5.out.drew; have DB := D5.out.drew.trans db; have kb : w6.cell? ⟨s2, 0, none⟩ = some (ptV j2) := sto_cell HBA.right)
    refine hK.out _ _ ?_ (fun hHeld => ?_)
    ·first | exact c0 | exact kb | exact cell_alloc _ _ _ _ kb | exact kc | assumption
    clear hK K
    refine wpAnyH_take (i := 5) (v := ?_) rfl (by kernel_rfl) (by kernel_rfl) (by kernel_rfl) (fun _ _ _ h => h) (Or.inl ⟨by kernel_rfl, ?_⟩) (by assumption) ?_
    rotate_left
    ·intro w hSw; (try dsimp only at hSw); go_simp; try with_reducible rfl
    try simp only [List.getElem_toArray, List.getElem_cons_succ, List.getElem_cons_zero, Act.put, List.setIfInBounds_toArray, List.set_cons_zero, List.set_cons_succ]
    refine wpAnyH_ready (rs := [6]) (by kernel_rfl) (by simp) ?_
    refine AllReadyH.cons rfl (fun K hK => ?_) AllReadyH.nil
    go_simp
    refine hK.out _ _ ?_ (fun hHeld => ?_)
    ·first | exact c0 | exact kb | exact cell_alloc _ _ _ _ kb | exact kc | assumption
    clear hK K
    refine wpAnyH_ready (rs := [7]) (by kernel_rfl) (by simp) ?_
    refine AllReadyH.cons rfl (fun K hK => ?_) AllReadyH.nil
    go_simp
    go_wp2_with (go_at_call 19; go_loud ((with_reducible refine (hcb w6 gb HBA).mono ?_); rintro e w7 ⟨S7, hE7, rfl, h7, d7⟩; have kc : w7.cell? ⟨s2, 0, none⟩ = some (ptV j2) := h7.front4.cell 0))
    refine hK.out _ _ ?_ (fun hHeld => ?_)
    ·first | exact c0 | exact kb | exact cell_alloc _ _ _ _ kb | exact kc | assumption
    clear hK K
    refine wpAnyH_take (i := 8) (v := ?_) rfl (by kernel_rfl) (by kernel_rfl) (by kernel_rfl) (fun _ _ _ h => h) (Or.inl ⟨by kernel_rfl, ?_⟩) (by assumption) ?_
    rotate_left
    ·intro w hSw; (try dsimp only at hSw); go_simp; try with_reducible rfl
    try simp only [List.getElem_toArray, List.getElem_cons_succ, List.getElem_cons_zero, Act.put, List.setIfInBounds_toArray, List.set_cons_zero, List.set_cons_succ]
    refine wpAnyH_done (by kernel_rfl) ?_ _
    have hgG := geoOk_iff.1 Hg.out
    have hP2 : 5 * n + 240 ≤ 2 * P := by omega
    have hbt : Batch (n : Int) [((1 : Int), bj 9)] := one_batch (by decide) (by omega) (bj_len 9)
    obtain ⟨hcm, hsj4⟩ := Hsj3.out.commit hP2 (by decide) hbt
    have hs4 : (devC (J0 P n) D3x noH [((1 : Int), bj 9)]).sec.length = P + 1 := by
     show D3x.flushed.sec.length = _
     rw [(flushed_counts _).2.2.2]; exact Hs3.out
    rw [hcm] at h7
    rw [hcm]
    generalize (J0 P n).done ([((1 : Int), bj 9)] ++ movB (J0 P n) noH [((1 : Int), bj 9)]) ((J0 P n).cleaned [((1 : Int), bj 9)].length) = J4 at h7 hsj4
    generalize devC (J0 P n) D3x noH [((1 : Int), bj 9)] = D4 at h7 hsj4 hs4
    have h8 : Sat w7 (stoA s2 j2 d n P J4 * (devA S7 d D4 * (pool S7 * ((Q9 * pt hb (.cells (ints (List.replicate n (-1))) 3 (0, 0))) * whole w)))) := h7.to (by unfold stoA; ac_rfl)
    have hsy := sync_any w7 S7 s2 j2 d n P J4 D4 _ h8 hsj4.jt.inv.dok
    have hfl : J4.flush D4 = (0, J4, D4.flushed) := by
     rcases flush_armed hsj4.jt.inv arOk_none with ⟨_, h⟩ | ⟨⟨K, hK⟩, _⟩
     ·exact h
     ·cases hK
    rw [hfl] at hsy
    have D7x := SL.hid (DB.trans d7)
    clear h7 h8 kc kb hcb hcm hHeld HBA hbx db hfl H5 D5 c0 hJn
    go_wp2_with fail
    (with_reducible refine hsy.mono ?_)
    rintro e w8 ⟨rfl, h8, d8⟩
    have hsj5 := hsj4.flushed
    have hs5 : D4.flushed.sec.length = P + 1 := (flushed_counts _).2.2.2.trans hs4
    generalize D4.flushed = D5x at h8 hsj5 hs5
    have hmt := mount_any w8 S7 d n P 2 J4 D5x _ none _ (by rw [wth_none]; exact h8.to (by ac_rfl : _ = devA S7 d D5x * (pool S7 * (((stoA s2 j2 d n P J4 * Q9) * pt hb (.cells (ints (List.replicate n (-1))) 3 (0, 0))) * whole w)))) (Sj.mnt hsj5) (by decide) Hg.out hs5 arOk_none (fun w' X hx => HF.out w' (X * ((stoA s2 j2 d n P J4 * Q9) * pt hb (.cells (ints (List.replicate n (-1))) 3 (0, 0)))) (hx.to (by ac_rfl)))
    have D8x := SL.hid (D7x.out.trans d8)
    clear hsy h8 d8 hsj4 hs4 D7x hsj5 hs5
    go_wp2_with fail
    (with_reducible refine hmt.mono ?_)
    rintro e w9 (⟨E1, hne, _⟩ | ⟨s3, j3, S11, J7, D7y, has7, o7, hE7x, rfl, h9, d9, hok7⟩)
    ·exact absurd rfl hne
    have ho := hok7.ar.none rfl
    subst ho
    rw [wth_none] at h9
    have hq9 : Sat w9 (pt hb (.cells (ints (List.replicate n (-1))) 3 (0, 0)) * (stoA s3 j3 d n P J7 * (devA S11 d D7y * (pool S11 * ((stoA s2 j2 d n P J4 * Q9) * whole w))))) := h9.to (by ac_rfl)
    have hget : (ints (List.replicate n (-1)))[1]? = some (.int .i64 (-1)) := by
     rw [get_ints_lt (by rw [List.length_replicate]; omega)]
     congr 2
     simp [List.getD, List.getElem?_replicate, show 1 < n by omega]
    have k1 : w9.cell? ⟨hb, 1, none⟩ = some (.int .i64 (-1)) := (hq9.cell 1).trans hget
    have fk1 := hq9.frozen 1
    have hset := hq9.setCell 1 (.int .i64 9)
    rw [set_ints] at hset
    have hlen : ((List.replicate n (-1 : Int)).set 1 9).length = n := by rw [List.length_set, List.length_replicate]
    have hls : Lst (pt hb (.cells (ints ((List.replicate n (-1)).set 1 9)) 3 (0, 0)) * ((stoA s2 j2 d n P J4 * Q9) * whole w)) (.slice (some ⟨hb, 0, none⟩) n n) n ((List.replicate n (-1)).set 1 9) := lst_pt (by omega) hlen fun i hi => by
     by_cases e : i = 1
     ·subst e
      rw [List.getD, List.getElem?_set_self (by rw [List.length_replicate]; omega)]
      exact .inr (by decide)
     ·rw [List.getD, List.getElem?_set_ne (fun h => e h.symm)]
      exact .inl (by simp [List.getElem?_replicate, hi])
    have his := is11_any (w9.setCell ⟨hb, 1, none⟩ (.int .i64 9)) S11 s3 j3 d n P 4 (superE n P) J7 D7y has7 (.slice (some ⟨hb, 0, none⟩) n n) ((List.replicate n (-1)).set 1 9) _ (hset.to (by ac_rfl : _ = stoA s3 j3 d n P J7 * (devA S11 d D7y * (pool S11 * (pt hb (.cells (ints ((List.replicate n (-1)).set 1 9)) 3 (0, 0)) * ((stoA s2 j2 d n P J4 * Q9) * whole w)))))) hok7.sj (by omega) hls
    have hsay := says_same (says_one (by omega : 1 < n) 9 (by decide)) hok7.same
    have Hsay := SL.hid hsay; have HDs := SL.hid ((D8x.out.trans d9).setCell ⟨hb, 1, none⟩ (.int .i64 9))
    clear hmt h9 d9 D8x hok7 hq9 hget hset hlen hls hsay
    go_wp2_with fail
    (with_reducible refine his.mono ?_)
    rintro e w13 ⟨bb, k9, rfl, hbb, hk9, h13, d13⟩
    obtain rfl : bb = true := hbb.2 Hsay.out
    have Hfin := SL.hid (h13.to (by ac_rfl : _ = (stoA s3 j3 d n P J7 * (devA S11 d ({ D7y with cr := addN D7y.cr k9 } : Dev) * (pool S11 * (pt hb (.cells (ints ((List.replicate n (-1)).set 1 9)) 3 (0, 0)) * (stoA s2 j2 d n P J4 * Q9))))) * whole w)).right; have HDf := SL.hid (HDs.out.trans d13)
    clear his h13 d13 hbb HDs k1 fk1
    go_wp2_with fail
    go_ret
    exact ⟨rfl, Hfin.out, HDf.out⟩
end Go.Proofs.YtdafdidmbeecfaaGreatDoor.Su
end

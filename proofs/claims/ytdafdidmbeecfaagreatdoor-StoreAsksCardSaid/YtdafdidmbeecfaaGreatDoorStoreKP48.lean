/- Steps towards the statement StoreK. -/
import Derived.Test.YtdafdidmbeecfaaGreatDoorStoreKP45
import Derived.Deep.DeepCutAuto
import Derived.Deep.CutBlock
import Derived.Deep.CutRange
section
namespace Go.Proofs.YtdafdidmbeecfaaGreatDoor.Su
set_option linter.unusedVariables false
set_option linter.unusedSimpArgs false
open Go.RowKit Go.SL Go.Proofs.YtdafdidmbeecfaaGreatDoor Go.Proofs.YtdafdidmbeecfaaGreatDoor.Ba
section
variable (w : World) (S : Hp) (s j d n P B : Nat) (J : Jr) (D : Dev) (has : Has) (F : Assn)
def ReadS (z : Int) (e : Ending) (w' : World) : Prop :=
 ∃ (a : Option Addr) (ln c k : Nat) (g : Int) (Q : Assn), e = .returned (.tuple #[.slice a ln c, .int .i64 g]) ∧ Sat w' (stoA s j d n P J * (devA S d ({ D with cr := addN D.cr k } : Dev) * (pool S * (Q * F)))) ∧ Side w w' ∧ k ≤ 1 ∧ (0 ≤ z ∧ z < (n : Int) → g = 0 ∧ ln = 480) ∧ (¬ (0 ≤ z ∧ z < (n : Int)) → g = 1 ∧ k = 0)
theorem readS_any (z : Int) (h : Sat w (stoA s j d n P J * (devA S d D * (pool S * F)))) (hL : LawS n P B J D has) :
  Calls Tryz.prog 21 #[ptV j, .int .i64 z] w (ReadS w S s j d n P J D F z) := by
 have := jread_any w S j d J D z (pt s (.cells #[ptV j, .int .i64 (n : Int), .int .i64 (P : Int)] 42 (0, 0)) * F) (h.to (by unfold stoA; ac_rfl)) hL.sj.jt.inv.ok hL.sj.jt.inv.dok
 refine this.mono ?_
 rintro e w' ⟨dv, rfl, h2, d2⟩
 by_cases hz : 0 ≤ z ∧ z < (n : Int)
 ·obtain ⟨k, hk, hR⟩ : ∃ k, k ≤ 1 ∧ J.read D z = ((0, rdH has z), J, ({ D with cr := addN D.cr k } : Dev)) := by
   rcases read_armed hL.sj.jt.inv arOk_none (id := z) hz.1 (by rw [hL.sj.jt.jn]; exact hz.2) with ⟨o', r, hA, hr, hR⟩ | ⟨J', hh, _⟩
   ·rw [hA.none rfl] at hR
    rcases hr with rfl | rfl
    ·exact ⟨0, by omega, hR⟩
    ·exact ⟨1, by omega, hR⟩
   ·obtain ⟨K, hK⟩ := hh; cases hK
  rw [hR] at h2 ⊢
  have h3 := h2.ansYes
  obtain ⟨va, vc, rfl⟩ := h3.bsRd.shape
  have hl := rdH_len hL.sj.jt.inv z
  exact ⟨va, _, vc, k, 0, _, rfl, h3.to (by unfold stoA; ac_rfl : _ = stoA s j d n P J * (devA S d ({ D with cr := addN D.cr k } : Dev) * (pool S * (bs 5 (.slice va (rdH has z).length vc) (rdH has z) * F)))), d2, hk, fun _ => ⟨rfl, hl⟩, fun h => absurd hz h⟩
 ·have hR : J.read D z = ((1, []), J, D) := by
   unfold Jr.read
   rw [if_pos (by rw [hL.sj.jt.jn]; omega)]
  rw [hR] at h2 ⊢
  obtain ⟨a, k, c, rfl⟩ := h2.ansSlice
  exact ⟨a, k, c, 0, 1, _, rfl, h2.to (by unfold stoA; ac_rfl : _ = stoA s j d n P J * (devA S d D * (pool S * (ansA 5 (1, []) (.slice a k c) * F)))), d2, by omega, fun h => absurd h hz, fun _ => ⟨rfl, rfl⟩⟩
def NoS (e : Ending) (w' : World) : Prop := ∃ (S' : Hp) (Q : Assn), Ext S S' ∧ e = .returned (.int .i64 1) ∧ Sat w' (stoA s j d n P J * (devA S' d D * (pool S' * (Q * F)))) ∧ Side w w'
theorem bs_zs {w : World} {g k : Nat} {F : Assn} (hk : k ≤ 1000) (h : Sat w (pt g (.cells (u8s (zs k)) 5 (0, 0)) * F)) : Sat w (bs 5 (.slice (some ⟨g, 0, none⟩) k k) (zs k) * F) := by
 have h2 := Sat.slOf (n := k) (cap := k) (sz := 1) h (by omega) (by unfold maxLen; omega) (by rw [show (u8s (zs k)).size = (zs k).length by simp [u8s], zs_len, Nat.mul_one])
 have e : (u8s (zs k)).toList.take (k * 1) = (zs k).map SL.u8 := by
  have : (u8s (zs k)).toList = (zs k).map SL.u8 := by simp [u8s]
  rw [this, List.take_of_length_le (by rw [List.length_map, zs_len]; omega)]
 rw [e] at h2
 unfold bs
 rw [zs_len]; exact h2
theorem no_commit (J : Jr) (D : Dev) (L : Bl) : jcommit J D false L = (1, J, D) := by unfold jcommit; rw [if_pos rfl]
theorem commitShort_any (g wb : Nat) (z : Int) (h : Sat w (pt wb (.cells #[.int .i64 z, .slice (some ⟨g, 0, none⟩) 479 479] 57 (0, 0)) * (pt g (.cells (u8s (zs 479)) 5 (0, 0)) * (stoA s j d n P J * (devA S d D * (pool S * F)))))) (hL : LawS n P B J D has) :
  Calls Tryz.prog 19 #[ptV j, .slice (some ⟨wb, 0, none⟩) 1 1] w (NoS w S s j d n P J D F) := by
 have h1 : Sat w (bs 5 (.slice (some ⟨g, 0, none⟩) 479 479) (zs 479) * (pt wb (.cells #[.int .i64 z, .slice (some ⟨g, 0, none⟩) 479 479] 57 (0, 0)) * (stoA s j d n P J * (devA S d D * (pool S * F))))) := bs_zs (by decide) (h.to (by ac_rfl))
 have := jcommit_any w S j d J D (pt wb (.cells #[.int .i64 z, .slice (some ⟨g, 0, none⟩) 479 479] 57 (0, 0)) * (bs 5 (.slice (some ⟨g, 0, none⟩) 479 479) (zs 479) * (pt s (.cells #[ptV j, .int .i64 (n : Int), .int .i64 (P : Int)] 42 (0, 0)) * F))) (.slice (some ⟨wb, 0, none⟩) 1 1) [(z, .slice (some ⟨g, 0, none⟩) 479 479, zs 479)] (h1.to (by unfold stoA; ac_rfl)) hL.sj.jt.inv.ok hL.sj.jt.inv.nums hL.sj.jt.inv.dok (by simp) (by
  intro S' X w' hE h'
  have h2 : Sat w' (pt wb (.cells #[.int .i64 z, .slice (some ⟨g, 0, none⟩) 479 479] 57 (0, 0)) * (bs 5 (.slice (some ⟨g, 0, none⟩) 479 479) (zs 479) * (X * (pool S' * (pt s (.cells #[ptV j, .int .i64 (n : Int), .int .i64 (P : Int)] 42 (0, 0)) * F))))) := h'.to (by ac_rfl)
  refine ⟨.inr ⟨wb, 0, 1, rfl, by simp, by unfold maxLen; omega, fun k hk => ?_⟩, fun y hy => ?_⟩
  ·have hk : k < 1 := hk
   obtain rfl : k = 0 := by omega
   exact ⟨h2.cell 0, h2.cell 1⟩
  ·obtain rfl : y = (z, .slice (some ⟨g, 0, none⟩) 479 479, zs 479) := by simpa using hy
   exact (h2.front2).bsRd) false ⟨fun h => (by cases h), fun h => by
   have := (h.ok 0 (by simp)).2.2.1
   have e : (zs 479).length = 480 := this
   rw [zs_len] at e
   exact absurd e (by decide)⟩
 rw [no_commit] at this
 refine this.mono ?_
 rintro e w' ⟨S', hE, rfl, h3, d3⟩
 exact ⟨S', _, hE, rfl, h3.to (by unfold stoA; ac_rfl : _ = stoA s j d n P J * (devA S' d D * (pool S' * ((pt wb (.cells #[.int .i64 z, .slice (some ⟨g, 0, none⟩) 479 479] 57 (0, 0)) * bs 5 (.slice (some ⟨g, 0, none⟩) 479 479) (zs 479)) * F)))), d3⟩
theorem commitTwice_any (g g2 wb : Nat) (z : Int) (h : Sat w (pt wb (.cells #[.int .i64 z, .slice (some ⟨g, 0, none⟩) 480 480, .int .i64 z, .slice (some ⟨g2, 0, none⟩) 480 480] 57 (0, 0)) * (pt g (.cells (u8s (zs 480)) 5 (0, 0)) * (pt g2 (.cells (u8s (zs 480)) 5 (0, 0)) * (stoA s j d n P J * (devA S d D * (pool S * F))))))) (hL : LawS n P B J D has) :
  Calls Tryz.prog 19 #[ptV j, .slice (some ⟨wb, 0, none⟩) 2 2] w (NoS w S s j d n P J D F) := by
 obtain ⟨W, hW⟩ : ∃ W, W = pt wb (.cells #[.int .i64 z, .slice (some ⟨g, 0, none⟩) 480 480, .int .i64 z, .slice (some ⟨g2, 0, none⟩) 480 480] 57 (0, 0)) := ⟨_, rfl⟩
 rw [← hW] at h
 have h0 : Sat w (bs 5 (.slice (some ⟨g, 0, none⟩) 480 480) (zs 480) * (pt g2 (.cells (u8s (zs 480)) 5 (0, 0)) * (W * (stoA s j d n P J * (devA S d D * (pool S * F)))))) := bs_zs (by decide) (h.to (by ac_rfl))
 have h1 : Sat w (bs 5 (.slice (some ⟨g2, 0, none⟩) 480 480) (zs 480) * (bs 5 (.slice (some ⟨g, 0, none⟩) 480 480) (zs 480) * (W * (stoA s j d n P J * (devA S d D * (pool S * F)))))) := bs_zs (by decide) (h0.to (by ac_rfl))
 have := jcommit_any w S j d J D (W * (bs 5 (.slice (some ⟨g, 0, none⟩) 480 480) (zs 480) * (bs 5 (.slice (some ⟨g2, 0, none⟩) 480 480) (zs 480) * (pt s (.cells #[ptV j, .int .i64 (n : Int), .int .i64 (P : Int)] 42 (0, 0)) * F)))) (.slice (some ⟨wb, 0, none⟩) 2 2) [(z, .slice (some ⟨g, 0, none⟩) 480 480, zs 480), (z, .slice (some ⟨g2, 0, none⟩) 480 480, zs 480)] (h1.to (by unfold stoA; ac_rfl)) hL.sj.jt.inv.ok hL.sj.jt.inv.nums hL.sj.jt.inv.dok (by simp) (by
  intro S' X w' hE h'
  have h2 : Sat w' (W * (bs 5 (.slice (some ⟨g, 0, none⟩) 480 480) (zs 480) * (bs 5 (.slice (some ⟨g2, 0, none⟩) 480 480) (zs 480) * (X * (pool S' * (pt s (.cells #[ptV j, .int .i64 (n : Int), .int .i64 (P : Int)] 42 (0, 0)) * F)))))) := h'.to (by ac_rfl)
  refine ⟨.inr ⟨wb, 0, 2, rfl, by simp, by unfold maxLen; omega, fun k hk => ?_⟩, fun y hy => ?_⟩
  ·have hk : k < 2 := hk
   rw [hW] at h2
   rcases (by omega : k = 0 ∨ k = 1) with rfl | rfl
   ·exact ⟨h2.cell 0, h2.cell 1⟩
   ·exact ⟨h2.cell 2, h2.cell 3⟩
  ·have hy2 : y = (z, .slice (some ⟨g, 0, none⟩) 480 480, zs 480) ∨ y = (z, .slice (some ⟨g2, 0, none⟩) 480 480, zs 480) := by simpa using hy
   rcases hy2 with rfl | rfl
   ·exact (h2.front2).bsRd
   ·exact (h2.front3).bsRd) false ⟨fun h => (by cases h), fun h => by
   have := (h.ok 1 (by simp)).2.2.2
   exact absurd this (by simp)⟩
 rw [no_commit] at this
 refine this.mono ?_
 rintro e w' ⟨S', hE, rfl, h3, d3⟩
 exact ⟨S', _, hE, rfl, h3.to (by unfold stoA; ac_rfl : _ = stoA s j d n P J * (devA S' d D * (pool S' * ((W * (bs 5 (.slice (some ⟨g, 0, none⟩) 480 480) (zs 480) * bs 5 (.slice (some ⟨g2, 0, none⟩) 480 480) (zs 480))) * F)))), d3⟩
theorem commitNil_any (h : Sat w (stoA s j d n P J * (devA S d D * (pool S * F)))) (hL : LawS n P B J D has) :
  Calls Tryz.prog 19 #[ptV j, .slice none 0 0] w (NoS w S s j d n P J D F) := by
 have := jcommit_any w S j d J D (pt s (.cells #[ptV j, .int .i64 (n : Int), .int .i64 (P : Int)] 42 (0, 0)) * F) (.slice none 0 0) [] (h.to (by unfold stoA; ac_rfl)) hL.sj.jt.inv.ok hL.sj.jt.inv.nums hL.sj.jt.inv.dok (by simp) (fun S' X w' hE h' => ⟨.inl ⟨rfl, rfl⟩, fun y hy => (by cases hy)⟩) false ⟨fun h => (by cases h), fun h => absurd h.n0 (by simp)⟩
 rw [no_commit] at this
 refine this.mono ?_
 rintro e w' ⟨S', hE, rfl, h3, d3⟩
 exact ⟨S', emp, hE, rfl, by rw [emp_star]; exact h3.to (by unfold stoA; ac_rfl), d3⟩
end
end Go.Proofs.YtdafdidmbeecfaaGreatDoor.Su
end
section
namespace Go.Proofs.YtdafdidmbeecfaaGreatDoor.Su
set_option linter.unusedVariables false
set_option linter.unusedSimpArgs false
open Go.RowKit Go.SL Go.Proofs.YtdafdidmbeecfaaGreatDoor Go.Proofs.YtdafdidmbeecfaaGreatDoor.Ba
def AskRel (d n P s j m : Nat) (J : Jr) (has : Has) (w : World) (ui : Value) (wr : World) : Prop :=
 ∃ (i : Nat) (S : Hp) (D : Dev) (Y : Assn), i ≤ m ∧ ui = .int .i64 (i : Int) ∧ LawS n P (i + 31) J D has ∧ Sat wr (stoA s j d n P J * (devA S d D * (pool S * (Y * whole w)))) ∧ Side w wr
set_option maxRecDepth 100000 in
set_option maxHeartbeats 40000000 in
theorem asks_any (w : World) (hh : Half w) (blocks : Int) (a0 : Option Addr) (len0 cap0 : Nat) (X0 : Nat → StV) (b0 : Option Addr) (ilen icap : Nat) (iz : List Int) (hX : IsSts w a0 len0 cap0 X0) (hI : IsInts w b0 ilen icap iz) :
  Calls Tryz.prog 4 #[.int .i64 blocks, .slice a0 len0 cap0, .slice b0 ilen icap] w (ShownQ w) := by
 have hF : ∀ w' X, Sat w' (X * whole w) → Half w' := fun w' X h => hh.old h
 have HF := SL.hid hF
 have hsh := shown11_any w hh
 have ha := and16 blocks
 obtain ⟨n, hn, hn4, hn20⟩ : ∃ n : Nat, (n : Int) = 4 + blocks % 65536 % 17 ∧ 4 ≤ n ∧ n ≤ 20 := ⟨(4 + blocks % 65536 % 17).toNat, by omega, by omega, by omega⟩
 have hs0 : 0 ≤ blocks % 65536 := by omega
 have hs1 : blocks % 65536 ≤ 65535 := by omega
 have Hn := SL.hid hn
 have hlen0 := hX.len_le
 have hlen0' : (len0 : Int) ≤ 9223372036854775807 := by omega
 have HX := SL.hid hX
 have hg := geo_least hn4 hn20
 have hle : ∀ w, Calls Tryz.prog 13 #[.int .i64 (n : Int)] w fun e w' => e = .returned (.int .i64 (((5 * n + 241) / 2 : Nat) : Int)) ∧ w = w' := fun w => by rw [← leastI_nat hn4 (by omega)]; exact least_any w n
 have hP200 : (5 * n + 241) / 2 ≤ 200 := by omega
 generalize (5 * n + 241) / 2 = P at hg hle hP200
 have Hg := SL.hid hg
 have hn4' : (4 : Int) ≤ (n : Int) := by omega
 have hn20' : (n : Int) ≤ 20 := by omega
 have hPi : (P : Int) ≤ 200 := by omega
 have hnew : ∀ w, Calls Tryz.prog 10 #[.int .i64 ((P : Int) + 1)] w _ := fun w => new_any (P + 1) (by omega) (by omega) w
 generalize blocks % 65536 = t at *
 clear hn hh hF hX hg hlen0
 have hilen := hI.len_le
 have hilen' : (ilen : Int) ≤ 9223372036854775807 := by omega
 have HI := SL.hid hI
 clear hI hilen
 go_enter Tryz.func4, Tryz.ntmps4
 go_wp2_with fail
 (with_reducible refine hsh.mono ?_)
 rintro e w1 ⟨rfl, h1, d1⟩
 clear hsh
 go_wp2_with fail
 rw [← Hn.out]
 (with_reducible refine (hle _).mono ?_)
 rintro e w2 ⟨rfl, rfl⟩
 go_wp2_with fail
 (with_reducible refine (hnew _).mono ?_)
 rintro e w2 ⟨d, rfl, h2, d2⟩
 have H2 : Sat w2 (devA NoB d (Dev.fresh (P + 1)) * (pool NoB * whole w)) := (((h2 NoB).under h1).poolEmp).to (by ac_rfl)
 have hfm := formatS_any w2 d n P (whole w) H2 Hg.out HF.out
 have D2 := d1.trans d2
 clear h1 h2 d1 d2 H2 hnew
 go_wp2_with fail
 (with_reducible refine hfm.mono ?_)
 rintro e w3 ⟨s, j, S3, D3, rfl, h3, d3, hL3, hw3⟩
 have H5h := SL.hid (h3.to (by rw [emp_star]) : Sat w3 (stoA s j d n P (J0 P n) * (devA S3 d D3 * (pool S3 * (emp * whole w)))))
 have D5h := SL.hid (D2.trans d3); have HL3 := SL.hid hL3; have Hw3 := SL.hid hw3
 clear h3 d3 D2 hfm hL3 hw3
 go_upto_block 0 with (fail)
 go_cut [] from 55 to 79 (fun wx => Bat0 d n P s j 31 w wx)
 case first =>
  go_wp2_with fail
  go_loopw [12] (fun ui wr => Bat0Rel d n P s j 30 w ui wr) (fun u _ => 30 - (intOf u).toNat)
  case atStart => exact ⟨0, Nat.zero_le _, rfl, S3, J0 P n, D3, noH, _, HL3.out, ⟨crs_dry HL3.out Hw3.out, by rw [Hw3.out]; simp⟩, H5h.out, D5h.out⟩
  case round =>
   clear H5h D5h HL3 Hw3
   obtain ⟨i, hi, rfl, S, J, D, has, Y, hL, hC, hsat, hside⟩ := hrel
   by_cases hlt : i < len0 ∧ i < 30
   ·obtain ⟨hlt, h80⟩ := hlt
    have hlt' : (i : Int) < (len0 : Int) := by omega
    have h80' : (i : Int) < 30 := by omega
    obtain ⟨b, off, rfl, hSt, hlc, hcapX⟩ := HX.out.cell hlt
    obtain ⟨x, hx⟩ : ∃ x, x = X0 i := ⟨_, rfl⟩
    rw [← hx] at hSt
    have hW0 : Sat wr ((stoA s j d n P J * (devA S d D * (pool S * Y))) * whole w) := hsat.to (by ac_rfl)
    obtain ⟨c0, c1, c2, c3, c4⟩ := hSt.old hW0
    have hwr := writes11_any wr n (by omega) (by omega) x.kd x.dt x.nn x.ia x.il x.ic x.iz (ints_old hSt.ids hW0) (.slice x.ka x.kl x.kc)
    unfold stepV at hwr
    have HL := SL.hid hL; have Hsat := SL.hid hsat; have Hsd := SL.hid hside
    have HC := SL.hid hC
    clear hx hSt hL hC hW0 hsat hside hlt h80
    obtain ⟨xkd, xdt, xnn, xia, xil, xic, xiz, xka, xkl, xkc, xkz⟩ := x
    dsimp only at *
    go_wp2_with fail
    (with_reducible refine hwr.mono ?_)
    rintro e w9 ⟨v, L, rfl, hW, h9, d9⟩
    obtain ⟨va, vc, rfl⟩ := hW.sh
    obtain ⟨m, hm⟩ : ∃ m, m = L.length := ⟨_, rfl⟩
    have hm24 : m ≤ 24 := by rw [hm]; exact hW.l24
    have hm24' : (m : Int) ≤ 24 := by omega
    have Hm := SL.hid hm; have HW := SL.hid hW
    have h9' := h9.under Hsat.out
    have D9 := Hsd.out.trans d9
    rw [← hm]
    clear hwr h9 d9 hm hW c0 c1 c2 c3 c4 Hsat Hsd
    by_cases h0 : m = 0
    ·have hfin : Sat w9 (stoA s j d n P J * (devA S d D * (pool S * ((wrsA (.slice va L.length vc) L * Y) * whole w)))) := h9'.to (by ac_rfl)
     have Hfin := SL.hid hfin; have HD9 := SL.hid D9
     have h0' : ¬ 0 < (m : Int) := by omega
     clear h9' D9 hfin h0
     go_wp2_with fail
     go_roundw
     case rel => exact ⟨i + 1, by omega, by go_num, S, J, D, has, _, HL.out.more (by omega), ⟨HC.out.1.more (by omega), HC.out.2⟩, Hfin.out, HD9.out⟩
     case measure => simp [intOf]; omega
    ·have h0' : 0 < (m : Int) := by omega
     have H9 : Sat w9 (stoA s j d n P J * (devA S d D * (pool S * (wrsA (.slice va L.length vc) L * (Y * whole w))))) := h9'.to (by ac_rfl)
     have cs := sto_cell H9
     have hcm := commitS_any w9 S s j d n P (i + 1) J D has _ _ L H9 HL.out Hg.out (by omega) HW.out (by rw [← Hm.out]; omega)
     rw [← Hm.out] at hcm
     have HD9 := SL.hid D9
     clear h9' H9 D9
     go_wp2_with fail
     (with_reducible refine hcm.mono ?_)
     rintro e w10 ⟨S2, J2, D2, hE2, rfl, h10, d10, hL2, k1, k2, k3, k4, k5, k6, k7, k8⟩
     have D10 := HD9.out.trans d10
     have hL2' := SL.hid hL2
     have Hfin := SL.hid (h10.to (by ac_rfl : _ = stoA s j d n P J2 * (devA S2 d D2 * (pool S2 * ((wrsA (.slice va m vc) L * Y) * whole w))))); have HDf := SL.hid D10
     have HC2 := SL.hid (And.intro (crs_comm k7) k8)
     clear hcm h10 d10 D10 hL2 k1 k2 k3 k4 k5 k6 k7 k8 cs HD9 h0'
     go_wp2_with fail
     go_roundw
     case rel => exact ⟨i + 1, by omega, by go_num, S2, J2, D2, _, _, hL2'.out, HC2.out, Hfin.out, HDf.out⟩
     case measure => simp [intOf]; omega
   ·have HL := SL.hid hL; have Hsat := SL.hid hsat; have Hsd := SL.hid hside
    have HC := SL.hid hC
    clear hL hC hsat hside
    by_cases hl1 : i < len0
    ·have hl1' : (i : Int) < (len0 : Int) := by omega
     have hl2' : ¬ (i : Int) < 30 := fun h => hlt ⟨hl1, by omega⟩
     clear hlt
     go_wp2_with fail
     go_meet
     exact ⟨S, J, D, has, Y, HL.out.more (by omega), ⟨HC.out.1.more (by omega), HC.out.2⟩, Hsat.out, Hsd.out⟩
    ·have hl1' : ¬ (i : Int) < (len0 : Int) := by omega
     clear hlt
     go_wp2_with fail
     go_meet
     exact ⟨S, J, D, has, Y, HL.out.more (by omega), ⟨HC.out.1.more (by omega), HC.out.2⟩, Hsat.out, Hsd.out⟩
 case rest =>
  clear H5h D5h HL3 Hw3
  obtain ⟨S, J, D, has, Y, hL, hC, hsat, hside⟩ := hcut
  obtain ⟨q, hq⟩ : ∃ x, x = J.sq := ⟨_, rfl⟩
  have hsq := seq_any wc s j d n P J _ hsat hL.sj.jt.inv.ok
  unfold SeqQ at hsq
  rw [← hq] at hsq
  have HL0 := SL.hid hL; have Hsd := SL.hid hside; have Hq := SL.hid hq
  clear hL hC hsat hside hq
  go_wp2_with fail
  (with_reducible refine hsq.mono ?_)
  rintro e w5 ⟨rfl, h5, d5⟩
  have H5 := SL.hid h5; have D5 := SL.hid (Hsd.out.trans d5)
  clear hsq h5 d5 Hsd
  go_wp2_with fail
  go_loopw [15] (fun ui wr => AskRel d n P s j 40 J has w ui wr) (fun u _ => 40 - (intOf u).toNat)
  case atStart => exact ⟨0, S, D, Y, Nat.zero_le _, rfl, HL0.out, H5.out, D5.out⟩
  case round =>
   clear HL0 H5 D5 S D Y
   obtain ⟨i, S, D, Y, hi, rfl, hL, hsat, hside⟩ := hrel
   by_cases hlt : i < ilen ∧ i < 40
   ·obtain ⟨hlt, h40⟩ := hlt
    have hlt' : (i : Int) < (ilen : Int) := by omega
    have h40' : (i : Int) < 40 := by omega
    obtain ⟨ib, io, rfl, hcz, hlc, hcapX⟩ := HI.out.cell hlt
    obtain ⟨z, hz⟩ : ∃ z, z = iz.getD i 0 := ⟨_, rfl⟩
    rw [← hz] at hcz
    have cz : wr.cell? ⟨ib, io + i, none⟩ = some (.int .i64 z) := (hsat.to (by ac_rfl : _ = (stoA s j d n P J * (devA S d D * (pool S * Y))) * whole w)).cellOld hcz
    have Hcz := SL.hid hcz; have HL := SL.hid hL; have Hsat := SL.hid hsat; have Hsd := SL.hid hside
    clear hz hcz hL hsat hside hlt h40
    go_upto_region 19 with (fail)
    go_cut [16] from 92 to 104 (fun u16 wx => u16 = .bool (decide (0 ≤ z ∧ z < (n : Int))) ∧ wr = wx)
    case first =>
     by_cases h1 : 0 ≤ z
     ·by_cases h2 : z < (n : Int)
      ·go_wp2_with fail
       go_meet
       exact ⟨by rw [decide_eq_true (show 0 ≤ z ∧ z < (n : Int) from ⟨h1, h2⟩)], rfl⟩
      ·go_wp2_with fail
       go_meet
       exact ⟨by rw [decide_eq_false (show ¬ (0 ≤ z ∧ z < (n : Int)) by omega)], rfl⟩
     ·go_wp2_with fail
      go_meet
      exact ⟨by rw [decide_eq_false (show ¬ (0 ≤ z ∧ z < (n : Int)) by omega)], rfl⟩
    case rest =>
     obtain ⟨rfl, rfl⟩ := hcut
     obtain ⟨isb, hisb⟩ : ∃ b, b = decide (0 ≤ z ∧ z < (n : Int)) := ⟨_, rfl⟩
     rw [← hisb]
     have Hisb := SL.hid hisb
     obtain ⟨dcr, hcr⟩ : ∃ x, x = D.cr := ⟨_, rfl⟩
     obtain ⟨dcw, hcw⟩ : ∃ x, x = D.cw := ⟨_, rfl⟩
     obtain ⟨dcf, hcf⟩ : ∃ x, x = D.cf := ⟨_, rfl⟩
     have r0 : 0 ≤ dcr := by rw [hcr]; exact HL.out.nb.cr0
     have r1 : dcr ≤ 30000000 := by have := HL.out.nb.cr1; omega
     have hcn := counts_any wr S d D _ (Hsat.out.to (by ac_rfl : _ = devA S d D * (stoA s j d n P J * (pool S * (Y * whole w)))))
     rw [← hcr, ← hcw, ← hcf] at hcn
     have Hcr := SL.hid hcr; have Hcw := SL.hid hcw; have Hcf := SL.hid hcf
     clear hisb hcr hcw hcf
     go_wp2_with fail
     (with_reducible refine hcn.mono ?_)
     rintro e w6 ⟨rfl, h6, d6⟩
     have h7 := (h6.keepW Hsat.out).alloc (.cells #[.int .i64 dcr, .int .i64 dcw, .int .i64 dcf] 52 (0, 0))
     have D7 := (Hsd.out.trans d6).alloc (.cells #[.int .i64 dcr, .int .i64 dcw, .int .i64 dcf] 52 (0, 0))
     clear hcn h6 d6 Hsat Hsd
     go_upto_region 21 with (fail)
     generalize w6.alloc (.cells #[.int .i64 dcr, .int .i64 dcw, .int .i64 dcf] 52 (0, 0)) = w7 at h7 D7 ⊢
     generalize w6.heap.size = ob at h7 ⊢
     have H7 : Sat w7 (stoA s j d n P J * (devA S d D * (pool S * ((pt ob (.cells #[.int .i64 dcr, .int .i64 dcw, .int .i64 dcf] 52 (0, 0)) * Y) * whole w)))) := h7.to (by ac_rfl)
     have hrd := readS_any w7.drew S s j d n P (i + 31) J D has _ z H7.drew HL.out
     have ca0 := sto_cell H7
     have ca1 : w7.cell? ⟨ib, io + i, none⟩ = some (.int .i64 z) := (H7.to (by ac_rfl : _ = (stoA s j d n P J * (devA S d D * (pool S * (pt ob (.cells #[.int .i64 dcr, .int .i64 dcw, .int .i64 dcf] 52 (0, 0)) * Y)))) * whole w)).cellOld Hcz.out
     have hcell : ∀ w' (Q : Assn) (S' : Hp) (D' : Dev), Sat w' (stoA s j d n P J * (devA S' d D' * (pool S' * (Q * whole w)))) → w'.cell? ⟨s, 0, none⟩ = some (ptV j) ∧ w'.cell? ⟨ib, io + i, none⟩ = some (.int .i64 z) := fun w' Q S' D' h =>
      ⟨sto_cell h, (h.to (by ac_rfl : _ = (stoA s j d n P J * (devA S' d D' * (pool S' * Q))) * whole w)).cellOld Hcz.out⟩
     have Hcell := SL.hid hcell; have D7h := SL.hid D7
     clear h7 H7 D7 cz hcell
     refine wp_region_held_drew (S := (fun w' => w'.cell? ⟨s, 0, none⟩ = some (ptV j) ∧ w'.cell? ⟨ib, io + i, none⟩ = some (.int .i64 z))) (by kernel_rfl) ?_ (fun hHeld => ?_)
     ·first | exact ⟨ca0, ca1⟩ | exact ⟨ca2, ca3⟩
     refine wpAnyH_take (i := 0) (v := ?_) rfl (by kernel_rfl) (by kernel_rfl) (by kernel_rfl) (fun _ _ _ h => h) (Or.inl ⟨by kernel_rfl, ?_⟩) (by assumption) ?_
     rotate_left
     ·intro w hSw; (try dsimp only at hSw); go_simp; try with_reducible rfl
     try simp only [List.getElem_toArray, List.getElem_cons_succ, List.getElem_cons_zero, Act.put, List.setIfInBounds_toArray, List.set_cons_zero, List.set_cons_succ]
     refine wpAnyH_take (i := 1) (v := ?_) rfl (by kernel_rfl) (by kernel_rfl) (by kernel_rfl) (fun _ _ _ h => h) (Or.inl ⟨by kernel_rfl, ?_⟩) (by assumption) ?_
     rotate_left
     ·intro w hSw; (try dsimp only at hSw); go_simp; try with_reducible rfl
     try simp only [List.getElem_toArray, List.getElem_cons_succ, List.getElem_cons_zero, Act.put, List.setIfInBounds_toArray, List.set_cons_zero, List.set_cons_succ]
     refine wpAnyH_take (i := 2) (v := ?_) rfl (by kernel_rfl) (by kernel_rfl) (by kernel_rfl) (fun _ _ _ h => h) (Or.inl ⟨by kernel_rfl, ?_⟩) (by assumption) ?_
     rotate_left
     ·intro w hSw; (try dsimp only at hSw); go_simp; try with_reducible rfl
     try simp only [List.getElem_toArray, List.getElem_cons_succ, List.getElem_cons_zero, Act.put, List.setIfInBounds_toArray, List.set_cons_zero, List.set_cons_succ]
     refine wpAnyH_take (i := 3) (v := ?_) rfl (by kernel_rfl) (by kernel_rfl) (by kernel_rfl) (fun _ _ _ h => h) (Or.inl ⟨by kernel_rfl, ?_⟩) (by assumption) ?_
     rotate_left
     ·intro w hSw; (try dsimp only at hSw); go_simp; try with_reducible rfl
     try simp only [List.getElem_toArray, List.getElem_cons_succ, List.getElem_cons_zero, Act.put, List.setIfInBounds_toArray, List.set_cons_zero, List.set_cons_succ]
     refine wpAnyH_take (i := 4) (v := ?_) rfl (by kernel_rfl) (by kernel_rfl) (by kernel_rfl) (fun _ _ _ h => h) (Or.inl ⟨by kernel_rfl, ?_⟩) (by assumption) ?_
     rotate_left
     ·intro w hSw; (try dsimp only at hSw); go_simp; try with_reducible rfl
     try simp only [List.getElem_toArray, List.getElem_cons_succ, List.getElem_cons_zero, Act.put, List.setIfInBounds_toArray, List.set_cons_zero, List.set_cons_succ]
     refine wpAnyH_take (i := 5) (v := ?_) rfl (by kernel_rfl) (by kernel_rfl) (by kernel_rfl) (fun _ _ _ h => h) (Or.inl ⟨by kernel_rfl, ?_⟩) (by assumption) ?_
     rotate_left
     ·intro w hSw; (try dsimp only at hSw); go_simp; try with_reducible rfl
     try simp only [List.getElem_toArray, List.getElem_cons_succ, List.getElem_cons_zero, Act.put, List.setIfInBounds_toArray, List.set_cons_zero, List.set_cons_succ]
     refine wpAnyH_take (i := 6) (v := ?_) rfl (by kernel_rfl) (by kernel_rfl) (by kernel_rfl) (fun _ _ _ h => h) (Or.inl ⟨by kernel_rfl, ?_⟩) (by assumption) ?_
     rotate_left
     ·intro w hSw; (try dsimp only at hSw); go_simp; try with_reducible rfl
     try simp only [List.getElem_toArray, List.getElem_cons_succ, List.getElem_cons_zero, Act.put, List.setIfInBounds_toArray, List.set_cons_zero, List.set_cons_succ]
     refine wpAnyH_take (i := 7) (v := ?_) rfl (by kernel_rfl) (by kernel_rfl) (by kernel_rfl) (fun _ _ _ h => h) (Or.inl ⟨by kernel_rfl, ?_⟩) (by assumption) ?_
     rotate_left
     ·intro w hSw; (try dsimp only at hSw); go_simp; try with_reducible rfl
     try simp only [List.getElem_toArray, List.getElem_cons_succ, List.getElem_cons_zero, Act.put, List.setIfInBounds_toArray, List.set_cons_zero, List.set_cons_succ]
     refine wpAnyH_ready (rs := [8]) (by kernel_rfl) (by simp) ?_
     refine AllReadyH.cons rfl (fun K hK => ?_) AllReadyH.nil
     go_simp
     go_wp2_with (go_at_call 21; go_loud ((with_reducible refine hrd.mono ?_); rintro e w8 ⟨a8, l8, c8, k8, g8, Qx8, rfl, h8, d8, hk8, hy8, hn8⟩; obtain ⟨Q8, hQ8⟩ : ∃ Q8, Qx8 * ((pt ob (.cells #[.int .i64 dcr, .int .i64 dcw, .int .i64 dcf] 52 (0, 0)) * Y) * whole w) = Q8 * whole w := ⟨_, (SL.star_assoc _ _ _).symm⟩; have ca2 := (Hcell.out w8 Q8 S _ (by rw [← hQ8]; exact h8)).1; have ca3 := (Hcell.out w8 Q8 S _ (by rw [← hQ8]; exact h8)).2))
     refine hK.out _ _ ?_ (fun hHeld => ?_)
     ·first | exact ⟨ca0, ca1⟩ | exact ⟨ca2, ca3⟩
     clear hK K
     refine wpAnyH_take (i := 9) (v := ?_) rfl (by kernel_rfl) (by kernel_rfl) (by kernel_rfl) (fun _ _ _ h => h) (Or.inl ⟨by kernel_rfl, ?_⟩) (by assumption) ?_
     rotate_left
     ·intro w hSw; (try dsimp only at hSw); go_simp; try with_reducible rfl
     try simp only [List.getElem_toArray, List.getElem_cons_succ, List.getElem_cons_zero, Act.put, List.setIfInBounds_toArray, List.set_cons_zero, List.set_cons_succ]
     refine wpAnyH_take (i := 10) (v := ?_) rfl (by kernel_rfl) (by kernel_rfl) (by kernel_rfl) (fun _ _ _ h => h) (Or.inl ⟨by kernel_rfl, ?_⟩) (by assumption) ?_
     rotate_left
     ·intro w hSw; (try dsimp only at hSw); go_simp; try with_reducible rfl
     try simp only [List.getElem_toArray, List.getElem_cons_succ, List.getElem_cons_zero, Act.put, List.setIfInBounds_toArray, List.set_cons_zero, List.set_cons_succ]
     refine wpAnyH_take (i := 11) (v := ?_) rfl (by kernel_rfl) (by kernel_rfl) (by kernel_rfl) (fun _ _ _ h => h) (Or.inl ⟨by kernel_rfl, ?_⟩) (by assumption) ?_
     rotate_left
     ·intro w hSw; (try dsimp only at hSw); go_simp; try with_reducible rfl
     try simp only [List.getElem_toArray, List.getElem_cons_succ, List.getElem_cons_zero, Act.put, List.setIfInBounds_toArray, List.set_cons_zero, List.set_cons_succ]
     refine wpAnyH_take (i := 12) (v := ?_) rfl (by kernel_rfl) (by kernel_rfl) (by kernel_rfl) (fun _ _ _ h => h) (Or.inl ⟨by kernel_rfl, ?_⟩) (by assumption) ?_
     rotate_left
     ·intro w hSw; (try dsimp only at hSw); go_simp; try with_reducible rfl
     try simp only [List.getElem_toArray, List.getElem_cons_succ, List.getElem_cons_zero, Act.put, List.setIfInBounds_toArray, List.set_cons_zero, List.set_cons_succ]
     refine wpAnyH_take (i := 13) (v := ?_) rfl (by kernel_rfl) (by kernel_rfl) (by kernel_rfl) (fun _ _ _ h => h) (Or.inl ⟨by kernel_rfl, ?_⟩) (by assumption) ?_
     rotate_left
     ·intro w hSw; (try dsimp only at hSw); go_simp; try with_reducible rfl
     try simp only [List.getElem_toArray, List.getElem_cons_succ, List.getElem_cons_zero, Act.put, List.setIfInBounds_toArray, List.set_cons_zero, List.set_cons_succ]
     refine wpAnyH_done (by kernel_rfl) ?_ _
     rw [hQ8] at h8
     obtain ⟨e1, e2⟩ := HL.out.cr (k := k8) (by omega) (by omega)
     have H8 := SL.hid h8; have D8 := SL.hid (D7h.out.drew.trans d8); have HL8 := SL.hid e1
     have ecr : addN D.cr k8 = dcr + (k8 : Int) := by rw [Hcr.out]; exact e2
     have hcn := counts_any w8 S d ({ D with cr := addN D.cr k8 } : Dev) _ (h8.to (by ac_rfl : _ = devA S d ({ D with cr := addN D.cr k8 } : Dev) * (stoA s j d n P J * (pool S * (Q8 * whole w)))))
     have hcn' : Calls Tryz.prog 20 #[.pointer (some ⟨d, 0, none⟩)] w8 (Tells (.agg #[.int .i64 (dcr + (k8 : Int)), .int .i64 dcw, .int .i64 dcf]) w8) := by
      rw [← ecr, Hcw.out, Hcf.out]; exact hcn
     clear h8 d8 D7h e1 e2 hcn hrd ca0 ca1 ca2 ca3
     go_wp2_with fail
     (with_reducible refine hcn'.mono ?_)
     rintro e w9 ⟨rfl, h9, d9⟩
     have h10 := (h9.keepW H8.out).alloc (.cells #[.int .i64 (dcr + (k8 : Int)), .int .i64 dcw, .int .i64 dcf] 52 (0, 0))
     have D10 := (D8.out.trans d9).alloc (.cells #[.int .i64 (dcr + (k8 : Int)), .int .i64 dcw, .int .i64 dcf] 52 (0, 0))
     clear hcn' h9 d9 H8 D8
     go_upto_region 23 with (fail)
     generalize w9.alloc (.cells #[.int .i64 (dcr + (k8 : Int)), .int .i64 dcw, .int .i64 dcf] 52 (0, 0)) = w10 at h10 D10 ⊢
     generalize w9.heap.size = nb at h10 ⊢
     have HD10 := SL.hid D10
     obtain ⟨D8, hD8⟩ : ∃ x : Dev, x = { D with cr := addN D.cr k8 } := ⟨_, rfl⟩
     have e8cr : D8.cr = dcr + (k8 : Int) := by rw [hD8]; exact ecr
     have e8cw : D8.cw = dcw := by rw [hD8]; exact Hcw.out.symm
     have e8cf : D8.cf = dcf := by rw [hD8]; exact Hcf.out.symm
     rw [← hD8] at h10 HL8
     have Ecr := SL.hid e8cr; have Ecw := SL.hid e8cw; have Ecf := SL.hid e8cf
     have H10 : Sat w10 (stoA s j d n P J * (devA S d D8 * (pool S * ((pt nb (.cells #[.int .i64 (dcr + (k8 : Int)), .int .i64 dcw, .int .i64 dcf] 52 (0, 0)) * Q8) * whole w)))) := h10.to (by ac_rfl)
     have hob : ∀ w' Q, Sat w' (Q * (Q8 * whole w)) → w'.cell? ⟨ob, 0, none⟩ = some (.int .i64 dcr) ∧ w'.cell? ⟨ob, 1, none⟩ = some (.int .i64 dcw) ∧ w'.cell? ⟨ob, 2, none⟩ = some (.int .i64 dcf) := fun w' Q h => by
      rw [← hQ8] at h
      have h2 := h.to (by ac_rfl : _ = pt ob (.cells #[.int .i64 dcr, .int .i64 dcw, .int .i64 dcf] 52 (0, 0)) * (Q * (Qx8 * (Y * whole w))))
      exact ⟨h2.cell 0, h2.cell 1, h2.cell 2⟩
     have Hob := SL.hid hob
     obtain ⟨A9, hA9⟩ : ∃ A, A = u8s (zs 479) := ⟨_, rfl⟩
     have hmk9 : ∀ w, (Instr.makeSlice 22 (.int .i64 479) (.int .i64 479)).run Tryz.prog w = .ok (.slice (some ⟨w.heap.size, 0, none⟩) 479 479) (w.alloc (.cells A9 5 (0, 0))) := by rw [hA9]; exact Go.Proofs.YtdafdidmbeecfaaGreatDoor.make_bytes 479 (by decide)
     have hb0 := H10.drew
     have cb := Hcell.out _ _ _ _ hb0
     have hb1 := H10.alloc (.cells A9 5 (0, 0))
     have hb2 := (hb1.alloc (.cells #[.int .i64 z, .slice (some ⟨w10.heap.size, 0, none⟩) 479 479] 57 (0, 0))).drew
     rw [World.size_alloc] at hb2
     have hcm := commitShort_any _ S s j d n P _ J D8 has _ _ _ z (by rw [hA9] at hb2; exact hb2) HL8.out
     rw [← hA9] at hcm
     have dA9 := ((HD10.out.alloc (.cells A9 5 (0, 0))).alloc (.cells #[.int .i64 z, .slice (some ⟨w10.heap.size, 0, none⟩) 479 479] 57 (0, 0))).drew
     obtain ⟨cb1, cb2⟩ := cb
     have HA9 := SL.hid hA9; have HdA9 := SL.hid dA9
     clear h10 D10 hD8 ecr e8cr e8cw e8cf hob H10 hA9 hb0 hb1 hb2 dA9 hQ8
     refine wp_region_held_drew (S := (fun w' => w'.cell? ⟨s, 0, none⟩ = some (ptV j) ∧ w'.cell? ⟨ib, io + i, none⟩ = some (.int .i64 z))) (by kernel_rfl) ?_ (fun hHeld => ?_)
     ·first | exact ⟨cc1, cc2⟩ | exact ⟨cb1, cb2⟩ | exact ⟨cell_alloc _ _ _ _ cb1, cell_alloc _ _ _ _ cb2⟩ | exact ⟨cell_alloc _ _ _ _ (cell_alloc _ _ _ _ cb1), cell_alloc _ _ _ _ (cell_alloc _ _ _ _ cb2)⟩
     refine wpAnyH_take (i := 0) (v := ?_) rfl (by kernel_rfl) (by kernel_rfl) (by kernel_rfl) (fun _ _ _ h => h) (Or.inl ⟨by kernel_rfl, ?_⟩) (by assumption) ?_
     rotate_left
     ·intro w hSw; (try dsimp only at hSw); go_simp; try with_reducible rfl
     try simp only [List.getElem_toArray, List.getElem_cons_succ, List.getElem_cons_zero, Act.put, List.setIfInBounds_toArray, List.set_cons_zero, List.set_cons_succ]
     refine wpAnyH_take (i := 1) (v := ?_) rfl (by kernel_rfl) (by kernel_rfl) (by kernel_rfl) (fun _ _ _ h => h) (Or.inl ⟨by kernel_rfl, ?_⟩) (by assumption) ?_
     rotate_left
     ·intro w hSw; (try dsimp only at hSw); go_simp; try with_reducible rfl
     try simp only [List.getElem_toArray, List.getElem_cons_succ, List.getElem_cons_zero, Act.put, List.setIfInBounds_toArray, List.set_cons_zero, List.set_cons_succ]
     refine wpAnyH_take (i := 2) (v := ?_) rfl (by kernel_rfl) (by kernel_rfl) (by kernel_rfl) (fun _ _ _ h => h) (Or.inl ⟨by kernel_rfl, ?_⟩) (by assumption) ?_
     rotate_left
     ·intro w hSw; (try dsimp only at hSw); go_simp; try with_reducible rfl
     try simp only [List.getElem_toArray, List.getElem_cons_succ, List.getElem_cons_zero, Act.put, List.setIfInBounds_toArray, List.set_cons_zero, List.set_cons_succ]
     refine wpAnyH_take (i := 3) (v := ?_) rfl (by kernel_rfl) (by kernel_rfl) (by kernel_rfl) (fun _ _ _ h => h) (Or.inl ⟨by kernel_rfl, ?_⟩) (by assumption) ?_
     rotate_left
     ·intro w hSw; (try dsimp only at hSw); go_simp; try with_reducible rfl
     try simp only [List.getElem_toArray, List.getElem_cons_succ, List.getElem_cons_zero, Act.put, List.setIfInBounds_toArray, List.set_cons_zero, List.set_cons_succ]
     refine wpAnyH_take (i := 4) (v := ?_) rfl (by kernel_rfl) (by kernel_rfl) (by kernel_rfl) (fun _ _ _ h => h) (Or.inl ⟨by kernel_rfl, ?_⟩) (by assumption) ?_
     rotate_left
     ·intro w hSw; (try dsimp only at hSw); go_simp; try with_reducible rfl
     try simp only [List.getElem_toArray, List.getElem_cons_succ, List.getElem_cons_zero, Act.put, List.setIfInBounds_toArray, List.set_cons_zero, List.set_cons_succ]
     refine wpAnyH_take (i := 5) (v := ?_) rfl (by kernel_rfl) (by kernel_rfl) (by kernel_rfl) (fun _ _ _ h => h) (Or.inl ⟨by kernel_rfl, ?_⟩) (by assumption) ?_
     rotate_left
     ·intro w hSw; (try dsimp only at hSw); go_simp; try with_reducible rfl
     try simp only [List.getElem_toArray, List.getElem_cons_succ, List.getElem_cons_zero, Act.put, List.setIfInBounds_toArray, List.set_cons_zero, List.set_cons_succ]
     refine wpAnyH_take (i := 6) (v := ?_) rfl (by kernel_rfl) (by kernel_rfl) (by kernel_rfl) (fun _ _ _ h => h) (Or.inl ⟨by kernel_rfl, ?_⟩) (by assumption) ?_
     rotate_left
     ·intro w hSw; (try dsimp only at hSw); go_simp; try with_reducible rfl
     try simp only [List.getElem_toArray, List.getElem_cons_succ, List.getElem_cons_zero, Act.put, List.setIfInBounds_toArray, List.set_cons_zero, List.set_cons_succ]
     refine wpAnyH_take (i := 7) (v := ?_) rfl (by kernel_rfl) (by kernel_rfl) (by kernel_rfl) (fun _ _ _ h => h) (Or.inl ⟨by kernel_rfl, ?_⟩) (by assumption) ?_
     rotate_left
     ·intro w hSw; (try dsimp only at hSw); go_simp; try with_reducible rfl
     try simp only [List.getElem_toArray, List.getElem_cons_succ, List.getElem_cons_zero, Act.put, List.setIfInBounds_toArray, List.set_cons_zero, List.set_cons_succ]
     refine wpAnyH_ready (rs := [8]) (by kernel_rfl) (by simp) ?_
     refine AllReadyH.cons rfl (fun K hK => ?_) AllReadyH.nil
     go_simp
     refine hK.out _ _ ?_ (fun hHeld => ?_)
     ·first | exact ⟨cc1, cc2⟩ | exact ⟨cb1, cb2⟩ | exact ⟨cell_alloc _ _ _ _ cb1, cell_alloc _ _ _ _ cb2⟩ | exact ⟨cell_alloc _ _ _ _ (cell_alloc _ _ _ _ cb1), cell_alloc _ _ _ _ (cell_alloc _ _ _ _ cb2)⟩
     clear hK K
     refine wpAnyH_take (i := 9) (v := ?_) rfl (by kernel_rfl) (by kernel_rfl) (by kernel_rfl) (fun _ _ _ h => h) (Or.inl ⟨by kernel_rfl, ?_⟩) (by assumption) ?_
     rotate_left
     ·intro w hSw; (try dsimp only at hSw); go_simp; try with_reducible rfl
     try simp only [List.getElem_toArray, List.getElem_cons_succ, List.getElem_cons_zero, Act.put, List.setIfInBounds_toArray, List.set_cons_zero, List.set_cons_succ]
     refine wpAnyH_ready (rs := [10]) (by kernel_rfl) (by simp) ?_
     refine AllReadyH.cons rfl (fun K hK => ?_) AllReadyH.nil
     go_simp
     refine hK.out _ _ ?_ (fun hHeld => ?_)
     ·first | exact ⟨cc1, cc2⟩ | exact ⟨cb1, cb2⟩ | exact ⟨cell_alloc _ _ _ _ cb1, cell_alloc _ _ _ _ cb2⟩ | exact ⟨cell_alloc _ _ _ _ (cell_alloc _ _ _ _ cb1), cell_alloc _ _ _ _ (cell_alloc _ _ _ _ cb2)⟩
     clear hK K
     refine wpAnyH_ready (rs := [11]) (by kernel_rfl) (by simp) ?_
     refine AllReadyH.cons rfl (fun K hK => ?_) AllReadyH.nil
     go_simp
     go_wp2_with (go_at_call 19; go_loud ((with_reducible refine hcm.mono ?_); rintro e w11 ⟨S11, Q11, hE11, rfl, h11, d11⟩; have cc1 := sto_cell h11; have cc2 : w11.cell? ⟨ib, io + i, none⟩ = some (.int .i64 z) := (Hcell.out w11 (Q11 * (pt nb (.cells #[.int .i64 (dcr + (k8 : Int)), .int .i64 dcw, .int .i64 dcf] 52 (0, 0)) * Q8)) S11 D8 (h11.to (by ac_rfl))).2))
     refine hK.out _ _ ?_ (fun hHeld => ?_)
     ·first | exact ⟨cc1, cc2⟩ | exact ⟨cb1, cb2⟩ | exact ⟨cell_alloc _ _ _ _ cb1, cell_alloc _ _ _ _ cb2⟩ | exact ⟨cell_alloc _ _ _ _ (cell_alloc _ _ _ _ cb1), cell_alloc _ _ _ _ (cell_alloc _ _ _ _ cb2)⟩
     clear hK K
     refine wpAnyH_take (i := 12) (v := ?_) rfl (by kernel_rfl) (by kernel_rfl) (by kernel_rfl) (fun _ _ _ h => h) (Or.inl ⟨by kernel_rfl, ?_⟩) (by assumption) ?_
     rotate_left
     ·intro w hSw; (try dsimp only at hSw); go_simp; try with_reducible rfl
     try simp only [List.getElem_toArray, List.getElem_cons_succ, List.getElem_cons_zero, Act.put, List.setIfInBounds_toArray, List.set_cons_zero, List.set_cons_succ]
     refine wpAnyH_done (by kernel_rfl) ?_ _
     have H11 := SL.hid h11; have D11 := SL.hid (HdA9.out.trans d11)
     clear h11 d11 hcm cb1 cb2 cc1 cc2 HD10 HdA9
     go_upto_region 24 with (fail)
     obtain ⟨A8, hA8⟩ : ∃ A, A = u8s (zs 480) := ⟨_, rfl⟩
     have hmk8 : ∀ w, (Instr.makeSlice 22 (.int .i64 480) (.int .i64 480)).run Tryz.prog w = .ok (.slice (some ⟨w.heap.size, 0, none⟩) 480 480) (w.alloc (.cells A8 5 (0, 0))) := by rw [hA8]; exact Go.Proofs.YtdafdidmbeecfaaGreatDoor.make_bytes 480 (by decide)
     have HA8 := SL.hid hA8
     clear hA8 hmk9 HA9
     go_cut [22] from 133 to 150 (fun u22 wx => ∃ S12 Q12, u22 = .int .i64 1 ∧ Sat wx (stoA s j d n P J * (devA S12 d D8 * (pool S12 * (Q12 * (pt nb (.cells #[.int .i64 (dcr + (k8 : Int)), .int .i64 dcw, .int .i64 dcf] 52 (0, 0)) * (Q8 * whole w)))))) ∧ Side w wx)
     case first =>
      have h11 := H11.out
      have H11' : Sat w11 (stoA s j d n P J * (devA S11 d D8 * (pool S11 * ((Q11 * (pt nb (.cells #[.int .i64 (dcr + (k8 : Int)), .int .i64 dcw, .int .i64 dcf] 52 (0, 0)) * Q8)) * whole w)))) := h11.to (by ac_rfl)
      have hb1 := (h11.alloc (.cells A8 5 (0, 0))).alloc (.cells A8 5 (0, 0))
      have dB1 := ((D11.out.alloc (.cells A8 5 (0, 0))).alloc (.cells A8 5 (0, 0)))
      have hx0 := (hb1.alloc (.cells #[.int .i64 z, .slice (some ⟨w11.heap.size, 0, none⟩) 480 480, .int .i64 z, .slice (some ⟨w11.heap.size + 1, 0, none⟩) 480 480] 57 (0, 0))).drew
      have hx1 := (hb1.alloc (.cells #[.int .i64 z, .slice (some ⟨w11.heap.size + 1, 0, none⟩) 480 480, .int .i64 z, .slice (some ⟨w11.heap.size, 0, none⟩) 480 480] 57 (0, 0))).drew
      have dx0 := SL.hid (dB1.alloc (.cells #[.int .i64 z, .slice (some ⟨w11.heap.size, 0, none⟩) 480 480, .int .i64 z, .slice (some ⟨w11.heap.size + 1, 0, none⟩) 480 480] 57 (0, 0))).drew
      have dx1 := SL.hid (dB1.alloc (.cells #[.int .i64 z, .slice (some ⟨w11.heap.size + 1, 0, none⟩) 480 480, .int .i64 z, .slice (some ⟨w11.heap.size, 0, none⟩) 480 480] 57 (0, 0))).drew
      simp only [World.size_alloc] at hx0 hx1
      have hcm0 := commitTwice_any _ S11 s j d n P _ J D8 has (Q11 * (pt nb (.cells #[.int .i64 (dcr + (k8 : Int)), .int .i64 dcw, .int .i64 dcf] 52 (0, 0)) * (Q8 * whole w))) w11.heap.size (w11.heap.size + 1) (w11.heap.size + 1 + 1) z (by rw [HA8.out] at hx0; exact hx0.to (by ac_rfl)) HL8.out
      have hcm1 := commitTwice_any _ S11 s j d n P _ J D8 has (Q11 * (pt nb (.cells #[.int .i64 (dcr + (k8 : Int)), .int .i64 dcw, .int .i64 dcf] 52 (0, 0)) * (Q8 * whole w))) (w11.heap.size + 1) w11.heap.size (w11.heap.size + 1 + 1) z (by rw [HA8.out] at hx1; exact hx1.to (by ac_rfl)) HL8.out
      rw [← HA8.out] at hcm0 hcm1
      obtain ⟨cb1, cb2⟩ := Hcell.out _ _ _ _ H11'
      clear h11 H11' hb1 dB1 hx0 hx1 H11 D11
      refine wp_region_held_drew (S := (fun w' => w'.cell? ⟨s, 0, none⟩ = some (ptV j) ∧ w'.cell? ⟨ib, io + i, none⟩ = some (.int .i64 z))) (by kernel_rfl) ?_ (fun hHeld => ?_)
      ·first | exact ⟨cc1, cc2⟩ | exact ⟨cb1, cb2⟩ | exact ⟨cell_alloc _ _ _ _ cb1, cell_alloc _ _ _ _ cb2⟩ | exact ⟨cell_alloc _ _ _ _ (cell_alloc _ _ _ _ cb1), cell_alloc _ _ _ _ (cell_alloc _ _ _ _ cb2)⟩ | exact ⟨cell_alloc _ _ _ _ (cell_alloc _ _ _ _ (cell_alloc _ _ _ _ cb1)), cell_alloc _ _ _ _ (cell_alloc _ _ _ _ (cell_alloc _ _ _ _ cb2))⟩
      refine wpAnyH_take (i := 0) (v := ?_) rfl (by kernel_rfl) (by kernel_rfl) (by kernel_rfl) (fun _ _ _ h => h) (Or.inl ⟨by kernel_rfl, ?_⟩) (by assumption) ?_
      rotate_left
      ·intro w hSw; (try dsimp only at hSw); go_simp; try with_reducible rfl
      try simp only [List.getElem_toArray, List.getElem_cons_succ, List.getElem_cons_zero, Act.put, List.setIfInBounds_toArray, List.set_cons_zero, List.set_cons_succ]
      refine wpAnyH_take (i := 1) (v := ?_) rfl (by kernel_rfl) (by kernel_rfl) (by kernel_rfl) (fun _ _ _ h => h) (Or.inl ⟨by kernel_rfl, ?_⟩) (by assumption) ?_
      rotate_left
      ·intro w hSw; (try dsimp only at hSw); go_simp; try with_reducible rfl
      try simp only [List.getElem_toArray, List.getElem_cons_succ, List.getElem_cons_zero, Act.put, List.setIfInBounds_toArray, List.set_cons_zero, List.set_cons_succ]
      refine wpAnyH_take (i := 2) (v := ?_) rfl (by kernel_rfl) (by kernel_rfl) (by kernel_rfl) (fun _ _ _ h => h) (Or.inl ⟨by kernel_rfl, ?_⟩) (by assumption) ?_
      rotate_left
      ·intro w hSw; (try dsimp only at hSw); go_simp; try with_reducible rfl
      try simp only [List.getElem_toArray, List.getElem_cons_succ, List.getElem_cons_zero, Act.put, List.setIfInBounds_toArray, List.set_cons_zero, List.set_cons_succ]
      refine wpAnyH_take (i := 3) (v := ?_) rfl (by kernel_rfl) (by kernel_rfl) (by kernel_rfl) (fun _ _ _ h => h) (Or.inl ⟨by kernel_rfl, ?_⟩) (by assumption) ?_
      rotate_left
      ·intro w hSw; (try dsimp only at hSw); go_simp; try with_reducible rfl
      try simp only [List.getElem_toArray, List.getElem_cons_succ, List.getElem_cons_zero, Act.put, List.setIfInBounds_toArray, List.set_cons_zero, List.set_cons_succ]
      refine wpAnyH_take (i := 4) (v := ?_) rfl (by kernel_rfl) (by kernel_rfl) (by kernel_rfl) (fun _ _ _ h => h) (Or.inl ⟨by kernel_rfl, ?_⟩) (by assumption) ?_
      rotate_left
      ·intro w hSw; (try dsimp only at hSw); go_simp; try with_reducible rfl
      try simp only [List.getElem_toArray, List.getElem_cons_succ, List.getElem_cons_zero, Act.put, List.setIfInBounds_toArray, List.set_cons_zero, List.set_cons_succ]
      refine wpAnyH_take (i := 5) (v := ?_) rfl (by kernel_rfl) (by kernel_rfl) (by kernel_rfl) (fun _ _ _ h => h) (Or.inl ⟨by kernel_rfl, ?_⟩) (by assumption) ?_
      rotate_left
      ·intro w hSw; (try dsimp only at hSw); go_simp; try with_reducible rfl
      try simp only [List.getElem_toArray, List.getElem_cons_succ, List.getElem_cons_zero, Act.put, List.setIfInBounds_toArray, List.set_cons_zero, List.set_cons_succ]
      refine wpAnyH_take (i := 6) (v := ?_) rfl (by kernel_rfl) (by kernel_rfl) (by kernel_rfl) (fun _ _ _ h => h) (Or.inl ⟨by kernel_rfl, ?_⟩) (by assumption) ?_
      rotate_left
      ·intro w hSw; (try dsimp only at hSw); go_simp; try with_reducible rfl
      try simp only [List.getElem_toArray, List.getElem_cons_succ, List.getElem_cons_zero, Act.put, List.setIfInBounds_toArray, List.set_cons_zero, List.set_cons_succ]
      refine wpAnyH_take (i := 7) (v := ?_) rfl (by kernel_rfl) (by kernel_rfl) (by kernel_rfl) (fun _ _ _ h => h) (Or.inl ⟨by kernel_rfl, ?_⟩) (by assumption) ?_
      rotate_left
      ·intro w hSw; (try dsimp only at hSw); go_simp; try with_reducible rfl
      try simp only [List.getElem_toArray, List.getElem_cons_succ, List.getElem_cons_zero, Act.put, List.setIfInBounds_toArray, List.set_cons_zero, List.set_cons_succ]
      refine wpAnyH_take (i := 10) (v := ?_) rfl (by kernel_rfl) (by kernel_rfl) (by kernel_rfl) (fun _ _ _ h => h) (Or.inl ⟨by kernel_rfl, ?_⟩) (by assumption) ?_
      rotate_left
      ·intro w hSw; (try dsimp only at hSw); go_simp; try with_reducible rfl
      try simp only [List.getElem_toArray, List.getElem_cons_succ, List.getElem_cons_zero, Act.put, List.setIfInBounds_toArray, List.set_cons_zero, List.set_cons_succ]
      refine wpAnyH_take (i := 11) (v := ?_) rfl (by kernel_rfl) (by kernel_rfl) (by kernel_rfl) (fun _ _ _ h => h) (Or.inl ⟨by kernel_rfl, ?_⟩) (by assumption) ?_
      rotate_left
      ·intro w hSw; (try dsimp only at hSw); go_simp; try with_reducible rfl
      try simp only [List.getElem_toArray, List.getElem_cons_succ, List.getElem_cons_zero, Act.put, List.setIfInBounds_toArray, List.set_cons_zero, List.set_cons_succ]
      refine wpAnyH_take (i := 12) (v := ?_) rfl (by kernel_rfl) (by kernel_rfl) (by kernel_rfl) (fun _ _ _ h => h) (Or.inl ⟨by kernel_rfl, ?_⟩) (by assumption) ?_
      rotate_left
      ·intro w hSw; (try dsimp only at hSw); go_simp; try with_reducible rfl
      try simp only [List.getElem_toArray, List.getElem_cons_succ, List.getElem_cons_zero, Act.put, List.setIfInBounds_toArray, List.set_cons_zero, List.set_cons_succ]
      refine wpAnyH_take (i := 13) (v := ?_) rfl (by kernel_rfl) (by kernel_rfl) (by kernel_rfl) (fun _ _ _ h => h) (Or.inl ⟨by kernel_rfl, ?_⟩) (by assumption) ?_
      rotate_left
      ·intro w hSw; (try dsimp only at hSw); go_simp; try with_reducible rfl
      try simp only [List.getElem_toArray, List.getElem_cons_succ, List.getElem_cons_zero, Act.put, List.setIfInBounds_toArray, List.set_cons_zero, List.set_cons_succ]
      refine wpAnyH_ready (rs := [8, 14]) (by kernel_rfl) (by simp) ?_
      refine AllReadyH.cons rfl (fun K hK => ?_) (AllReadyH.cons rfl (fun K hK => ?_) AllReadyH.nil)
      ·go_simp
       refine hK.out _ _ ?_ (fun hHeld => ?_)
       ·first | exact ⟨cc1, cc2⟩ | exact ⟨cb1, cb2⟩ | exact ⟨cell_alloc _ _ _ _ cb1, cell_alloc _ _ _ _ cb2⟩ | exact ⟨cell_alloc _ _ _ _ (cell_alloc _ _ _ _ cb1), cell_alloc _ _ _ _ (cell_alloc _ _ _ _ cb2)⟩ | exact ⟨cell_alloc _ _ _ _ (cell_alloc _ _ _ _ (cell_alloc _ _ _ _ cb1)), cell_alloc _ _ _ _ (cell_alloc _ _ _ _ (cell_alloc _ _ _ _ cb2))⟩
       clear hK K
       refine wpAnyH_take (i := 9) (v := ?_) rfl (by kernel_rfl) (by kernel_rfl) (by kernel_rfl) (fun _ _ _ h => h) (Or.inl ⟨by kernel_rfl, ?_⟩) (by assumption) ?_
       rotate_left
       ·intro w hSw; (try dsimp only at hSw); go_simp; try with_reducible rfl
       try simp only [List.getElem_toArray, List.getElem_cons_succ, List.getElem_cons_zero, Act.put, List.setIfInBounds_toArray, List.set_cons_zero, List.set_cons_succ]
       refine wpAnyH_ready (rs := [14]) (by kernel_rfl) (by simp) ?_
       refine AllReadyH.cons rfl (fun K hK => ?_) AllReadyH.nil
       go_simp
       refine hK.out _ _ ?_ (fun hHeld => ?_)
       ·first | exact ⟨cc1, cc2⟩ | exact ⟨cb1, cb2⟩ | exact ⟨cell_alloc _ _ _ _ cb1, cell_alloc _ _ _ _ cb2⟩ | exact ⟨cell_alloc _ _ _ _ (cell_alloc _ _ _ _ cb1), cell_alloc _ _ _ _ (cell_alloc _ _ _ _ cb2)⟩ | exact ⟨cell_alloc _ _ _ _ (cell_alloc _ _ _ _ (cell_alloc _ _ _ _ cb1)), cell_alloc _ _ _ _ (cell_alloc _ _ _ _ (cell_alloc _ _ _ _ cb2))⟩
       clear hK K
       refine wpAnyH_take (i := 15) (v := ?_) rfl (by kernel_rfl) (by kernel_rfl) (by kernel_rfl) (fun _ _ _ h => h) (Or.inl ⟨by kernel_rfl, ?_⟩) (by assumption) ?_
       rotate_left
       ·intro w hSw; (try dsimp only at hSw); go_simp; try with_reducible rfl
       try simp only [List.getElem_toArray, List.getElem_cons_succ, List.getElem_cons_zero, Act.put, List.setIfInBounds_toArray, List.set_cons_zero, List.set_cons_succ]
       refine wpAnyH_ready (rs := [16]) (by kernel_rfl) (by simp) ?_
       refine AllReadyH.cons rfl (fun K hK => ?_) AllReadyH.nil
       go_simp
       refine hK.out _ _ ?_ (fun hHeld => ?_)
       ·first | exact ⟨cc1, cc2⟩ | exact ⟨cb1, cb2⟩ | exact ⟨cell_alloc _ _ _ _ cb1, cell_alloc _ _ _ _ cb2⟩ | exact ⟨cell_alloc _ _ _ _ (cell_alloc _ _ _ _ cb1), cell_alloc _ _ _ _ (cell_alloc _ _ _ _ cb2)⟩ | exact ⟨cell_alloc _ _ _ _ (cell_alloc _ _ _ _ (cell_alloc _ _ _ _ cb1)), cell_alloc _ _ _ _ (cell_alloc _ _ _ _ (cell_alloc _ _ _ _ cb2))⟩
       clear hK K
       refine wpAnyH_ready (rs := [17]) (by kernel_rfl) (by simp) ?_
       refine AllReadyH.cons rfl (fun K hK => ?_) AllReadyH.nil
       go_simp
       go_wp2_with (go_at_call 19; go_loud ((with_reducible refine hcm0.mono ?_); rintro e w12 ⟨S12, Q12, hE12, rfl, h12, d12⟩; have cc1 := sto_cell h12; have cc2 : w12.cell? ⟨ib, io + i, none⟩ = some (.int .i64 z) := (Hcell.out w12 (Q12 * (Q11 * (pt nb (.cells #[.int .i64 (dcr + (k8 : Int)), .int .i64 dcw, .int .i64 dcf] 52 (0, 0)) * Q8))) S12 D8 (h12.to (by ac_rfl))).2))
       refine hK.out _ _ ?_ (fun hHeld => ?_)
       ·first | exact ⟨cc1, cc2⟩ | exact ⟨cb1, cb2⟩ | exact ⟨cell_alloc _ _ _ _ cb1, cell_alloc _ _ _ _ cb2⟩ | exact ⟨cell_alloc _ _ _ _ (cell_alloc _ _ _ _ cb1), cell_alloc _ _ _ _ (cell_alloc _ _ _ _ cb2)⟩ | exact ⟨cell_alloc _ _ _ _ (cell_alloc _ _ _ _ (cell_alloc _ _ _ _ cb1)), cell_alloc _ _ _ _ (cell_alloc _ _ _ _ (cell_alloc _ _ _ _ cb2))⟩
       clear hK K
       refine wpAnyH_take (i := 18) (v := ?_) rfl (by kernel_rfl) (by kernel_rfl) (by kernel_rfl) (fun _ _ _ h => h) (Or.inl ⟨by kernel_rfl, ?_⟩) (by assumption) ?_
       rotate_left
       ·intro w hSw; (try dsimp only at hSw); go_simp; try with_reducible rfl
       try simp only [List.getElem_toArray, List.getElem_cons_succ, List.getElem_cons_zero, Act.put, List.setIfInBounds_toArray, List.set_cons_zero, List.set_cons_succ]
       refine wpAnyH_done (by kernel_rfl) ?_ _
       go_wp2_with fail
       go_meet
       exact ⟨S12, Q12 * Q11, rfl, h12.to (by ac_rfl), (dx0.out.trans d12)⟩
      ·go_simp
       refine hK.out _ _ ?_ (fun hHeld => ?_)
       ·first | exact ⟨cc1, cc2⟩ | exact ⟨cb1, cb2⟩ | exact ⟨cell_alloc _ _ _ _ cb1, cell_alloc _ _ _ _ cb2⟩ | exact ⟨cell_alloc _ _ _ _ (cell_alloc _ _ _ _ cb1), cell_alloc _ _ _ _ (cell_alloc _ _ _ _ cb2)⟩ | exact ⟨cell_alloc _ _ _ _ (cell_alloc _ _ _ _ (cell_alloc _ _ _ _ cb1)), cell_alloc _ _ _ _ (cell_alloc _ _ _ _ (cell_alloc _ _ _ _ cb2))⟩
       clear hK K
       refine wpAnyH_take (i := 15) (v := ?_) rfl (by kernel_rfl) (by kernel_rfl) (by kernel_rfl) (fun _ _ _ h => h) (Or.inl ⟨by kernel_rfl, ?_⟩) (by assumption) ?_
       rotate_left
       ·intro w hSw; (try dsimp only at hSw); go_simp; try with_reducible rfl
       try simp only [List.getElem_toArray, List.getElem_cons_succ, List.getElem_cons_zero, Act.put, List.setIfInBounds_toArray, List.set_cons_zero, List.set_cons_succ]
       refine wpAnyH_ready (rs := [8]) (by kernel_rfl) (by simp) ?_
       refine AllReadyH.cons rfl (fun K hK => ?_) AllReadyH.nil
       go_simp
       refine hK.out _ _ ?_ (fun hHeld => ?_)
       ·first | exact ⟨cc1, cc2⟩ | exact ⟨cb1, cb2⟩ | exact ⟨cell_alloc _ _ _ _ cb1, cell_alloc _ _ _ _ cb2⟩ | exact ⟨cell_alloc _ _ _ _ (cell_alloc _ _ _ _ cb1), cell_alloc _ _ _ _ (cell_alloc _ _ _ _ cb2)⟩ | exact ⟨cell_alloc _ _ _ _ (cell_alloc _ _ _ _ (cell_alloc _ _ _ _ cb1)), cell_alloc _ _ _ _ (cell_alloc _ _ _ _ (cell_alloc _ _ _ _ cb2))⟩
       clear hK K
       refine wpAnyH_take (i := 9) (v := ?_) rfl (by kernel_rfl) (by kernel_rfl) (by kernel_rfl) (fun _ _ _ h => h) (Or.inl ⟨by kernel_rfl, ?_⟩) (by assumption) ?_
       rotate_left
       ·intro w hSw; (try dsimp only at hSw); go_simp; try with_reducible rfl
       try simp only [List.getElem_toArray, List.getElem_cons_succ, List.getElem_cons_zero, Act.put, List.setIfInBounds_toArray, List.set_cons_zero, List.set_cons_succ]
       refine wpAnyH_ready (rs := [16]) (by kernel_rfl) (by simp) ?_
       refine AllReadyH.cons rfl (fun K hK => ?_) AllReadyH.nil
       go_simp
       refine hK.out _ _ ?_ (fun hHeld => ?_)
       ·first | exact ⟨cc1, cc2⟩ | exact ⟨cb1, cb2⟩ | exact ⟨cell_alloc _ _ _ _ cb1, cell_alloc _ _ _ _ cb2⟩ | exact ⟨cell_alloc _ _ _ _ (cell_alloc _ _ _ _ cb1), cell_alloc _ _ _ _ (cell_alloc _ _ _ _ cb2)⟩ | exact ⟨cell_alloc _ _ _ _ (cell_alloc _ _ _ _ (cell_alloc _ _ _ _ cb1)), cell_alloc _ _ _ _ (cell_alloc _ _ _ _ (cell_alloc _ _ _ _ cb2))⟩
       clear hK K
       refine wpAnyH_ready (rs := [17]) (by kernel_rfl) (by simp) ?_
       refine AllReadyH.cons rfl (fun K hK => ?_) AllReadyH.nil
       go_simp
       go_wp2_with (go_at_call 19; go_loud ((with_reducible refine hcm1.mono ?_); rintro e w12 ⟨S12, Q12, hE12, rfl, h12, d12⟩; have cc1 := sto_cell h12; have cc2 : w12.cell? ⟨ib, io + i, none⟩ = some (.int .i64 z) := (Hcell.out w12 (Q12 * (Q11 * (pt nb (.cells #[.int .i64 (dcr + (k8 : Int)), .int .i64 dcw, .int .i64 dcf] 52 (0, 0)) * Q8))) S12 D8 (h12.to (by ac_rfl))).2))
       refine hK.out _ _ ?_ (fun hHeld => ?_)
       ·first | exact ⟨cc1, cc2⟩ | exact ⟨cb1, cb2⟩ | exact ⟨cell_alloc _ _ _ _ cb1, cell_alloc _ _ _ _ cb2⟩ | exact ⟨cell_alloc _ _ _ _ (cell_alloc _ _ _ _ cb1), cell_alloc _ _ _ _ (cell_alloc _ _ _ _ cb2)⟩ | exact ⟨cell_alloc _ _ _ _ (cell_alloc _ _ _ _ (cell_alloc _ _ _ _ cb1)), cell_alloc _ _ _ _ (cell_alloc _ _ _ _ (cell_alloc _ _ _ _ cb2))⟩
       clear hK K
       refine wpAnyH_take (i := 18) (v := ?_) rfl (by kernel_rfl) (by kernel_rfl) (by kernel_rfl) (fun _ _ _ h => h) (Or.inl ⟨by kernel_rfl, ?_⟩) (by assumption) ?_
       rotate_left
       ·intro w hSw; (try dsimp only at hSw); go_simp; try with_reducible rfl
       try simp only [List.getElem_toArray, List.getElem_cons_succ, List.getElem_cons_zero, Act.put, List.setIfInBounds_toArray, List.set_cons_zero, List.set_cons_succ]
       refine wpAnyH_done (by kernel_rfl) ?_ _
       go_wp2_with fail
       go_meet
       exact ⟨S12, Q12 * Q11, rfl, h12.to (by ac_rfl), (dx1.out.trans d12)⟩
     case rest =>
      obtain ⟨S12, Q12, rfl, h12, d12⟩ := hcut
      have hcn := counts_any wc S12 d D8 _ (h12.to (by ac_rfl : _ = devA S12 d D8 * (stoA s j d n P J * (pool S12 * (Q12 * (pt nb (.cells #[.int .i64 (dcr + (k8 : Int)), .int .i64 dcw, .int .i64 dcf] 52 (0, 0)) * (Q8 * whole w)))))))
      rw [Ecr.out, Ecw.out, Ecf.out] at hcn
      have H12 := SL.hid h12; have D12 := SL.hid d12
      clear h12 d12 H11 D11 hmk8 HA8
      go_wp2_with fail
      (with_reducible refine hcn.mono ?_)
      rintro e w13 ⟨rfl, h13, d13⟩
      have h14 := (h13.keepW H12.out).alloc (.cells #[.int .i64 (dcr + (k8 : Int)), .int .i64 dcw, .int .i64 dcf] 52 (0, 0))
      have HD14 := SL.hid ((D12.out.trans d13).alloc (.cells #[.int .i64 (dcr + (k8 : Int)), .int .i64 dcw, .int .i64 dcf] 52 (0, 0)))
      clear hcn h13 d13 H12 D12
      go_upto_region 26 with (fail)
      generalize w13.alloc (.cells #[.int .i64 (dcr + (k8 : Int)), .int .i64 dcw, .int .i64 dcf] 52 (0, 0)) = w14 at h14 HD14 ⊢
      generalize w13.heap.size = tb at h14 ⊢
      have t0 : w14.cell? ⟨tb, 0, none⟩ = some (.int .i64 (dcr + (k8 : Int))) := h14.cell 0
      have t1 : w14.cell? ⟨tb, 1, none⟩ = some (.int .i64 dcw) := h14.cell 1
      have t2 : w14.cell? ⟨tb, 2, none⟩ = some (.int .i64 dcf) := h14.cell 2
      have hnb := h14.to (by ac_rfl : _ = pt nb (.cells #[.int .i64 (dcr + (k8 : Int)), .int .i64 dcw, .int .i64 dcf] 52 (0, 0)) * (pt tb (.cells #[.int .i64 (dcr + (k8 : Int)), .int .i64 dcw, .int .i64 dcf] 52 (0, 0)) * (stoA s j d n P J * (devA S12 d D8 * (pool S12 * (Q12 * (Q8 * whole w)))))))
      have n0 : w14.cell? ⟨nb, 0, none⟩ = some (.int .i64 (dcr + (k8 : Int))) := hnb.cell 0
      have n1 : w14.cell? ⟨nb, 1, none⟩ = some (.int .i64 dcw) := hnb.cell 1
      have n2 : w14.cell? ⟨nb, 2, none⟩ = some (.int .i64 dcf) := hnb.cell 2
      obtain ⟨o0, o1, o2⟩ := Hob.out w14 _ (h14.to (by ac_rfl : _ = (pt tb (.cells #[.int .i64 (dcr + (k8 : Int)), .int .i64 dcw, .int .i64 dcf] 52 (0, 0)) * (stoA s j d n P J * (devA S12 d D8 * (pool S12 * (Q12 * pt nb (.cells #[.int .i64 (dcr + (k8 : Int)), .int .i64 dcw, .int .i64 dcf] 52 (0, 0))))))) * (Q8 * whole w)))
      have hfin : Sat w14 (stoA s j d n P J * (devA S12 d D8 * (pool S12 * ((pt tb (.cells #[.int .i64 (dcr + (k8 : Int)), .int .i64 dcw, .int .i64 dcf] 52 (0, 0)) * (Q12 * (pt nb (.cells #[.int .i64 (dcr + (k8 : Int)), .int .i64 dcw, .int .i64 dcf] 52 (0, 0)) * Q8))) * whole w)))) := h14.to (by ac_rfl)
      have Hfin := SL.hid hfin
      clear h14 hnb hfin
      cases isb with
      | true =>
       obtain ⟨rfl, rfl⟩ := hy8 (by have := Hisb.out; simpa using this.symm)
       have hk9 : ¬ dcr + 1 < dcr + (k8 : Int) := by omega
       have hk10 : decide (dcr + 1 < dcr + (k8 : Int)) = false := decide_eq_false hk9
       clear hy8 hn8
       go_wp2_with fail
       go_roundw
       case rel => exact ⟨i + 1, S12, D8, _, by omega, by go_num, HL8.out, Hfin.out, HD14.out⟩
       case measure => simp [intOf]; omega
      | false =>
       obtain ⟨rfl, rfl⟩ := hn8 (by have := Hisb.out; simpa using this.symm)
       have e0 : dcr + ((0 : Nat) : Int) = dcr := by omega
       rw [e0] at t0 n0
       clear hy8 hn8
       go_wp2_with fail
       go_roundw
       case rel => exact ⟨i + 1, S12, D8, _, by omega, by go_num, HL8.out, Hfin.out, HD14.out⟩
       case measure => simp [intOf]; omega
   ·have hcm := commitNil_any wr S s j d n P (i + 31) J D has _ hsat hL
    have cs := sto_cell hsat
    have HL := SL.hid hL; have Hsd := SL.hid hside
    clear hsat hL hside
    by_cases hl1 : i < ilen
    ·have hl1' : (i : Int) < (ilen : Int) := by omega
     have hl2' : ¬ (i : Int) < 40 := fun h => hlt ⟨hl1, by omega⟩
     clear hlt
     go_wp2_with fail
     (with_reducible refine hcm.mono ?_)
     rintro e w9 ⟨S9, Q9, hE9, rfl, h9, d9⟩
     have hsq := seq_any w9 s j d n P J _ h9 HL.out.sj.jt.inv.ok
     unfold SeqQ at hsq
     rw [← Hq.out] at hsq
     have HD9 := SL.hid (Hsd.out.trans d9)
     clear hcm h9 d9 cs
     go_wp2_with fail
     (with_reducible refine hsq.mono ?_)
     rintro e w10 ⟨rfl, h10, d10⟩
     have Hfin := SL.hid (h10.to (by ac_rfl : _ = (stoA s j d n P J * (devA S9 d D * (pool S9 * (Q9 * Y)))) * whole w)).right; have HDf := SL.hid (HD9.out.trans d10)
     clear hsq h10 d10 HD9
     go_wp2_with fail
     go_ret
     exact ⟨rfl, Hfin.out, HDf.out⟩
    ·have hl1' : ¬ (i : Int) < (ilen : Int) := by omega
     clear hlt
     go_wp2_with fail
     (with_reducible refine hcm.mono ?_)
     rintro e w9 ⟨S9, Q9, hE9, rfl, h9, d9⟩
     have hsq := seq_any w9 s j d n P J _ h9 HL.out.sj.jt.inv.ok
     unfold SeqQ at hsq
     rw [← Hq.out] at hsq
     have HD9 := SL.hid (Hsd.out.trans d9)
     clear hcm h9 d9 cs
     go_wp2_with fail
     (with_reducible refine hsq.mono ?_)
     rintro e w10 ⟨rfl, h10, d10⟩
     have Hfin := SL.hid (h10.to (by ac_rfl : _ = (stoA s j d n P J * (devA S9 d D * (pool S9 * (Q9 * Y)))) * whole w)).right; have HDf := SL.hid (HD9.out.trans d10)
     clear hsq h10 d10 HD9
     go_wp2_with fail
     go_ret
     exact ⟨rfl, Hfin.out, HDf.out⟩
end Go.Proofs.YtdafdidmbeecfaaGreatDoor.Su
end

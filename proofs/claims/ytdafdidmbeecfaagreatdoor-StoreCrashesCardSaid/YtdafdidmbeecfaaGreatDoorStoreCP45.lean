/- Steps towards the statement StoreC. -/
import Derived.Test.YtdafdidmbeecfaaGreatDoorStoreCP44
import Derived.Deep.DeepCutAuto
import Derived.Deep.CutBlock
import Derived.Deep.CutRange
section
namespace Go.Proofs.YtdafdidmbeecfaaGreatDoor.Su
set_option linter.unusedVariables false
set_option linter.unusedSimpArgs false
open Go.RowKit Go.SL Go.Proofs.YtdafdidmbeecfaaGreatDoor Go.Proofs.YtdafdidmbeecfaaGreatDoor.Ba
def CrRel (d n P sv m : Nat) (w : World) (uh uo ui : Value) (wr : World) : Prop :=
 ∃ (i B s j : Nat) (S : Hp) (J : Jr) (D : Dev) (has : Has) (o : Ar) (X X2 : List Int) (Y : Assn), i ≤ m ∧ ui = .int .i64 (i : Int) ∧ B ≤ 10 * i + 1 ∧ CrS n P B J D has o X X2 ∧ Lst (Y * whole w) uh n X ∧ Lst (Y * whole w) uo n X2 ∧
  Sat wr (pt sv (.cells #[ptV s] 29 (0, 0)) * (stoA s j d n P J * (devA S d (D.wth o) * (pool S * (Y * whole w))))) ∧ Side w wr
set_option maxRecDepth 100000 in
set_option maxHeartbeats 40000000 in
theorem crashes_any (w : World) (hh : Half w) (blocks : Int) (a0 : Option Addr) (len0 cap0 : Nat) (X0 : Nat → StV) (hX : IsSts w a0 len0 cap0 X0) :
  Calls Tryz.prog 6 #[.int .i64 blocks, .slice a0 len0 cap0] w (ShownQ w) := by
 have hF : ∀ w' X, Sat w' (X * whole w) → Half w' := fun w' X h => hh.old h
 have HF := SL.hid hF
 have hsh := shown11_any w hh
 have ha := and16 blocks
 obtain ⟨n, hn, hn4, hn20⟩ : ∃ n : Nat, (n : Int) = 4 + blocks % 65536 % 17 ∧ 4 ≤ n ∧ n ≤ 20 := ⟨(4 + blocks % 65536 % 17).toNat, by omega, by omega, by omega⟩
 have hs0 : 0 ≤ blocks % 65536 := by omega
 have hs1 : blocks % 65536 ≤ 65535 := by omega
 have Hn := SL.hid hn
 have hlen0 := hX.len_le
 have hlen0' : (len0 : Int) ≤ 9223372036854775807 := by omega
 have HX := SL.hid hX
 have hg := geo_least hn4 hn20
 have hle : ∀ w, Calls Tryz.prog 13 #[.int .i64 (n : Int)] w fun e w' => e = .returned (.int .i64 (((5 * n + 241) / 2 : Nat) : Int)) ∧ w = w' := fun w => by rw [← leastI_nat hn4 (by omega)]; exact least_any w n
 have hP200 : (5 * n + 241) / 2 ≤ 200 := by omega
 generalize (5 * n + 241) / 2 = P at hg hle hP200
 have Hg := SL.hid hg
 have hn4' : (4 : Int) ≤ (n : Int) := by omega
 have hn20' : (n : Int) ≤ 20 := by omega
 have hPi : (P : Int) ≤ 200 := by omega
 have hnew : ∀ w, Calls Tryz.prog 10 #[.int .i64 ((P : Int) + 1)] w _ := fun w => new_any (P + 1) (by omega) (by omega) w
 generalize blocks % 65536 = t at *
 clear hn hh hF hX hg hlen0
 go_enter Tryz.func6, Tryz.ntmps6
 go_wp2_with fail
 (with_reducible refine hsh.mono ?_)
 rintro e w1 ⟨rfl, h1, d1⟩
 clear hsh
 go_wp2_with fail
 rw [← Hn.out]
 (with_reducible refine (hle _).mono ?_)
 rintro e w2 ⟨rfl, rfl⟩
 go_wp2_with fail
 (with_reducible refine (hnew _).mono ?_)
 rintro e w2 ⟨d, rfl, h2, d2⟩
 have H2 : Sat w2 (devA NoB d (Dev.fresh (P + 1)) * (pool NoB * whole w)) := (((h2 NoB).under h1).poolEmp).to (by ac_rfl)
 have hfm := formatS_any w2 d n P (whole w) H2 Hg.out HF.out
 have D2 := d1.trans d2
 clear h1 h2 d1 d2 H2 hnew
 go_wp2_with fail
 (with_reducible refine hfm.mono ?_)
 rintro e w3 ⟨s, j, S3, D3, rfl, h3, d3, hL3, hw3⟩
 have h3b := h3.alloc (.cells #[ptV s] 29 (0, 0))
 have D3b := (D2.trans d3).alloc (.cells #[ptV s] 29 (0, 0))
 have HL3 := SL.hid hL3; have Hw3 := SL.hid hw3
 clear h3 d3 D2 hfm hL3 hw3
 go_upto_region 7 with (fail)
 generalize w3.alloc (.cells #[ptV s] 29 (0, 0)) = w3b at h3b D3b ⊢
 generalize w3.heap.size = sv at h3b ⊢
 have csv : w3b.cell? ⟨sv, 0, none⟩ = some (ptV s) := h3b.cell 0
 obtain ⟨F0, hF0⟩ : ∃ l, l = fill1 n 0 := ⟨_, rfl⟩
 have hmk : ∀ w, (Instr.makeSlice 45 (.int .i64 (n : Int)) (.int .i64 (n : Int))).run Tryz.prog w = .ok (.slice (some ⟨w.heap.size, 0, none⟩) n n) (w.alloc (.cells (ints F0) 3 (0, 0))) := by
  rw [hF0]; exact make_ints n (by omega)
 have HF0 := SL.hid hF0
 have h4 := h3b.alloc (.cells (ints F0) 3 (0, 0))
 have D4 := D3b.alloc (.cells (ints F0) 3 (0, 0))
 clear hF0 h3b D3b
 go_upto_block 0 with (fail)
 generalize w3b.alloc (.cells (ints F0) 3 (0, 0)) = w4 at h4 D4 ⊢
 generalize w3b.heap.size = hb at h4 ⊢
 obtain ⟨Z2, hZ2⟩ : ∃ X, X = pt sv (.cells #[ptV s] 29 (0, 0)) * (stoA s j d n P (J0 P n) * (devA S3 d D3 * (pool S3 * whole w))) := ⟨_, rfl⟩
 rw [← hZ2] at h4
 have HZ2 := SL.hid hZ2; have H4 := SL.hid h4; have HD4 := SL.hid D4
 clear hZ2 hmk h4 D4 csv
 go_cut [] from 59 to 66 (fun wx => Sat wx (pt hb (.cells (ints (List.replicate n (-1))) 3 (0, 0)) * Z2) ∧ Side w wx)
 case first =>
  go_wp2_with fail
  go_loopw [11] (fun u wr => Fill1Rel n hb Z2 w u wr) (fun u _ => n - (intOf u).toNat)
  case atStart => exact ⟨0, Nat.zero_le _, rfl, by rw [← HF0.out]; exact H4.out, HD4.out⟩
  case round =>
   clear H4 HD4
   obtain ⟨k, hk, rfl, hsat, hside⟩ := hrel
   by_cases hlt : k < n
   ·have hlt' : (k : Int) < (n : Int) := by omega
    have ck : wr.cell? ⟨hb, k, none⟩ = some (.int .i64 ((fill1 n k).getD k 0)) := (hsat.cell k).trans (get_ints_lt (by rw [fill1_len hk]; exact hlt))
    have fk := hsat.frozen k
    have h2 := hsat.setCell k (.int .i64 (-1))
    rw [set_ints, fill1_set hlt] at h2
    have hset := SL.hid h2
    have Hside := SL.hid hside
    generalize (fill1 n k).getD k 0 = uo at ck
    clear hsat hside h2
    go_wp2
    go_roundw
    case rel => exact ⟨k + 1, by omega, by go_num, hset.out, Hside.out.setCell _ _⟩
    case measure => simp [intOf]; omega
   ·obtain rfl : k = n := by omega
    have e : fill1 k k = List.replicate k (-1) := by simp [fill1]
    rw [e] at hsat
    have Hs := SL.hid hsat; have Hd := SL.hid hside
    clear hsat hside e
    go_wp2_with fail
    go_meet
    exact ⟨Hs.out, Hd.out⟩
 case rest =>
  clear H4 HD4 HF0
  obtain ⟨h5, D5⟩ := hcut
  have H5 : Sat wc (pt sv (.cells #[ptV s] 29 (0, 0)) * (stoA s j d n P (J0 P n) * (devA S3 d D3 * (pool S3 * (pt hb (.cells (ints (List.replicate n (-1))) 3 (0, 0)) * whole w))))) := h5.to (by rw [HZ2.out]; ac_rfl)
  have H5h := SL.hid H5; have D5h := SL.hid D5
  clear h5 H5 D5 HZ2
  have hX0 := lst_ints (F := whole w) (hb := hb) (n := n) (by omega)
  obtain ⟨v0, w50, hrun0, h50, d50⟩ := copy_run wc _ (List.replicate n (-1)) n (by omega) List.length_replicate (hX0.rds (H5h.out.to (by ac_rfl : _ = (pt sv (.cells #[ptV s] 29 (0, 0)) * (stoA s j d n P (J0 P n) * (devA S3 d D3 * pool S3))) * (pt hb (.cells (ints (List.replicate n (-1))) 3 (0, 0)) * whole w))))
  have hrun1 : Hid ((Builtin.append_ #[45, 45] 45 #[.slice (some ⟨wc.heap.size, 0, none⟩) 0 0, .slice (some ⟨hb, 0, none⟩) n n]).run Tryz.prog (wc.alloc (.cells #[] 3 (0, 0))) = .ok v0 w50) := hrun0
  have h51 := h50.under H5h.out
  have hls0 := lst_of (F := (pt hb (.cells (ints (List.replicate n (-1))) 3 (0, 0))) * whole w) h51 List.length_replicate (by omega) hX0.val
  have Hls0 := SL.hid hls0; have HX0 := SL.hid hX0
  obtain ⟨SL0, hSL0⟩ : ∃ A, A = sl 3 1 v0 (List.replicate n (-1 : Int)).length (SL.i64v (List.replicate n (-1))) := ⟨_, rfl⟩
  rw [← hSL0] at h51 Hls0
  have H51 := SL.hid (h51.to (by ac_rfl : _ = pt sv (.cells #[ptV s] 29 (0, 0)) * (stoA s j d n P (J0 P n) * (devA S3 d D3 * (pool S3 * ((SL0 * pt hb (.cells (ints (List.replicate n (-1))) 3 (0, 0))) * whole w)))))); have D51 := SL.hid (D5h.out.trans d50)
  clear hrun0 h50 h51 d50 hls0 hX0 hSL0 H5h D5h
  go_wp2_with (at_builtin; refine wpList_append_run hrun1.out _ _ rfl rfl rfl rfl rfl ?_)
  clear hrun1
  go_loopw [10, 12, 13] (fun uh uo ui wr => CrRel d n P sv 60 w uh uo ui wr) (fun _ _ u _ => 60 - (intOf u).toNat)
  case atStart => exact ⟨0, 1, s, j, S3, J0 P n, D3, noH, none, _, _, SL0 * pt hb (.cells (ints (List.replicate n (-1))) 3 (0, 0)), Nat.zero_le _, rfl, by omega, CrS.dry HL3.out.sj HL3.out.sec arOk_none Hw3.out (says_no n) _, (HX0.out.under SL0).cast (by ac_rfl), Hls0.out.cast (by ac_rfl), by rw [wth_none]; exact H51.out, D51.out⟩
  case round =>
   clear H51 D51 HL3 Hw3 Hls0 HX0
   obtain ⟨i, B, s, j, S, J, D, has, o, X, X2, Y, hi, rfl, hB, hC, hL1, hL2, hsat, hside⟩ := hrel
   by_cases hlt : i < len0 ∧ i < 60
   ·obtain ⟨hlt, h60⟩ := hlt
    have hlt' : (i : Int) < (len0 : Int) := by omega
    have h60' : (i : Int) < 60 := by omega
    obtain ⟨b, off, rfl, hSt, hlc, hcapX⟩ := HX.out.cell hlt
    obtain ⟨x, hx⟩ : ∃ x, x = X0 i := ⟨_, rfl⟩
    rw [← hx] at hSt
    have hW0 : Sat wr ((pt sv (.cells #[ptV s] 29 (0, 0)) * (stoA s j d n P J * (devA S d (D.wth o) * (pool S * Y)))) * whole w) := hsat.to (by ac_rfl)
    obtain ⟨c0, c1, c2, c3, c4⟩ := hSt.old hW0
    have h6 := hsat.alloc (.cells #[.int .i64 x.kd, .int .i64 x.dt, .int .i64 x.nn, .slice x.ia x.il x.ic, .slice x.ka x.kl x.kc] 49 (0, 0))
    have D6 := hside.alloc (.cells #[.int .i64 x.kd, .int .i64 x.dt, .int .i64 x.nn, .slice x.ia x.il x.ic, .slice x.ka x.kl x.kc] 49 (0, 0))
    have HSt := SL.hid hSt; have HC := SL.hid hC; have HL1 := SL.hid hL1; have HL2 := SL.hid hL2; have HB := SL.hid hB
    clear hx hSt hC hL1 hL2 hB hW0 hsat hside hlt h60
    obtain ⟨xkd, xdt, xnn, xia, xil, xic, xiz, xka, xkl, xkc, xkz⟩ := x
    dsimp only at *
    go_upto_region 19 with (fail)
    generalize wr.alloc (.cells #[.int .i64 xkd, .int .i64 xdt, .int .i64 xnn, .slice xia xil xic, .slice xka xkl xkc] 49 (0, 0)) = w6 at h6 D6 ⊢
    generalize wr.heap.size = xb at h6 ⊢
    clear c0 c1 c2 c3 c4
    obtain ⟨Sx, hSx⟩ : ∃ A, A = pt xb (.cells #[.int .i64 xkd, .int .i64 xdt, .int .i64 xnn, .slice xia xil xic, .slice xka xkl xkc] 49 (0, 0)) := ⟨_, rfl⟩
    rw [← hSx] at h6
    have hSxc : ∀ w' Q, Sat w' (Sx * Q) → w'.cell? ⟨xb, 0, none⟩ = some (.int .i64 xkd) ∧ w'.cell? ⟨xb, 1, none⟩ = some (.int .i64 xdt) ∧ w'.cell? ⟨xb, 2, none⟩ = some (.int .i64 xnn) ∧ w'.cell? ⟨xb, 3, none⟩ = some (.slice xia xil xic) ∧ w'.cell? ⟨xb, 4, none⟩ = some (.slice xka xkl xkc) := fun w' Q h => by
     rw [hSx] at h; exact ⟨h.cell 0, h.cell 1, h.cell 2, h.cell 3, h.cell 4⟩
    obtain ⟨c0, c1, c2, c3, c4⟩ := hSxc w6 _ h6
    have H6 : Sat w6 (pt sv (.cells #[ptV s] 29 (0, 0)) * (stoA s j d n P J * (devA S d (D.wth o) * (pool S * ((Sx * Y) * whole w))))) := h6.to (by ac_rfl)
    obtain ⟨Y1, hY1⟩ : ∃ A, A = Sx * Y := ⟨_, rfl⟩
    have hM1 : Lst (Y1 * whole w) u10 n X := (HL1.out.under Sx).cast (by rw [hY1]; ac_rfl)
    have hM2 : Lst (Y1 * whole w) u12 n X2 := (HL2.out.under Sx).cast (by rw [hY1]; ac_rfl)
    rw [← hY1] at H6
    have HM1 := SL.hid hM1; have HM2 := SL.hid hM2
    have csv : w6.cell? ⟨sv, 0, none⟩ = some (ptV s) := H6.cell 0
    have H6h := SL.hid H6; have D6h := SL.hid D6
    have hIk : Hid (IsInts w xka xkl xkc xkz) := HSt.out.keep
    have hIi : Hid (IsInts w xia xil xic xiz) := HSt.out.ids
    have hkl : xkl ≤ 17592186044416 := HSt.out.kl
    clear hSx hSxc h6 D6 H6 hY1 hM1 hM2 HL1 HL2 HSt
    by_cases hk5 : xkd < 5
    ·as_aux_lemma =>
      have hwr := writes11_any w6 n (by omega) (by omega) xkd xdt xnn xia xil xic xiz (ints_old hIi.out (H6h.out.to (by ac_rfl : _ = (pt sv (.cells #[ptV s] 29 (0, 0)) * (stoA s j d n P J * (devA S d (D.wth o) * (pool S * Y1)))) * whole w))) (.slice xka xkl xkc)
      unfold stepV at hwr
      go_wp2_with fail
      (with_reducible refine hwr.mono ?_)
      rintro e w9 ⟨v, L, rfl, hW, h9, d9⟩
      obtain ⟨va, vc, rfl⟩ := hW.sh
      obtain ⟨m, hm⟩ : ∃ m, m = L.length := ⟨_, rfl⟩
      have hm24 : m ≤ 24 := by rw [hm]; exact hW.l24
      have hm24' : (m : Int) ≤ 24 := by omega
      have Hm := SL.hid hm; have HW := SL.hid hW
      have h9' := h9.under H6h.out
      have D9 := D6h.out.trans d9
      rw [← hm]
      clear hwr h9 d9 hm hW c0 c1 c2 c3 c4 csv H6h D6h
      by_cases h0 : m = 0
      ·have hfin : Sat w9 (pt sv (.cells #[ptV s] 29 (0, 0)) * (stoA s j d n P J * (devA S d (D.wth o) * (pool S * ((wrsA (.slice va L.length vc) L * Y1) * whole w))))) := h9'.to (by ac_rfl)
       have Hfin := SL.hid hfin; have HD9 := SL.hid D9
       have h0' : ¬ 0 < (m : Int) := by omega
       clear h9' D9 hfin h0
       go_wp2_with fail
       go_roundw
       case rel => exact ⟨i + 1, B, s, j, S, J, D, has, o, X, X2, _, by omega, by go_num, by have := HB.out; omega, HC.out, (HM1.out.under (wrsA (.slice va L.length vc) L)).cast (by ac_rfl), (HM2.out.under (wrsA (.slice va L.length vc) L)).cast (by ac_rfl), Hfin.out, HD9.out⟩
       case measure => simp [intOf]; omega
      ·have h0' : 0 < (m : Int) := by omega
       have H9 : Sat w9 (stoA s j d n P J * (devA S d (D.wth o) * (pool S * (wrsA (.slice va L.length vc) L * ((pt sv (.cells #[ptV s] 29 (0, 0)) * Y1) * whole w))))) := h9'.to (by ac_rfl)
       have cs := sto_cell H9
       have csv : w9.cell? ⟨sv, 0, none⟩ = some (ptV s) := (H9.to (by ac_rfl : _ = pt sv (.cells #[ptV s] 29 (0, 0)) * (stoA s j d n P J * (devA S d (D.wth o) * (pool S * (wrsA (.slice va L.length vc) L * (Y1 * whole w))))))).cell 0
       have hcm := commitA_any w9 S s j d n P B J D has o X X2 ((pt sv (.cells #[ptV s] 29 (0, 0)) * Y1) * whole w) _ L H9 HC.out HM1.out.len Hg.out (by have := HB.out; omega) HW.out (by rw [← Hm.out]; omega)
       rw [← Hm.out] at hcm
       have HD9 := SL.hid D9
       clear h9' H9 D9
       go_wp2_with fail
       (with_reducible refine hcm.mono ?_)
       rintro e w10 ⟨S2, hE2, d10, ⟨J2, D2, o2, rfl, h10, hC2⟩ | ⟨J2, E, K, rfl, h10, hsE, hRE⟩⟩
       ·have D10 := HD9.out.trans d10
        have hrd := HM1.out.rds (h10.to (by ac_rfl : _ = (stoA s j d n P J2 * (devA S2 d (D2.wth o2) * (pool S2 * (wrsA (.slice va m vc) L * pt sv (.cells #[ptV s] 29 (0, 0)))))) * (Y1 * whole w)))
        have hrw := rdWs_of HW.out.b480 (h10.to (by ac_rfl : _ = (stoA s j d n P J2 * (devA S2 d (D2.wth o2) * pool S2)) * (wrsA (.slice va m vc) L * ((pt sv (.cells #[ptV s] 29 (0, 0)) * Y1) * whole w))))
        have hwi := with11_any w10 n (by omega) (by omega) _ X HM1.out.len hrd _ L HW.out (by rw [← Hm.out]; exact hrw)
        rw [← Hm.out] at hwi
        have HC2 := SL.hid hC2
        have H10 := SL.hid h10; have HD10 := SL.hid D10
        clear hcm h10 d10 D10 hrd hrw hC2 cs csv HD9 h0'
        go_wp2_with fail
        (with_reducible refine hwi.mono ?_)
        rintro e w11 ⟨v2, rfl, h11, d11⟩
        have hlen2 : (withL X L.bl).length = n := by unfold withL; rw [withN_len]; exact HM1.out.len
        have h11' := h11.under H10.out
        have hls : Lst (sl 3 1 v2 (withL X L.bl).length (SL.i64v (withL X L.bl)) * ((wrsA (.slice va m vc) L * Y1) * whole w)) v2 n (withL X L.bl) := lst_of h11' hlen2 (by omega) (with_val HM1.out.len HM1.out.val _)
        have HLs := SL.hid hls
        generalize withL X L.bl = XN at *
        obtain ⟨SLn, hSLn⟩ : ∃ A, A = sl 3 1 v2 XN.length (SL.i64v XN) := ⟨_, rfl⟩
        rw [← hSLn] at h11' HLs
        have hfin : Sat w11 (pt sv (.cells #[ptV s] 29 (0, 0)) * (stoA s j d n P J2 * (devA S2 d (D2.wth o2) * (pool S2 * ((SLn * (wrsA (.slice va m vc) L * Y1)) * whole w))))) := h11'.to (by ac_rfl)
        have Hfin := SL.hid hfin; have HDf := SL.hid (HD10.out.trans d11)
        clear hwi h11 d11 h11' hls hlen2 HD10 H10 hfin hSLn
        go_wp2_with fail
        go_roundw
        case rel => exact ⟨i + 1, B + 1, s, j, S2, J2, D2, _, o2, XN, X, SLn * (wrsA (.slice va m vc) L * Y1), by omega, by go_num, by have := HB.out; omega, HC2.out, HLs.out.cast (by ac_rfl), (HM1.out.under (SLn * wrsA (.slice va m vc) L)).cast (by ac_rfl), Hfin.out, HDf.out⟩
        case measure => simp [intOf]; omega
       ·have hdn := downD_any w10 S2 d (E.crash K) _ (h10.to (by ac_rfl : _ = devA S2 d (E.crash K) * (stoA s j d n P J2 * (pool S2 * (wrsA (.slice va m vc) L * ((pt sv (.cells #[ptV s] 29 (0, 0)) * Y1) * whole w))))))
        have hdt : (E.crash K).down = true := rfl
        rw [hdt] at hdn
        have hA : Sat w10 (devA S2 d (E.crash K) * (pool S2 * (pt sv (.cells #[ptV s] 29 (0, 0)) * ((stoA s j d n P J2 * (wrsA (.slice va m vc) L * Y1)) * whole w)))) := h10.to (by ac_rfl)
        have hup := up_any w10 S2 d n P _ _ sv _ _ _ (ptV s) hA hsE hRE Hg.out (by have := HB.out; omega) (fun w' X hx => HF.out w' (X * (stoA s j d n P J2 * (wrsA (.slice va m vc) L * Y1))) (hx.to (by ac_rfl)))
        have HdA := SL.hid (HD9.out.trans d10)
        have HQ1 : Hid (Lst ((stoA s j d n P J2 * (wrsA (.slice va m vc) L * Y1)) * whole w) u10 n X) := (HM1.out.under (stoA s j d n P J2 * wrsA (.slice va m vc) L)).cast (by ac_rfl)
        have HQ2 : Hid (Lst ((stoA s j d n P J2 * (wrsA (.slice va m vc) L * Y1)) * whole w) u12 n X2) := (HM2.out.under (stoA s j d n P J2 * wrsA (.slice va m vc) L)).cast (by ac_rfl)
        clear hcm h10 d10 cs csv HD9 h0' hA hsE hRE hdt
        go_wp2_with fail
        (with_reducible refine hdn.mono ?_)
        rintro e wA ⟨rfl, rfl⟩
        clear hdn
        go_wp2_with fail
        (with_reducible refine hup.mono ?_)
        rintro e wB ⟨s2, j2, S3, J3, D3u, has3, hE3, rfl, hB0, dB, hsjU, hscU, hwtU, h1u, hR1, hSm⟩
        have hupU := SL.hid (UpD.mk hsjU hwtU hscU)
        have hOr : Hid (Or3 n (withL X L.bl) X X2 has3) := by
         rcases hR1 with h | h | h
         ·exact .inl (says_same h hSm)
         ·exact .inr (.inl (says_same h hSm))
         ·exact .inr (.inr (says_same h hSm))
        have hrd := HQ1.out.rds (hB0.to (by ac_rfl : _ = (pt sv (.cells #[ptV s2] 29 (0, 0)) * (stoA s2 j2 d n P J3 * (devA S3 d D3u * pool S3))) * ((stoA s j d n P J2 * (wrsA (.slice va m vc) L * Y1)) * whole w)))
        have hrw := rdWs_of HW.out.b480 (hB0.to (by ac_rfl : _ = (pt sv (.cells #[ptV s2] 29 (0, 0)) * (stoA s2 j2 d n P J3 * (devA S3 d D3u * (pool S3 * stoA s j d n P J2)))) * (wrsA (.slice va m vc) L * (Y1 * whole w))))
        have hwi := with11_any wB n (by omega) (by omega) _ X HM1.out.len hrd _ L HW.out (by rw [← Hm.out]; exact hrw)
        rw [← Hm.out] at hwi
        have HB0 := SL.hid hB0; have HdB := SL.hid (HdA.out.trans dB)
        clear hup dB HdA hR1 hSm hsjU hwtU hscU hrd hrw hB0
        go_wp2_with fail
        (with_reducible refine hwi.mono ?_)
        rintro e wB2 ⟨v2, rfl, h11, d11⟩
        have hlen2 : (withL X L.bl).length = n := by unfold withL; rw [withN_len]; exact HM1.out.len
        have h11' := h11.under HB0.out
        have hls : Lst (sl 3 1 v2 (withL X L.bl).length (SL.i64v (withL X L.bl)) * ((stoA s j d n P J2 * (wrsA (.slice va m vc) L * Y1)) * whole w)) v2 n (withL X L.bl) := lst_of h11' hlen2 (by omega) (with_val HM1.out.len HM1.out.val _)
        have HLs0 := SL.hid hls
        generalize withL X L.bl = XN at *
        obtain ⟨SLn, hSLn⟩ : ∃ A, A = sl 3 1 v2 XN.length (SL.i64v XN) := ⟨_, rfl⟩
        rw [← hSLn] at h11' HLs0
        have HLs := SL.hid (HLs0.out.cast (by ac_rfl : _ = (SLn * (stoA s j d n P J2 * (wrsA (.slice va m vc) L * Y1))) * whole w))
        have HR1 := SL.hid ((HQ1.out.under SLn).cast (by ac_rfl : _ = (SLn * (stoA s j d n P J2 * (wrsA (.slice va m vc) L * Y1))) * whole w))
        have HR2 := SL.hid ((HQ2.out.under SLn).cast (by ac_rfl : _ = (SLn * (stoA s j d n P J2 * (wrsA (.slice va m vc) L * Y1))) * whole w))
        have hB1 : Sat wB2 (pt sv (.cells #[ptV s2] 29 (0, 0)) * (stoA s2 j2 d n P J3 * (devA S3 d D3u * (pool S3 * ((SLn * (stoA s j d n P J2 * (wrsA (.slice va m vc) L * Y1))) * whole w))))) := h11'.to (by ac_rfl)
        have HdB2 := SL.hid (HdB.out.trans d11)
        clear hwi h11 d11 h11' hls hlen2 HdB HB0 hSLn HLs0
        have cv1 : wB2.cell? ⟨sv, 0, none⟩ = some (ptV s2) := (hB1.to (by ac_rfl : _ = pt sv (.cells #[ptV s2] 29 (0, 0)) * (stoA s2 j2 d n P J3 * (devA S3 d D3u * (pool S3 * ((SLn * (stoA s j d n P J2 * (wrsA (.slice va m vc) L * Y1))) * whole w)))))).cell 0
        have his1 := is11_any wB2 S3 s2 j2 d n P _ (superE n P) J3 D3u has3 _ XN ((pt sv (.cells #[ptV s2] 29 (0, 0)) * (SLn * (stoA s j d n P J2 * (wrsA (.slice va m vc) L * Y1)))) * whole w) (hB1.to (by ac_rfl)) hupU.out.sj (by omega) ((HLs.out.under (pt sv (.cells #[ptV s2] 29 (0, 0)))).cast (by ac_rfl))
        clear hB1
        go_wp2_with fail
        (with_reducible refine his1.mono ?_)
        rintro e wC ⟨b1, k1, rfl, hb1, hk1, hC0, dC⟩
        have hup1 := SL.hid (hupU.out.cr (addN D3u.cr k1))
        generalize ({ D3u with cr := addN D3u.cr k1 } : Dev) = D4u at hC0 hup1
        clear his1 cv1
        have hC1 : Sat wC (pt sv (.cells #[ptV s2] 29 (0, 0)) * (stoA s2 j2 d n P J3 * (devA S3 d D4u * (pool S3 * ((SLn * (stoA s j d n P J2 * (wrsA (.slice va m vc) L * Y1))) * whole w))))) := hC0.to (by ac_rfl)
        clear hC0
        have cv2 : wC.cell? ⟨sv, 0, none⟩ = some (ptV s2) := (hC1.to (by ac_rfl : _ = pt sv (.cells #[ptV s2] 29 (0, 0)) * (stoA s2 j2 d n P J3 * (devA S3 d D4u * (pool S3 * ((SLn * (stoA s j d n P J2 * (wrsA (.slice va m vc) L * Y1))) * whole w)))))).cell 0
        have his2 := is11_any wC S3 s2 j2 d n P _ (superE n P) J3 D4u has3 _ X ((pt sv (.cells #[ptV s2] 29 (0, 0)) * (SLn * (stoA s j d n P J2 * (wrsA (.slice va m vc) L * Y1)))) * whole w) (hC1.to (by ac_rfl)) hup1.out.sj (by omega) ((HR1.out.under (pt sv (.cells #[ptV s2] 29 (0, 0)))).cast (by ac_rfl))
        clear hC1
        go_wp2_with fail
        (with_reducible refine his2.mono ?_)
        rintro e wD ⟨b2, k2, rfl, hb2, hk2, hD0, dD⟩
        have hup2 := SL.hid (hup1.out.cr (addN D4u.cr k2))
        generalize ({ D4u with cr := addN D4u.cr k2 } : Dev) = D5u at hD0 hup2
        clear his2 cv2
        have hD1 : Sat wD (pt sv (.cells #[ptV s2] 29 (0, 0)) * (stoA s2 j2 d n P J3 * (devA S3 d D5u * (pool S3 * ((SLn * (stoA s j d n P J2 * (wrsA (.slice va m vc) L * Y1))) * whole w))))) := hD0.to (by ac_rfl)
        clear hD0
        have cv3 : wD.cell? ⟨sv, 0, none⟩ = some (ptV s2) := (hD1.to (by ac_rfl : _ = pt sv (.cells #[ptV s2] 29 (0, 0)) * (stoA s2 j2 d n P J3 * (devA S3 d D5u * (pool S3 * ((SLn * (stoA s j d n P J2 * (wrsA (.slice va m vc) L * Y1))) * whole w)))))).cell 0
        have his3 := is11_any wD S3 s2 j2 d n P _ (superE n P) J3 D5u has3 _ X2 ((pt sv (.cells #[ptV s2] 29 (0, 0)) * (SLn * (stoA s j d n P J2 * (wrsA (.slice va m vc) L * Y1)))) * whole w) (hD1.to (by ac_rfl)) hup2.out.sj (by omega) ((HR2.out.under (pt sv (.cells #[ptV s2] 29 (0, 0)))).cast (by ac_rfl))
        clear hD1
        go_wp2_with fail
        (with_reducible refine his3.mono ?_)
        rintro e wE ⟨b3, k3, rfl, hb3, hk3, hE0, dE⟩
        have hup3 := SL.hid (hup2.out.cr (addN D5u.cr k3))
        generalize ({ D5u with cr := addN D5u.cr k3 } : Dev) = D6u at hE0 hup3
        clear his3 cv3
        have hE1 : Sat wE (pt sv (.cells #[ptV s2] 29 (0, 0)) * (stoA s2 j2 d n P J3 * (devA S3 d D6u * (pool S3 * ((SLn * (stoA s j d n P J2 * (wrsA (.slice va m vc) L * Y1))) * whole w))))) := hE0.to (by ac_rfl)
        have HdE := SL.hid (((HdB2.out.trans dC).trans dD).trans dE)
        clear hE0 dC dD dE HdB2
        cases b1 with
        | true =>
         have hsays := hb1.1 rfl
         obtain ⟨⟨hg9, hc9, hv9, _⟩, _, _⟩ := id HLs.out
         obtain ⟨vq, wz, hrunc, hz, dz⟩ := copy_run wE _ XN n (by omega) HLs.out.len (HLs.out.rds (hE1.to (by ac_rfl : _ = (pt sv (.cells #[ptV s2] 29 (0, 0)) * (stoA s2 j2 d n P J3 * (devA S3 d D6u * pool S3))) * ((SLn * (stoA s j d n P J2 * (wrsA (.slice va m vc) L * Y1))) * whole w))))
         have hz1 := hz.under hE1
         have hlc9 := lst_of (F := (SLn * (stoA s j d n P J2 * (wrsA (.slice va m vc) L * Y1))) * whole w) hz1 HLs.out.len (by omega) HLs.out.val
         have Hlc := SL.hid hlc9
         obtain ⟨SLc, hSLc⟩ : ∃ A, A = sl 3 1 vq (XN).length (SL.i64v XN) := ⟨_, rfl⟩
         rw [← hSLc] at hz1 Hlc
         have Hz := SL.hid (hz1.to (by ac_rfl : _ = pt sv (.cells #[ptV s2] 29 (0, 0)) * (stoA s2 j2 d n P J3 * (devA S3 d D6u * (pool S3 * ((SLc * (SLn * (stoA s j d n P J2 * (wrsA (.slice va m vc) L * Y1)))) * whole w)))))); have Dz := SL.hid (HdE.out.trans dz)
         have Hlo := SL.hid ((HLs.out.under SLc).cast (by ac_rfl : _ = (SLc * (SLn * (stoA s j d n P J2 * (wrsA (.slice va m vc) L * Y1)))) * whole w))
         have Hlc2 := SL.hid (Hlc.out.cast (by ac_rfl : _ = (SLc * (SLn * (stoA s j d n P J2 * (wrsA (.slice va m vc) L * Y1)))) * whole w))
         have Hend := SL.hid (hup3.out.crs hsays XN)
         rw [hv9] at hrunc Hlo
         subst hv9
         have hrunh := SL.hid hrunc
         clear hrunc hz hz1 hlc9 dz hSLc Hlc hE1 hsays hb1 hb2 hb3 hk1 hk2 hk3
         go_wp2_with (at_builtin; refine wpList_append_run hrunh.out _ _ rfl rfl rfl rfl rfl ?_)
         go_roundw
         case rel => exact ⟨i + 1, _, s2, j2, S3, J3, D6u, has3, none, XN, XN, SLc * (SLn * (stoA s j d n P J2 * (wrsA (.slice va m vc) L * Y1))), by omega, by go_num, by have := HB.out; omega, Hend.out, Hlo.out, Hlc2.out, by rw [wth_none]; exact Hz.out, Dz.out⟩
         case measure => simp [intOf]; omega
        | false =>
         have hn1 : ¬ SaysK has3 XN n := fun h => by have := hb1.2 h; cases this
         cases b2 with
         | true =>
          have hsays := hb2.1 rfl
          obtain ⟨⟨hg9, hc9, hv9, _⟩, _, _⟩ := id HR1.out
          obtain ⟨vq, wz, hrunc, hz, dz⟩ := copy_run wE _ X n (by omega) HR1.out.len (HR1.out.rds (hE1.to (by ac_rfl : _ = (pt sv (.cells #[ptV s2] 29 (0, 0)) * (stoA s2 j2 d n P J3 * (devA S3 d D6u * pool S3))) * ((SLn * (stoA s j d n P J2 * (wrsA (.slice va m vc) L * Y1))) * whole w))))
          have hz1 := hz.under hE1
          have hlc9 := lst_of (F := (SLn * (stoA s j d n P J2 * (wrsA (.slice va m vc) L * Y1))) * whole w) hz1 HR1.out.len (by omega) HR1.out.val
          have Hlc := SL.hid hlc9
          obtain ⟨SLc, hSLc⟩ : ∃ A, A = sl 3 1 vq (X).length (SL.i64v X) := ⟨_, rfl⟩
          rw [← hSLc] at hz1 Hlc
          have Hz := SL.hid (hz1.to (by ac_rfl : _ = pt sv (.cells #[ptV s2] 29 (0, 0)) * (stoA s2 j2 d n P J3 * (devA S3 d D6u * (pool S3 * ((SLc * (SLn * (stoA s j d n P J2 * (wrsA (.slice va m vc) L * Y1)))) * whole w)))))); have Dz := SL.hid (HdE.out.trans dz)
          have Hlo := SL.hid ((HR1.out.under SLc).cast (by ac_rfl : _ = (SLc * (SLn * (stoA s j d n P J2 * (wrsA (.slice va m vc) L * Y1)))) * whole w))
          have Hlc2 := SL.hid (Hlc.out.cast (by ac_rfl : _ = (SLc * (SLn * (stoA s j d n P J2 * (wrsA (.slice va m vc) L * Y1)))) * whole w))
          have Hend := SL.hid (hup3.out.crs hsays X)
          rw [hv9] at hrunc Hlo
          subst hv9
          have hrunh := SL.hid hrunc
          clear hrunc hz hz1 hlc9 dz hSLc Hlc hE1 hsays hb1 hb2 hb3 hk1 hk2 hk3 hn1
          go_wp2_with (at_builtin; refine wpList_append_run hrunh.out _ _ rfl rfl rfl rfl rfl ?_)
          go_roundw
          case rel => exact ⟨i + 1, _, s2, j2, S3, J3, D6u, has3, none, X, X, SLc * (SLn * (stoA s j d n P J2 * (wrsA (.slice va m vc) L * Y1))), by omega, by go_num, by have := HB.out; omega, Hend.out, Hlo.out, Hlc2.out, by rw [wth_none]; exact Hz.out, Dz.out⟩
          case measure => simp [intOf]; omega
         | false =>
          have hn2 : ¬ SaysK has3 X n := fun h => by have := hb2.2 h; cases this
          have hsays : SaysK has3 X2 n := by
           rcases hOr.out with h | h | h
           ·exact absurd h hn1
           ·exact absurd h hn2
           ·exact h
          obtain rfl : b3 = true := hb3.2 hsays
          obtain ⟨⟨hg9, hc9, hv9, _⟩, _, _⟩ := id HR2.out
          obtain ⟨vq, wz, hrunc, hz, dz⟩ := copy_run wE _ X2 n (by omega) HR2.out.len (HR2.out.rds (hE1.to (by ac_rfl : _ = (pt sv (.cells #[ptV s2] 29 (0, 0)) * (stoA s2 j2 d n P J3 * (devA S3 d D6u * pool S3))) * ((SLn * (stoA s j d n P J2 * (wrsA (.slice va m vc) L * Y1))) * whole w))))
          have hz1 := hz.under hE1
          have hlc9 := lst_of (F := (SLn * (stoA s j d n P J2 * (wrsA (.slice va m vc) L * Y1))) * whole w) hz1 HR2.out.len (by omega) HR2.out.val
          have Hlc := SL.hid hlc9
          obtain ⟨SLc, hSLc⟩ : ∃ A, A = sl 3 1 vq (X2).length (SL.i64v X2) := ⟨_, rfl⟩
          rw [← hSLc] at hz1 Hlc
          have Hz := SL.hid (hz1.to (by ac_rfl : _ = pt sv (.cells #[ptV s2] 29 (0, 0)) * (stoA s2 j2 d n P J3 * (devA S3 d D6u * (pool S3 * ((SLc * (SLn * (stoA s j d n P J2 * (wrsA (.slice va m vc) L * Y1)))) * whole w)))))); have Dz := SL.hid (HdE.out.trans dz)
          have Hlo := SL.hid ((HR2.out.under SLc).cast (by ac_rfl : _ = (SLc * (SLn * (stoA s j d n P J2 * (wrsA (.slice va m vc) L * Y1)))) * whole w))
          have Hlc2 := SL.hid (Hlc.out.cast (by ac_rfl : _ = (SLc * (SLn * (stoA s j d n P J2 * (wrsA (.slice va m vc) L * Y1)))) * whole w))
          have Hend := SL.hid (hup3.out.crs hsays X2)
          rw [hv9] at hrunc Hlo
          subst hv9
          have hrunh := SL.hid hrunc
          clear hrunc hz hz1 hlc9 dz hSLc Hlc hE1 hsays hb1 hb2 hb3 hk1 hk2 hk3 hn1 hn2
          go_wp2_with (at_builtin; refine wpList_append_run hrunh.out _ _ rfl rfl rfl rfl rfl ?_)
          go_roundw
          case rel => exact ⟨i + 1, _, s2, j2, S3, J3, D6u, has3, none, X2, X2, SLc * (SLn * (stoA s j d n P J2 * (wrsA (.slice va m vc) L * Y1))), by omega, by go_num, by have := HB.out; omega, Hend.out, Hlo.out, Hlc2.out, by rw [wth_none]; exact Hz.out, Dz.out⟩
          case measure => simp [intOf]; omega
    ·by_cases hk5e : xkd = 5
     ·as_aux_lemma =>
       have hsy := syncA_any w6 S s j d n P B J D has o X X2 _ (H6h.out.to (by ac_rfl : _ = stoA s j d n P J * (devA S d (D.wth o) * (pool S * ((pt sv (.cells #[ptV s] 29 (0, 0)) * Y1) * whole w))))) HC.out
       clear H6h
       go_wp2_with fail
       (with_reducible refine hsy.mono ?_)
       rintro e w7 ⟨d7, ⟨D2, o2, rfl, h7, hC2⟩ | ⟨J2, E, K, rfl, h7, hsE, hRE⟩⟩
       ·have H7 := SL.hid (h7.to (by ac_rfl : _ = pt sv (.cells #[ptV s] 29 (0, 0)) * (stoA s j d n P J * (devA S d (D2.wth o2) * (pool S * (Y1 * whole w)))))); have HC2 := SL.hid hC2; have D7 := SL.hid (D6h.out.trans d7)
        clear hsy h7 d7 hC2 D6h
        go_wp2_with fail
        go_roundw
        case rel => exact ⟨i + 1, B, s, j, S, J, D2, has, o2, X, X, Y1, by omega, by go_num, by have := HB.out; omega, HC2.out, HM1.out, HM1.out, H7.out, D7.out⟩
        case measure => simp [intOf]; omega
       ·have hdn := downD_any w7 S d (E.crash K) _ (h7.to (by ac_rfl : _ = devA S d (E.crash K) * (stoA s j d n P J2 * (pool S * ((pt sv (.cells #[ptV s] 29 (0, 0)) * Y1) * whole w)))))
        have hdt : (E.crash K).down = true := rfl
        rw [hdt] at hdn
        have H7 := SL.hid h7; have D7 := SL.hid (D6h.out.trans d7); have HsE := SL.hid hsE; have HRE := SL.hid hRE
        clear hsy h7 d7 D6h hdt hsE hRE csv c0 c1 c2 c3 c4
        go_wp2_with fail
        (with_reducible refine hdn.mono ?_)
        rintro e wA ⟨rfl, rfl⟩
        have hA : Sat w7 (devA S d (E.crash K) * (pool S * (pt sv (.cells #[ptV s] 29 (0, 0)) * ((stoA s j d n P J2 * Y1) * whole w)))) := H7.out.to (by ac_rfl)
        have dA := D7.out; have hsE := HsE.out; have hRE := HRE.out
        have hq1 : Lst ((stoA s j d n P J2 * Y1) * whole w) u10 n X := (HM1.out.under (stoA s j d n P J2)).cast (by ac_rfl)
        have hq2 : Lst ((stoA s j d n P J2 * Y1) * whole w) u12 n X2 := (HM2.out.under (stoA s j d n P J2)).cast (by ac_rfl)
        clear hdn H7 D7 HsE HRE
        have hup := up_any w7 S d n P _ _ sv _ _ _ (ptV s) hA hsE hRE Hg.out (by have := HB.out; omega) (fun w' X hx => HF.out w' (X * (stoA s j d n P J2 * Y1)) (hx.to (by ac_rfl)))
        have HdA := SL.hid dA; have HQ1 := SL.hid hq1; have HQ2 := SL.hid hq2
        clear hA dA hsE hRE hq1 hq2
        go_wp2_with fail
        (with_reducible refine hup.mono ?_)
        rintro e wB ⟨s2, j2, S3, J3, D3u, has3, hE3, rfl, hB0, dB, hsjU, hscU, hwtU, h1u, hR1, hSm⟩
        have hupU := SL.hid (UpD.mk hsjU hwtU hscU)
        have HdB := SL.hid (HdA.out.trans dB)
        have hOr : Or2 n X X2 has3 := by
         rcases hR1 with h | h
         ·exact .inl (says_same h hSm)
         ·exact .inr (says_same h hSm)
        clear hup dB HdA hR1 hSm hsjU hwtU hscU
        have cv1 : wB.cell? ⟨sv, 0, none⟩ = some (ptV s2) := (hB0.to (by ac_rfl : _ = pt sv (.cells #[ptV s2] 29 (0, 0)) * (stoA s2 j2 d n P J3 * (devA S3 d D3u * (pool S3 * ((stoA s j d n P J2 * Y1) * whole w)))))).cell 0
        have his1 := is11_any wB S3 s2 j2 d n P _ (superE n P) J3 D3u has3 _ X ((pt sv (.cells #[ptV s2] 29 (0, 0)) * (stoA s j d n P J2 * Y1)) * whole w) (hB0.to (by ac_rfl)) hupU.out.sj (by omega) ((HQ1.out.under (pt sv (.cells #[ptV s2] 29 (0, 0)))).cast (by ac_rfl))
        clear hB0
        go_wp2_with fail
        (with_reducible refine his1.mono ?_)
        rintro e wC ⟨b1, k1, rfl, hb1, hk1, hC0, dC⟩
        have hup1 := SL.hid (hupU.out.cr (addN D3u.cr k1))
        generalize ({ D3u with cr := addN D3u.cr k1 } : Dev) = D4u at hC0 hup1
        clear his1 cv1
        have hC1 : Sat wC (stoA s2 j2 d n P J3 * (devA S3 d D4u * (pool S3 * ((pt sv (.cells #[ptV s2] 29 (0, 0)) * (stoA s j d n P J2 * Y1)) * whole w)))) := hC0
        clear hC0
        have cv2 : wC.cell? ⟨sv, 0, none⟩ = some (ptV s2) := (hC1.to (by ac_rfl : _ = pt sv (.cells #[ptV s2] 29 (0, 0)) * (stoA s2 j2 d n P J3 * (devA S3 d D4u * (pool S3 * ((stoA s j d n P J2 * Y1) * whole w)))))).cell 0
        have his2 := is11_any wC S3 s2 j2 d n P _ (superE n P) J3 D4u has3 _ X2 ((pt sv (.cells #[ptV s2] 29 (0, 0)) * (stoA s j d n P J2 * Y1)) * whole w) (hC1.to (by ac_rfl)) hup1.out.sj (by omega) ((HQ2.out.under (pt sv (.cells #[ptV s2] 29 (0, 0)))).cast (by ac_rfl))
        clear hC1
        go_wp2_with fail
        (with_reducible refine his2.mono ?_)
        rintro e wD ⟨b2, k2, rfl, hb2, hk2, hD0, dD⟩
        have hup2 := SL.hid (hup1.out.cr (addN D4u.cr k2))
        generalize ({ D4u with cr := addN D4u.cr k2 } : Dev) = D5u at hD0 hup2
        clear his2 cv2
        have hD1 : Sat wD (pt sv (.cells #[ptV s2] 29 (0, 0)) * (stoA s2 j2 d n P J3 * (devA S3 d D5u * (pool S3 * ((stoA s j d n P J2 * Y1) * whole w))))) := hD0.to (by ac_rfl)
        have HdD := SL.hid ((HdB.out.trans dC).trans dD)
        clear hD0 dC dD HdB
        cases b1 with
        | true =>
         have hsays := hb1.1 rfl
         obtain ⟨⟨hg9, hc9, hv9, _⟩, _, _⟩ := id HQ1.out
         obtain ⟨vq, wz, hrunc, hz, dz⟩ := copy_run wD _ X n (by omega) HQ1.out.len (HQ1.out.rds (hD1.to (by ac_rfl : _ = (pt sv (.cells #[ptV s2] 29 (0, 0)) * (stoA s2 j2 d n P J3 * (devA S3 d D5u * pool S3))) * ((stoA s j d n P J2 * Y1) * whole w))))
         have hz1 := hz.under hD1
         have hlc9 := lst_of (F := (stoA s j d n P J2 * Y1) * whole w) hz1 HQ1.out.len (by omega) HQ1.out.val
         have Hlc := SL.hid hlc9
         obtain ⟨SLc, hSLc⟩ : ∃ A, A = sl 3 1 vq (X).length (SL.i64v X) := ⟨_, rfl⟩
         rw [← hSLc] at hz1 Hlc
         have Hz := SL.hid (hz1.to (by ac_rfl : _ = pt sv (.cells #[ptV s2] 29 (0, 0)) * (stoA s2 j2 d n P J3 * (devA S3 d D5u * (pool S3 * ((SLc * (stoA s j d n P J2 * Y1)) * whole w)))))); have Dz := SL.hid (HdD.out.trans dz)
         have Hlo := SL.hid ((HQ1.out.under SLc).cast (by ac_rfl : _ = (SLc * (stoA s j d n P J2 * Y1)) * whole w))
         have Hlc2 := SL.hid (Hlc.out.cast (by ac_rfl : _ = (SLc * (stoA s j d n P J2 * Y1)) * whole w))
         have Hend := SL.hid (hup2.out.crs hsays X)
         rw [hv9] at hrunc Hlo
         subst hv9
         have hrunh := SL.hid hrunc
         clear hrunc hz hz1 hlc9 dz hSLc Hlc hD1 hsays hb1 hb2 hOr hk1 hk2
         go_wp2_with (at_builtin; refine wpList_append_run hrunh.out _ _ rfl rfl rfl rfl rfl ?_)
         go_roundw
         case rel => exact ⟨i + 1, _, s2, j2, S3, J3, D5u, has3, none, X, X, SLc * (stoA s j d n P J2 * Y1), by omega, by go_num, by have := HB.out; omega, Hend.out, Hlo.out, Hlc2.out, by rw [wth_none]; exact Hz.out, Dz.out⟩
         case measure => simp [intOf]; omega
        | false =>
         have hn1 : ¬ SaysK has3 X n := fun h => by have := hb1.2 h; cases this
         have hsays : SaysK has3 X2 n := by
          rcases hOr with h | h
          ·exact absurd h hn1
          ·exact h
         obtain rfl : b2 = true := hb2.2 hsays
         obtain ⟨⟨hg9, hc9, hv9, _⟩, _, _⟩ := id HQ2.out
         obtain ⟨vq, wz, hrunc, hz, dz⟩ := copy_run wD _ X2 n (by omega) HQ2.out.len (HQ2.out.rds (hD1.to (by ac_rfl : _ = (pt sv (.cells #[ptV s2] 29 (0, 0)) * (stoA s2 j2 d n P J3 * (devA S3 d D5u * pool S3))) * ((stoA s j d n P J2 * Y1) * whole w))))
         have hz1 := hz.under hD1
         have hlc9 := lst_of (F := (stoA s j d n P J2 * Y1) * whole w) hz1 HQ2.out.len (by omega) HQ2.out.val
         have Hlc := SL.hid hlc9
         obtain ⟨SLc, hSLc⟩ : ∃ A, A = sl 3 1 vq (X2).length (SL.i64v X2) := ⟨_, rfl⟩
         rw [← hSLc] at hz1 Hlc
         have Hz := SL.hid (hz1.to (by ac_rfl : _ = pt sv (.cells #[ptV s2] 29 (0, 0)) * (stoA s2 j2 d n P J3 * (devA S3 d D5u * (pool S3 * ((SLc * (stoA s j d n P J2 * Y1)) * whole w)))))); have Dz := SL.hid (HdD.out.trans dz)
         have Hlo := SL.hid ((HQ2.out.under SLc).cast (by ac_rfl : _ = (SLc * (stoA s j d n P J2 * Y1)) * whole w))
         have Hlc2 := SL.hid (Hlc.out.cast (by ac_rfl : _ = (SLc * (stoA s j d n P J2 * Y1)) * whole w))
         have Hend := SL.hid (hup2.out.crs hsays X2)
         rw [hv9] at hrunc Hlo
         subst hv9
         have hrunh := SL.hid hrunc
         clear hrunc hz hz1 hlc9 dz hSLc Hlc hD1 hsays hb1 hb2 hOr hk1 hk2 hn1
         go_wp2_with (at_builtin; refine wpList_append_run hrunh.out _ _ rfl rfl rfl rfl rfl ?_)
         go_roundw
         case rel => exact ⟨i + 1, _, s2, j2, S3, J3, D5u, has3, none, X2, X2, SLc * (stoA s j d n P J2 * Y1), by omega, by go_num, by have := HB.out; omega, Hend.out, Hlo.out, Hlc2.out, by rw [wth_none]; exact Hz.out, Dz.out⟩
         case measure => simp [intOf]; omega
     ·by_cases hk6 : xkd = 6
      ·as_aux_lemma =>
        have hcr := crashK_any w w6 S d D o (pt sv (.cells #[ptV s] 29 (0, 0)) * (stoA s j d n P J * (pool S * Y1))) hIk.out (H6h.out.to (by ac_rfl : _ = devA S d (D.wth o) * ((pt sv (.cells #[ptV s] 29 (0, 0)) * (stoA s j d n P J * (pool S * Y1))) * whole w))) (wth_ok HC.out.sj.jt.inv.dok HC.out.ok)
        generalize xkz.take xkl = K at hcr
        clear H6h csv
        go_wp2_with fail
        (with_reducible refine hcr.mono ?_)
        rintro e wA ⟨rfl, hA0, dA0⟩
        have hA : Sat wA (devA S d (D.crash K) * (pool S * (pt sv (.cells #[ptV s] 29 (0, 0)) * ((stoA s j d n P J * Y1) * whole w)))) := hA0.to (by ac_rfl)
        have dA := D6h.out.trans dA0
        have hsE : (Dev.again D K).sec.length = P + 1 := by rw [again_sec]; exact HC.out.sec
        have hRE := HC.out.crs K
        have hq1 : Lst ((stoA s j d n P J * Y1) * whole w) u10 n X := (HM1.out.under (stoA s j d n P J)).cast (by ac_rfl)
        have hq2 : Lst ((stoA s j d n P J * Y1) * whole w) u12 n X2 := (HM2.out.under (stoA s j d n P J)).cast (by ac_rfl)
        clear hcr hA0 dA0 D6h c0 c1 c2 c3 c4
        have hup := up_any wA S d n P _ _ sv _ _ _ (ptV s) hA hsE hRE Hg.out (by have := HB.out; omega) (fun w' X hx => HF.out w' (X * (stoA s j d n P J * Y1)) (hx.to (by ac_rfl)))
        have HdA := SL.hid dA; have HQ1 := SL.hid hq1; have HQ2 := SL.hid hq2
        clear hA dA hsE hRE hq1 hq2
        go_wp2_with fail
        (with_reducible refine hup.mono ?_)
        rintro e wB ⟨s2, j2, S3, J3, D3u, has3, hE3, rfl, hB0, dB, hsjU, hscU, hwtU, h1u, hR1, hSm⟩
        have hupU := SL.hid (UpD.mk hsjU hwtU hscU)
        have HdB := SL.hid (HdA.out.trans dB)
        have hOr : Or2 n X X2 has3 := by
         rcases hR1 with h | h
         ·exact .inl (says_same h hSm)
         ·exact .inr (says_same h hSm)
        clear hup dB HdA hR1 hSm hsjU hwtU hscU
        have cv1 : wB.cell? ⟨sv, 0, none⟩ = some (ptV s2) := (hB0.to (by ac_rfl : _ = pt sv (.cells #[ptV s2] 29 (0, 0)) * (stoA s2 j2 d n P J3 * (devA S3 d D3u * (pool S3 * ((stoA s j d n P J * Y1) * whole w)))))).cell 0
        have his1 := is11_any wB S3 s2 j2 d n P _ (superE n P) J3 D3u has3 _ X ((pt sv (.cells #[ptV s2] 29 (0, 0)) * (stoA s j d n P J * Y1)) * whole w) (hB0.to (by ac_rfl)) hupU.out.sj (by omega) ((HQ1.out.under (pt sv (.cells #[ptV s2] 29 (0, 0)))).cast (by ac_rfl))
        clear hB0
        go_wp2_with fail
        (with_reducible refine his1.mono ?_)
        rintro e wC ⟨b1, k1, rfl, hb1, hk1, hC0, dC⟩
        have hup1 := SL.hid (hupU.out.cr (addN D3u.cr k1))
        generalize ({ D3u with cr := addN D3u.cr k1 } : Dev) = D4u at hC0 hup1
        clear his1 cv1
        have hC1 : Sat wC (stoA s2 j2 d n P J3 * (devA S3 d D4u * (pool S3 * ((pt sv (.cells #[ptV s2] 29 (0, 0)) * (stoA s j d n P J * Y1)) * whole w)))) := hC0
        clear hC0
        have cv2 : wC.cell? ⟨sv, 0, none⟩ = some (ptV s2) := (hC1.to (by ac_rfl : _ = pt sv (.cells #[ptV s2] 29 (0, 0)) * (stoA s2 j2 d n P J3 * (devA S3 d D4u * (pool S3 * ((stoA s j d n P J * Y1) * whole w)))))).cell 0
        have his2 := is11_any wC S3 s2 j2 d n P _ (superE n P) J3 D4u has3 _ X2 ((pt sv (.cells #[ptV s2] 29 (0, 0)) * (stoA s j d n P J * Y1)) * whole w) (hC1.to (by ac_rfl)) hup1.out.sj (by omega) ((HQ2.out.under (pt sv (.cells #[ptV s2] 29 (0, 0)))).cast (by ac_rfl))
        clear hC1
        go_wp2_with fail
        (with_reducible refine his2.mono ?_)
        rintro e wD ⟨b2, k2, rfl, hb2, hk2, hD0, dD⟩
        have hup2 := SL.hid (hup1.out.cr (addN D4u.cr k2))
        generalize ({ D4u with cr := addN D4u.cr k2 } : Dev) = D5u at hD0 hup2
        clear his2 cv2
        have hD1 : Sat wD (pt sv (.cells #[ptV s2] 29 (0, 0)) * (stoA s2 j2 d n P J3 * (devA S3 d D5u * (pool S3 * ((stoA s j d n P J * Y1) * whole w))))) := hD0.to (by ac_rfl)
        have HdD := SL.hid ((HdB.out.trans dC).trans dD)
        clear hD0 dC dD HdB
        cases b1 with
        | true =>
         have hsays := hb1.1 rfl
         obtain ⟨⟨hg9, hc9, hv9, _⟩, _, _⟩ := id HQ1.out
         obtain ⟨vq, wz, hrunc, hz, dz⟩ := copy_run wD _ X n (by omega) HQ1.out.len (HQ1.out.rds (hD1.to (by ac_rfl : _ = (pt sv (.cells #[ptV s2] 29 (0, 0)) * (stoA s2 j2 d n P J3 * (devA S3 d D5u * pool S3))) * ((stoA s j d n P J * Y1) * whole w))))
         have hz1 := hz.under hD1
         have hlc9 := lst_of (F := (stoA s j d n P J * Y1) * whole w) hz1 HQ1.out.len (by omega) HQ1.out.val
         have Hlc := SL.hid hlc9
         obtain ⟨SLc, hSLc⟩ : ∃ A, A = sl 3 1 vq (X).length (SL.i64v X) := ⟨_, rfl⟩
         rw [← hSLc] at hz1 Hlc
         have Hz := SL.hid (hz1.to (by ac_rfl : _ = pt sv (.cells #[ptV s2] 29 (0, 0)) * (stoA s2 j2 d n P J3 * (devA S3 d D5u * (pool S3 * ((SLc * (stoA s j d n P J * Y1)) * whole w)))))); have Dz := SL.hid (HdD.out.trans dz)
         have Hlo := SL.hid ((HQ1.out.under SLc).cast (by ac_rfl : _ = (SLc * (stoA s j d n P J * Y1)) * whole w))
         have Hlc2 := SL.hid (Hlc.out.cast (by ac_rfl : _ = (SLc * (stoA s j d n P J * Y1)) * whole w))
         have Hend := SL.hid (hup2.out.crs hsays X)
         rw [hv9] at hrunc Hlo
         subst hv9
         have hrunh := SL.hid hrunc
         clear hrunc hz hz1 hlc9 dz hSLc Hlc hD1 hsays hb1 hb2 hOr hk1 hk2
         go_wp2_with (at_builtin; refine wpList_append_run hrunh.out _ _ rfl rfl rfl rfl rfl ?_)
         go_roundw
         case rel => exact ⟨i + 1, _, s2, j2, S3, J3, D5u, has3, none, X, X, SLc * (stoA s j d n P J * Y1), by omega, by go_num, by have := HB.out; omega, Hend.out, Hlo.out, Hlc2.out, by rw [wth_none]; exact Hz.out, Dz.out⟩
         case measure => simp [intOf]; omega
        | false =>
         have hn1 : ¬ SaysK has3 X n := fun h => by have := hb1.2 h; cases this
         have hsays : SaysK has3 X2 n := by
          rcases hOr with h | h
          ·exact absurd h hn1
          ·exact h
         obtain rfl : b2 = true := hb2.2 hsays
         obtain ⟨⟨hg9, hc9, hv9, _⟩, _, _⟩ := id HQ2.out
         obtain ⟨vq, wz, hrunc, hz, dz⟩ := copy_run wD _ X2 n (by omega) HQ2.out.len (HQ2.out.rds (hD1.to (by ac_rfl : _ = (pt sv (.cells #[ptV s2] 29 (0, 0)) * (stoA s2 j2 d n P J3 * (devA S3 d D5u * pool S3))) * ((stoA s j d n P J * Y1) * whole w))))
         have hz1 := hz.under hD1
         have hlc9 := lst_of (F := (stoA s j d n P J * Y1) * whole w) hz1 HQ2.out.len (by omega) HQ2.out.val
         have Hlc := SL.hid hlc9
         obtain ⟨SLc, hSLc⟩ : ∃ A, A = sl 3 1 vq (X2).length (SL.i64v X2) := ⟨_, rfl⟩
         rw [← hSLc] at hz1 Hlc
         have Hz := SL.hid (hz1.to (by ac_rfl : _ = pt sv (.cells #[ptV s2] 29 (0, 0)) * (stoA s2 j2 d n P J3 * (devA S3 d D5u * (pool S3 * ((SLc * (stoA s j d n P J * Y1)) * whole w)))))); have Dz := SL.hid (HdD.out.trans dz)
         have Hlo := SL.hid ((HQ2.out.under SLc).cast (by ac_rfl : _ = (SLc * (stoA s j d n P J * Y1)) * whole w))
         have Hlc2 := SL.hid (Hlc.out.cast (by ac_rfl : _ = (SLc * (stoA s j d n P J * Y1)) * whole w))
         have Hend := SL.hid (hup2.out.crs hsays X2)
         rw [hv9] at hrunc Hlo
         subst hv9
         have hrunh := SL.hid hrunc
         clear hrunc hz hz1 hlc9 dz hSLc Hlc hD1 hsays hb1 hb2 hOr hk1 hk2 hn1
         go_wp2_with (at_builtin; refine wpList_append_run hrunh.out _ _ rfl rfl rfl rfl rfl ?_)
         go_roundw
         case rel => exact ⟨i + 1, _, s2, j2, S3, J3, D5u, has3, none, X2, X2, SLc * (stoA s j d n P J * Y1), by omega, by go_num, by have := HB.out; omega, Hend.out, Hlo.out, Hlc2.out, by rw [wth_none]; exact Hz.out, Dz.out⟩
         case measure => simp [intOf]; omega
      ·by_cases hk7 : xkd = 7
       ·as_aux_lemma =>
         obtain ⟨hrds, hlK⟩ := rds_ints (ints_old hIk.out (H6h.out.to (by ac_rfl : _ = (pt sv (.cells #[ptV s] 29 (0, 0)) * (stoA s j d n P J * (devA S d (D.wth o) * (pool S * Y1)))) * whole w)))
         obtain ⟨N, hN, hN63⟩ : ∃ N : Nat, (N : Int) = xnn % 64 ∧ N ≤ 63 := ⟨(xnn % 64).toNat, by omega, by omega⟩
         have ha6 : bits .and .i64 xnn 63 = (N : Int) := by rw [and6]; exact hN.symm
         have hKl : (xkz.take xkl).length ≤ 17592186044416 := by rw [hlK]; exact hkl
         have har := arm_any w6 S d (D.wth o) _ (N : Int) (by omega) (.slice xka xkl xkc) (xkz.take xkl) hrds hKl (H6h.out.to (by ac_rfl : _ = devA S d (D.wth o) * (pool S * ((pt sv (.cells #[ptV s] 29 (0, 0)) * (stoA s j d n P J * Y1)) * whole w))))
         rw [arm_wth] at har
         have hC2 : Hid (CrS n P B J D has (some (N, xkz.take xkl)) X X2) := ⟨HC.out.sj, HC.out.sec, fun N' K' e => by injection e with e; injection e with e1 e2; subst e1; subst e2; exact ⟨by omega, by omega⟩, HC.out.says, HC.out.crs⟩
         generalize xkz.take xkl = K at har hC2 hKl
         clear H6h csv hrds hlK hN
         go_wp2_with fail
         (with_reducible refine har.mono ?_)
         rintro e w7 ⟨rfl, h7, d7⟩
         have H7 := SL.hid (h7.to (by ac_rfl : _ = pt sv (.cells #[ptV s] 29 (0, 0)) * (stoA s j d n P J * (devA S d (D.wth (some (N, K))) * (pool S * (Y1 * whole w)))))); have D7 := SL.hid (D6h.out.trans d7)
         clear har h7 d7 D6h
         go_wp2_with fail
         go_roundw
         case rel => exact ⟨i + 1, B, s, j, S, J, D, has, some (N, K), X, X2, Y1, by omega, by go_num, by have := HB.out; omega, hC2.out, HM1.out, HM2.out, H7.out, D7.out⟩
         case measure => simp [intOf]; omega
       ·as_aux_lemma =>
         have hmt := mountA_any w6 S d n P B J D has o X X2 ((pt sv (.cells #[ptV s] 29 (0, 0)) * (stoA s j d n P J * Y1)) * whole w) (H6h.out.to (by ac_rfl)) HC.out Hg.out (by have := HB.out; omega) (fun w' X hx => HF.out w' (X * (pt sv (.cells #[ptV s] 29 (0, 0)) * (stoA s j d n P J * Y1))) (hx.to (by ac_rfl)))
         clear H6h csv
         go_wp2_with fail
         (with_reducible refine hmt.mono ?_)
         rintro e w7 ⟨S2, hE2, d7, ⟨s2, j2, J2, D2, has2, o2, rfl, h7, hC2⟩ | ⟨E, K, rfl, h7, hsE, hRE⟩⟩
         ·have H7 : Sat w7 (pt sv (.cells #[ptV s] 29 (0, 0)) * (stoA s2 j2 d n P J2 * (devA S2 d (D2.wth o2) * (pool S2 * ((stoA s j d n P J * Y1) * whole w))))) := h7.to (by ac_rfl)
          have csv : w7.cell? ⟨sv, 0, none⟩ = some (ptV s) := H7.cell 0
          have fsv := H7.frozen 0
          have HS7 := SL.hid (H7.setCell 0 (ptV s2)); have DS7 := SL.hid ((D6h.out.trans d7).setCell ⟨sv, 0, none⟩ (ptV s2)); have HC2 := SL.hid hC2
          clear hmt h7 d7 H7 D6h hC2
          go_wp2_with fail
          go_roundw
          case rel => exact ⟨i + 1, B + 2, s2, j2, S2, J2, D2, has2, o2, X, X, stoA s j d n P J * Y1, by omega, by go_num, by have := HB.out; omega, HC2.out, (HM1.out.under (stoA s j d n P J)).cast (by ac_rfl), (HM1.out.under (stoA s j d n P J)).cast (by ac_rfl), HS7.out, DS7.out⟩
          case measure => simp [intOf]; omega
         ·have hdn := downD_any w7 S2 d (E.crash K) _ h7
          have hdt : (E.crash K).down = true := rfl
          rw [hdt] at hdn
          have H7 := SL.hid h7; have D7 := SL.hid (D6h.out.trans d7); have HsE := SL.hid hsE; have HRE := SL.hid hRE
          clear hmt h7 d7 D6h hdt hsE hRE c0 c1 c2 c3 c4
          go_wp2_with fail
          (with_reducible refine hdn.mono ?_)
          rintro e wA ⟨rfl, rfl⟩
          have hA : Sat w7 (devA S2 d (E.crash K) * (pool S2 * (pt sv (.cells #[ptV s] 29 (0, 0)) * ((stoA s j d n P J * Y1) * whole w)))) := H7.out.to (by ac_rfl)
          have dA := D7.out; have hsE := HsE.out; have hRE := HRE.out
          have hq1 : Lst ((stoA s j d n P J * Y1) * whole w) u10 n X := (HM1.out.under (stoA s j d n P J)).cast (by ac_rfl)
          have hq2 : Lst ((stoA s j d n P J * Y1) * whole w) u12 n X2 := (HM2.out.under (stoA s j d n P J)).cast (by ac_rfl)
          clear hdn H7 D7 HsE HRE
          have hup := up_any w7 S2 d n P _ _ sv _ _ _ (ptV s) hA hsE hRE Hg.out (by have := HB.out; omega) (fun w' X hx => HF.out w' (X * (stoA s j d n P J * Y1)) (hx.to (by ac_rfl)))
          have HdA := SL.hid dA; have HQ1 := SL.hid hq1; have HQ2 := SL.hid hq2
          clear hA dA hsE hRE hq1 hq2
          go_wp2_with fail
          (with_reducible refine hup.mono ?_)
          rintro e wB ⟨s2, j2, S3, J3, D3u, has3, hE3, rfl, hB0, dB, hsjU, hscU, hwtU, h1u, hR1, hSm⟩
          have hupU := SL.hid (UpD.mk hsjU hwtU hscU)
          have HdB := SL.hid (HdA.out.trans dB)
          have hOr : Or2 n X X2 has3 := by
           rcases hR1 with h | h
           ·exact .inl (says_same h hSm)
           ·exact .inr (says_same h hSm)
          clear hup dB HdA hR1 hSm hsjU hwtU hscU
          have cv1 : wB.cell? ⟨sv, 0, none⟩ = some (ptV s2) := (hB0.to (by ac_rfl : _ = pt sv (.cells #[ptV s2] 29 (0, 0)) * (stoA s2 j2 d n P J3 * (devA S3 d D3u * (pool S3 * ((stoA s j d n P J * Y1) * whole w)))))).cell 0
          have his1 := is11_any wB S3 s2 j2 d n P _ (superE n P) J3 D3u has3 _ X ((pt sv (.cells #[ptV s2] 29 (0, 0)) * (stoA s j d n P J * Y1)) * whole w) (hB0.to (by ac_rfl)) hupU.out.sj (by omega) ((HQ1.out.under (pt sv (.cells #[ptV s2] 29 (0, 0)))).cast (by ac_rfl))
          clear hB0
          go_wp2_with fail
          (with_reducible refine his1.mono ?_)
          rintro e wC ⟨b1, k1, rfl, hb1, hk1, hC0, dC⟩
          have hup1 := SL.hid (hupU.out.cr (addN D3u.cr k1))
          generalize ({ D3u with cr := addN D3u.cr k1 } : Dev) = D4u at hC0 hup1
          clear his1 cv1
          have hC1 : Sat wC (stoA s2 j2 d n P J3 * (devA S3 d D4u * (pool S3 * ((pt sv (.cells #[ptV s2] 29 (0, 0)) * (stoA s j d n P J * Y1)) * whole w)))) := hC0
          clear hC0
          have cv2 : wC.cell? ⟨sv, 0, none⟩ = some (ptV s2) := (hC1.to (by ac_rfl : _ = pt sv (.cells #[ptV s2] 29 (0, 0)) * (stoA s2 j2 d n P J3 * (devA S3 d D4u * (pool S3 * ((stoA s j d n P J * Y1) * whole w)))))).cell 0
          have his2 := is11_any wC S3 s2 j2 d n P _ (superE n P) J3 D4u has3 _ X2 ((pt sv (.cells #[ptV s2] 29 (0, 0)) * (stoA s j d n P J * Y1)) * whole w) (hC1.to (by ac_rfl)) hup1.out.sj (by omega) ((HQ2.out.under (pt sv (.cells #[ptV s2] 29 (0, 0)))).cast (by ac_rfl))
          clear hC1
          go_wp2_with fail
          (with_reducible refine his2.mono ?_)
          rintro e wD ⟨b2, k2, rfl, hb2, hk2, hD0, dD⟩
          have hup2 := SL.hid (hup1.out.cr (addN D4u.cr k2))
          generalize ({ D4u with cr := addN D4u.cr k2 } : Dev) = D5u at hD0 hup2
          clear his2 cv2
          have hD1 : Sat wD (pt sv (.cells #[ptV s2] 29 (0, 0)) * (stoA s2 j2 d n P J3 * (devA S3 d D5u * (pool S3 * ((stoA s j d n P J * Y1) * whole w))))) := hD0.to (by ac_rfl)
          have HdD := SL.hid ((HdB.out.trans dC).trans dD)
          clear hD0 dC dD HdB
          cases b1 with
          | true =>
           have hsays := hb1.1 rfl
           obtain ⟨⟨hg9, hc9, hv9, _⟩, _, _⟩ := id HQ1.out
           obtain ⟨vq, wz, hrunc, hz, dz⟩ := copy_run wD _ X n (by omega) HQ1.out.len (HQ1.out.rds (hD1.to (by ac_rfl : _ = (pt sv (.cells #[ptV s2] 29 (0, 0)) * (stoA s2 j2 d n P J3 * (devA S3 d D5u * pool S3))) * ((stoA s j d n P J * Y1) * whole w))))
           have hz1 := hz.under hD1
           have hlc9 := lst_of (F := (stoA s j d n P J * Y1) * whole w) hz1 HQ1.out.len (by omega) HQ1.out.val
           have Hlc := SL.hid hlc9
           obtain ⟨SLc, hSLc⟩ : ∃ A, A = sl 3 1 vq (X).length (SL.i64v X) := ⟨_, rfl⟩
           rw [← hSLc] at hz1 Hlc
           have Hz := SL.hid (hz1.to (by ac_rfl : _ = pt sv (.cells #[ptV s2] 29 (0, 0)) * (stoA s2 j2 d n P J3 * (devA S3 d D5u * (pool S3 * ((SLc * (stoA s j d n P J * Y1)) * whole w)))))); have Dz := SL.hid (HdD.out.trans dz)
           have Hlo := SL.hid ((HQ1.out.under SLc).cast (by ac_rfl : _ = (SLc * (stoA s j d n P J * Y1)) * whole w))
           have Hlc2 := SL.hid (Hlc.out.cast (by ac_rfl : _ = (SLc * (stoA s j d n P J * Y1)) * whole w))
           have Hend := SL.hid (hup2.out.crs hsays X)
           rw [hv9] at hrunc Hlo
           subst hv9
           have hrunh := SL.hid hrunc
           clear hrunc hz hz1 hlc9 dz hSLc Hlc hD1 hsays hb1 hb2 hOr hk1 hk2
           go_wp2_with (at_builtin; refine wpList_append_run hrunh.out _ _ rfl rfl rfl rfl rfl ?_)
           go_roundw
           case rel => exact ⟨i + 1, _, s2, j2, S3, J3, D5u, has3, none, X, X, SLc * (stoA s j d n P J * Y1), by omega, by go_num, by have := HB.out; omega, Hend.out, Hlo.out, Hlc2.out, by rw [wth_none]; exact Hz.out, Dz.out⟩
           case measure => simp [intOf]; omega
          | false =>
           have hn1 : ¬ SaysK has3 X n := fun h => by have := hb1.2 h; cases this
           have hsays : SaysK has3 X2 n := by
            rcases hOr with h | h
            ·exact absurd h hn1
            ·exact h
           obtain rfl : b2 = true := hb2.2 hsays
           obtain ⟨⟨hg9, hc9, hv9, _⟩, _, _⟩ := id HQ2.out
           obtain ⟨vq, wz, hrunc, hz, dz⟩ := copy_run wD _ X2 n (by omega) HQ2.out.len (HQ2.out.rds (hD1.to (by ac_rfl : _ = (pt sv (.cells #[ptV s2] 29 (0, 0)) * (stoA s2 j2 d n P J3 * (devA S3 d D5u * pool S3))) * ((stoA s j d n P J * Y1) * whole w))))
           have hz1 := hz.under hD1
           have hlc9 := lst_of (F := (stoA s j d n P J * Y1) * whole w) hz1 HQ2.out.len (by omega) HQ2.out.val
           have Hlc := SL.hid hlc9
           obtain ⟨SLc, hSLc⟩ : ∃ A, A = sl 3 1 vq (X2).length (SL.i64v X2) := ⟨_, rfl⟩
           rw [← hSLc] at hz1 Hlc
           have Hz := SL.hid (hz1.to (by ac_rfl : _ = pt sv (.cells #[ptV s2] 29 (0, 0)) * (stoA s2 j2 d n P J3 * (devA S3 d D5u * (pool S3 * ((SLc * (stoA s j d n P J * Y1)) * whole w)))))); have Dz := SL.hid (HdD.out.trans dz)
           have Hlo := SL.hid ((HQ2.out.under SLc).cast (by ac_rfl : _ = (SLc * (stoA s j d n P J * Y1)) * whole w))
           have Hlc2 := SL.hid (Hlc.out.cast (by ac_rfl : _ = (SLc * (stoA s j d n P J * Y1)) * whole w))
           have Hend := SL.hid (hup2.out.crs hsays X2)
           rw [hv9] at hrunc Hlo
           subst hv9
           have hrunh := SL.hid hrunc
           clear hrunc hz hz1 hlc9 dz hSLc Hlc hD1 hsays hb1 hb2 hOr hk1 hk2 hn1
           go_wp2_with (at_builtin; refine wpList_append_run hrunh.out _ _ rfl rfl rfl rfl rfl ?_)
           go_roundw
           case rel => exact ⟨i + 1, _, s2, j2, S3, J3, D5u, has3, none, X2, X2, SLc * (stoA s j d n P J * Y1), by omega, by go_num, by have := HB.out; omega, Hend.out, Hlo.out, Hlc2.out, by rw [wth_none]; exact Hz.out, Dz.out⟩
           case measure => simp [intOf]; omega
   ·as_aux_lemma =>
     have hdi := disarm_any wr S d (D.wth o) _ (-1) (by decide) (hsat.to (by ac_rfl : _ = devA S d (D.wth o) * (pt sv (.cells #[ptV s] 29 (0, 0)) * (stoA s j d n P J * (pool S * (Y * whole w))))))
     have hsjd := SL.hid (disarm_sj hC.sj o)
     have hdd : (Dev.disarm (D.wth o)).down = false := (wth_down D o).trans hC.sj.jt.inv.calm.down
     have Hdd := SL.hid hdd; have HSay := SL.hid hC.says; have HL1 := SL.hid hL1; have Hsd := SL.hid hside
     generalize Dev.disarm (D.wth o) = DD at hdi hsjd Hdd hdd
     clear hsat hC hL1 hL2 hside hdd
     by_cases hl1 : i < len0
     ·have hl1' : (i : Int) < (len0 : Int) := by omega
      have hl2' : ¬ (i : Int) < 60 := fun h => hlt ⟨hl1, by omega⟩
      clear hlt
      go_wp2_with fail
      (with_reducible refine hdi.mono ?_)
      rintro e w7 ⟨rfl, h7, d7⟩
      have hdn := downD_any w7 S d DD _ h7
      rw [Hdd.out] at hdn
      have csv : w7.cell? ⟨sv, 0, none⟩ = some (ptV s) := (h7.to (by ac_rfl : _ = pt sv (.cells #[ptV s] 29 (0, 0)) * (devA S d DD * (stoA s j d n P J * (pool S * (Y * whole w)))))).cell 0
      have his := is11_any w7 S s j d n P B (superE n P) J DD has _ X ((pt sv (.cells #[ptV s] 29 (0, 0)) * Y) * whole w) (h7.to (by ac_rfl)) hsjd.out (by omega) ((HL1.out.under (pt sv (.cells #[ptV s] 29 (0, 0)))).cast (by ac_rfl))
      have HD7 := SL.hid (Hsd.out.trans d7)
      clear hdi h7 d7
      go_wp2_with fail
      (with_reducible refine hdn.mono ?_)
      rintro e w8 ⟨rfl, rfl⟩
      clear hdn
      go_wp2_with fail
      (with_reducible refine his.mono ?_)
      rintro e w9 ⟨bb, k, rfl, hb9, hk, h9, d9⟩
      obtain rfl : bb = true := hb9.2 HSay.out
      have Hfin := SL.hid (h9.to (by ac_rfl : _ = (stoA s j d n P J * (devA S d ({ DD with cr := addN DD.cr k } : Dev) * (pool S * (pt sv (.cells #[ptV s] 29 (0, 0)) * Y)))) * whole w)).right; have HDf := SL.hid (HD7.out.trans d9)
      clear his h9 d9 hb9 HD7 csv
      go_wp2_with fail
      go_ret
      exact ⟨rfl, Hfin.out, HDf.out⟩
     ·have hl1' : ¬ (i : Int) < (len0 : Int) := by omega
      clear hlt
      go_wp2_with fail
      (with_reducible refine hdi.mono ?_)
      rintro e w7 ⟨rfl, h7, d7⟩
      have hdn := downD_any w7 S d DD _ h7
      rw [Hdd.out] at hdn
      have csv : w7.cell? ⟨sv, 0, none⟩ = some (ptV s) := (h7.to (by ac_rfl : _ = pt sv (.cells #[ptV s] 29 (0, 0)) * (devA S d DD * (stoA s j d n P J * (pool S * (Y * whole w)))))).cell 0
      have his := is11_any w7 S s j d n P B (superE n P) J DD has _ X ((pt sv (.cells #[ptV s] 29 (0, 0)) * Y) * whole w) (h7.to (by ac_rfl)) hsjd.out (by omega) ((HL1.out.under (pt sv (.cells #[ptV s] 29 (0, 0)))).cast (by ac_rfl))
      have HD7 := SL.hid (Hsd.out.trans d7)
      clear hdi h7 d7
      go_wp2_with fail
      (with_reducible refine hdn.mono ?_)
      rintro e w8 ⟨rfl, rfl⟩
      clear hdn
      go_wp2_with fail
      (with_reducible refine his.mono ?_)
      rintro e w9 ⟨bb, k, rfl, hb9, hk, h9, d9⟩
      obtain rfl : bb = true := hb9.2 HSay.out
      have Hfin := SL.hid (h9.to (by ac_rfl : _ = (stoA s j d n P J * (devA S d ({ DD with cr := addN DD.cr k } : Dev) * (pool S * (pt sv (.cells #[ptV s] 29 (0, 0)) * Y)))) * whole w)).right; have HDf := SL.hid (HD7.out.trans d9)
      clear his h9 d9 hb9 HD7 csv
      go_wp2_with fail
      go_ret
      exact ⟨rfl, Hfin.out, HDf.out⟩
end Go.Proofs.YtdafdidmbeecfaaGreatDoor.Su
end

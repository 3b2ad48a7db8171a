/- Steps towards the statement StoreK. -/
import Derived.Test.YtdafdidmbeecfaaGreatDoorStoreKP45
import Derived.Deep.DeepCutAuto
import Derived.Deep.CutBlock
import Derived.Deep.CutRange
section
namespace Go.Proofs.YtdafdidmbeecfaaGreatDoor.Su
set_option linter.unusedVariables false
set_option linter.unusedSimpArgs false
open Go.RowKit Go.SL Go.Proofs.YtdafdidmbeecfaaGreatDoor Go.Proofs.YtdafdidmbeecfaaGreatDoor.Ba
def KpRel (d n P m : Nat) (w : World) (us uh ui : Value) (wr : World) : Prop :=
 ∃ (i B s j : Nat) (S : Hp) (J : Jr) (D : Dev) (has : Has) (X : List Int) (Y : Assn), i ≤ m ∧ ui = .int .i64 (i : Int) ∧ us = ptV s ∧ B ≤ 10 * i + 1 ∧ LawS n P B J D has ∧ Lst (Y * whole w) uh n X ∧ SaysK has X n ∧ Sat wr (stoA s j d n P J * (devA S d D * (pool S * (Y * whole w)))) ∧ Side w wr
set_option maxRecDepth 100000 in
set_option maxHeartbeats 40000000 in
theorem keeps_any (w : World) (hh : Half w) (blocks : Int) (a0 : Option Addr) (len0 cap0 : Nat) (X0 : Nat → StV) (hX : IsSts w a0 len0 cap0 X0) :
  Calls Tryz.prog 8 #[.int .i64 blocks, .slice a0 len0 cap0] w (ShownQ w) := by
 have hF : ∀ w' X, Sat w' (X * whole w) → Half w' := fun w' X h => hh.old h
 have HF := SL.hid hF
 have hsh := shown11_any w hh
 have ha := and16 blocks
 obtain ⟨n, hn, hn4, hn20⟩ : ∃ n : Nat, (n : Int) = 4 + blocks % 65536 % 17 ∧ 4 ≤ n ∧ n ≤ 20 := ⟨(4 + blocks % 65536 % 17).toNat, by omega, by omega, by omega⟩
 have hs0 : 0 ≤ blocks % 65536 := by omega
 have hs1 : blocks % 65536 ≤ 65535 := by omega
 have Hn := SL.hid hn
 have hlen0 := hX.len_le
 have hlen0' : (len0 : Int) ≤ 9223372036854775807 := by omega
 have HX := SL.hid hX
 have hg := geo_least hn4 hn20
 have hle : ∀ w, Calls Tryz.prog 13 #[.int .i64 (n : Int)] w fun e w' => e = .returned (.int .i64 (((5 * n + 241) / 2 : Nat) : Int)) ∧ w = w' := fun w => by rw [← leastI_nat hn4 (by omega)]; exact least_any w n
 have hP200 : (5 * n + 241) / 2 ≤ 200 := by omega
 generalize (5 * n + 241) / 2 = P at hg hle hP200
 have Hg := SL.hid hg
 have hn4' : (4 : Int) ≤ (n : Int) := by omega
 have hn20' : (n : Int) ≤ 20 := by omega
 have hPi : (P : Int) ≤ 200 := by omega
 have hnew : ∀ w, Calls Tryz.prog 10 #[.int .i64 ((P : Int) + 1)] w _ := fun w => new_any (P + 1) (by omega) (by omega) w
 generalize blocks % 65536 = t at *
 clear hn hh hF hX hg hlen0
 go_enter Tryz.func8, Tryz.ntmps8
 go_wp2_with fail
 (with_reducible refine hsh.mono ?_)
 rintro e w1 ⟨rfl, h1, d1⟩
 clear hsh
 go_wp2_with fail
 rw [← Hn.out]
 (with_reducible refine (hle _).mono ?_)
 rintro e w2 ⟨rfl, rfl⟩
 go_wp2_with fail
 (with_reducible refine (hnew _).mono ?_)
 rintro e w2 ⟨d, rfl, h2, d2⟩
 have H2 : Sat w2 (devA NoB d (Dev.fresh (P + 1)) * (pool NoB * whole w)) := (((h2 NoB).under h1).poolEmp).to (by ac_rfl)
 have hfm := formatS_any w2 d n P (whole w) H2 Hg.out HF.out
 have D2 := d1.trans d2
 clear h1 h2 d1 d2 H2 hnew
 go_wp2_with fail
 (with_reducible refine hfm.mono ?_)
 rintro e w3 ⟨s, j, S3, D3, rfl, h3, d3, hL3, hw3⟩
 obtain ⟨F0, hF0⟩ : ∃ l, l = fill1 n 0 := ⟨_, rfl⟩
 have hmk : ∀ w, (Instr.makeSlice 45 (.int .i64 (n : Int)) (.int .i64 (n : Int))).run Tryz.prog w = .ok (.slice (some ⟨w.heap.size, 0, none⟩) n n) (w.alloc (.cells (ints F0) 3 (0, 0))) := by
  rw [hF0]; exact make_ints n (by omega)
 have HF0 := SL.hid hF0
 have h4 := h3.alloc (.cells (ints F0) 3 (0, 0))
 have D4 := (D2.trans d3).alloc (.cells (ints F0) 3 (0, 0))
 have HL3 := SL.hid hL3; have Hw3 := SL.hid hw3
 clear hF0 h3 d3 D2 hfm hL3 hw3
 go_upto_block 0 with (fail)
 generalize w3.alloc (.cells (ints F0) 3 (0, 0)) = w4 at h4 D4 ⊢
 generalize w3.heap.size = hb at h4 ⊢
 obtain ⟨Z2, hZ2⟩ : ∃ X, X = stoA s j d n P (J0 P n) * (devA S3 d D3 * (pool S3 * whole w)) := ⟨_, rfl⟩
 rw [← hZ2] at h4
 have HZ2 := SL.hid hZ2; have H4 := SL.hid h4; have HD4 := SL.hid D4
 clear hZ2 hmk h4 D4
 go_cut [] from 54 to 61 (fun wx => Sat wx (pt hb (.cells (ints (List.replicate n (-1))) 3 (0, 0)) * Z2) ∧ Side w wx)
 case first =>
  go_wp2_with fail
  go_loopw [11] (fun u wr => Fill1Rel n hb Z2 w u wr) (fun u _ => n - (intOf u).toNat)
  case atStart => exact ⟨0, Nat.zero_le _, rfl, by rw [← HF0.out]; exact H4.out, HD4.out⟩
  case round =>
   clear H4 HD4
   obtain ⟨k, hk, rfl, hsat, hside⟩ := hrel
   by_cases hlt : k < n
   ·have hlt' : (k : Int) < (n : Int) := by omega
    have ck : wr.cell? ⟨hb, k, none⟩ = some (.int .i64 ((fill1 n k).getD k 0)) := (hsat.cell k).trans (get_ints_lt (by rw [fill1_len hk]; exact hlt))
    have fk := hsat.frozen k
    have h2 := hsat.setCell k (.int .i64 (-1))
    rw [set_ints, fill1_set hlt] at h2
    have hset := SL.hid h2
    have Hside := SL.hid hside
    generalize (fill1 n k).getD k 0 = uo at ck
    clear hsat hside h2
    go_wp2
    go_roundw
    case rel => exact ⟨k + 1, by omega, by go_num, hset.out, Hside.out.setCell _ _⟩
    case measure => simp [intOf]; omega
   ·obtain rfl : k = n := by omega
    have e : fill1 k k = List.replicate k (-1) := by simp [fill1]
    rw [e] at hsat
    have Hs := SL.hid hsat; have Hd := SL.hid hside
    clear hsat hside e
    go_wp2_with fail
    go_meet
    exact ⟨Hs.out, Hd.out⟩
 case rest =>
  clear H4 HD4 HF0
  obtain ⟨h5, D5⟩ := hcut
  have H5 : Sat wc (stoA s j d n P (J0 P n) * (devA S3 d D3 * (pool S3 * (pt hb (.cells (ints (List.replicate n (-1))) 3 (0, 0)) * whole w)))) := h5.to (by rw [HZ2.out]; ac_rfl)
  have H5h := SL.hid H5; have D5h := SL.hid D5
  clear h5 H5 D5 HZ2
  go_wp2_with fail
  go_loopw [8, 10, 12] (fun us uh ui wr => KpRel d n P 80 w us uh ui wr) (fun _ _ u _ => 80 - (intOf u).toNat)
  case atStart => exact ⟨0, 1, s, j, S3, J0 P n, D3, noH, _, _, Nat.zero_le _, rfl, rfl, by omega, HL3.out, lst_ints (by omega), says_no n, H5h.out, D5h.out⟩
  case round =>
   clear H5h D5h HL3 Hw3
   obtain ⟨i, B, s, j, S, J, D, has, X, Y, hi, rfl, rfl, hB, hL, hLst, hSay, hsat, hside⟩ := hrel
   by_cases hlt : i < len0 ∧ i < 80
   ·obtain ⟨hlt, h80⟩ := hlt
    have hlt' : (i : Int) < (len0 : Int) := by omega
    have h80' : (i : Int) < 80 := by omega
    obtain ⟨b, off, rfl, hSt, hlc, hcapX⟩ := HX.out.cell hlt
    obtain ⟨x, hx⟩ : ∃ x, x = X0 i := ⟨_, rfl⟩
    rw [← hx] at hSt
    have hW0 : Sat wr ((stoA s j d n P J * (devA S d D * (pool S * Y))) * whole w) := hsat.to (by ac_rfl)
    obtain ⟨c0, c1, c2, c3, c4⟩ := hSt.old hW0
    have h6 := hsat.alloc (.cells #[.int .i64 x.kd, .int .i64 x.dt, .int .i64 x.nn, .slice x.ia x.il x.ic, .slice x.ka x.kl x.kc] 49 (0, 0))
    have D6 := hside.alloc (.cells #[.int .i64 x.kd, .int .i64 x.dt, .int .i64 x.nn, .slice x.ia x.il x.ic, .slice x.ka x.kl x.kc] 49 (0, 0))
    have HSt := SL.hid hSt; have HL := SL.hid hL; have HLst := SL.hid hLst; have HSay := SL.hid hSay; have HB := SL.hid hB
    clear hx hSt hL hLst hSay hB hW0 hsat hside hlt h80 hi
    obtain ⟨xkd, xdt, xnn, xia, xil, xic, xiz, xka, xkl, xkc, xkz⟩ := x
    dsimp only at *
    go_upto_region 18 with (fail)
    generalize wr.alloc (.cells #[.int .i64 xkd, .int .i64 xdt, .int .i64 xnn, .slice xia xil xic, .slice xka xkl xkc] 49 (0, 0)) = w6 at h6 D6 ⊢
    generalize wr.heap.size = xb at h6 ⊢
    have hcn := counts_any w6 S d D _ (h6.to (by ac_rfl : _ = devA S d D * (stoA s j d n P J * (pool S * (pt xb (.cells #[.int .i64 xkd, .int .i64 xdt, .int .i64 xnn, .slice xia xil xic, .slice xka xkl xkc] 49 (0, 0)) * (Y * whole w))))))
    clear c0 c1 c2 c3 c4
    go_wp2_with fail
    (with_reducible refine hcn.mono ?_)
    rintro e w7 ⟨rfl, h7, d7⟩
    obtain ⟨dcr, hcr⟩ : ∃ x, x = D.cr := ⟨_, rfl⟩
    obtain ⟨dcw, hcw⟩ : ∃ x, x = D.cw := ⟨_, rfl⟩
    obtain ⟨dcf, hcf⟩ : ∃ x, x = D.cf := ⟨_, rfl⟩
    have r0 : 0 ≤ dcr := by rw [hcr]; exact HL.out.nb.cr0
    have r1 : dcr ≤ 30000000 := by have := HL.out.nb.cr1; have := HB.out; omega
    have v0 : 0 ≤ dcw := by rw [hcw]; exact HL.out.nb.cw0
    have v1 : dcw ≤ 30000000 := by have := HL.out.nb.cw1; have := HB.out; omega
    have f0 : 0 ≤ dcf := by rw [hcf]; exact HL.out.nb.cf0
    have f1 : dcf ≤ 30000000 := by have := HL.out.nb.cf1; have := HB.out; omega
    rw [← hcr, ← hcw, ← hcf]
    have Hcr := SL.hid hcr; have Hcw := SL.hid hcw; have Hcf := SL.hid hcf
    have h8 := (((h7.keepW h6).alloc (.cells #[.int .i64 dcr, .int .i64 dcw, .int .i64 dcf] 52 (0, 0))).alloc (.cells #[.int .i64 0, .int .i64 0, .int .i64 1] 52 (0, 0)))
    have D8 := (((D6.trans d7).alloc (.cells #[.int .i64 dcr, .int .i64 dcw, .int .i64 dcf] 52 (0, 0))).alloc (.cells #[.int .i64 0, .int .i64 0, .int .i64 1] 52 (0, 0)))
    rw [World.size_alloc] at h8
    clear hcn h6 h7 d7 D6 hcr hcw hcf
    go_upto_region 20 with (fail)
    generalize (w7.alloc (.cells #[.int .i64 dcr, .int .i64 dcw, .int .i64 dcf] 52 (0, 0))).alloc (.cells #[.int .i64 0, .int .i64 0, .int .i64 1] 52 (0, 0)) = w8 at h8 D8 ⊢
    generalize w7.heap.size + 1 = kb at h8 ⊢
    generalize w7.heap.size = ob at h8 ⊢
    obtain ⟨Sx, hSx⟩ : ∃ A, A = pt xb (.cells #[.int .i64 xkd, .int .i64 xdt, .int .i64 xnn, .slice xia xil xic, .slice xka xkl xkc] 49 (0, 0)) := ⟨_, rfl⟩
    obtain ⟨Oc, hOc⟩ : ∃ A, A = pt ob (.cells #[.int .i64 dcr, .int .i64 dcw, .int .i64 dcf] 52 (0, 0)) := ⟨_, rfl⟩
    rw [← hSx, ← hOc] at h8
    have hSxc : ∀ w' Q, Sat w' (Sx * Q) → w'.cell? ⟨xb, 0, none⟩ = some (.int .i64 xkd) ∧ w'.cell? ⟨xb, 1, none⟩ = some (.int .i64 xdt) ∧ w'.cell? ⟨xb, 2, none⟩ = some (.int .i64 xnn) ∧ w'.cell? ⟨xb, 3, none⟩ = some (.slice xia xil xic) ∧ w'.cell? ⟨xb, 4, none⟩ = some (.slice xka xkl xkc) := fun w' Q h => by
     rw [hSx] at h; exact ⟨h.cell 0, h.cell 1, h.cell 2, h.cell 3, h.cell 4⟩
    have hOcc : ∀ w' Q, Sat w' (Oc * Q) → w'.cell? ⟨ob, 0, none⟩ = some (.int .i64 dcr) ∧ w'.cell? ⟨ob, 1, none⟩ = some (.int .i64 dcw) ∧ w'.cell? ⟨ob, 2, none⟩ = some (.int .i64 dcf) := fun w' Q h => by
     rw [hOc] at h; exact ⟨h.cell 0, h.cell 1, h.cell 2⟩
    have HSxc := SL.hid hSxc; have HOcc := SL.hid hOcc
    have H8 : Sat w8 (stoA s j d n P J * (devA S d D * (pool S * (pt kb (.cells #[.int .i64 0, .int .i64 0, .int .i64 1] 52 (0, 0)) * (Sx * (Oc * (Y * whole w))))))) := h8.to (by ac_rfl)
    have H8h := SL.hid H8; have D8h := SL.hid D8
    obtain ⟨c0, c1, c2, c3, c4⟩ := HSxc.out w8 _ (H8.to (by ac_rfl : _ = Sx * (stoA s j d n P J * (devA S d D * (pool S * (pt kb (.cells #[.int .i64 0, .int .i64 0, .int .i64 1] 52 (0, 0)) * (Oc * (Y * whole w))))))))
    clear hSx hOc hSxc hOcc h8 H8 D8
    by_cases hk5 : xkd < 5
    ·have hwr := writes11_any w8 n (by omega) (by omega) xkd xdt xnn xia xil xic xiz (ints_old HSt.out.ids (H8h.out.to (by ac_rfl : _ = (stoA s j d n P J * (devA S d D * (pool S * (pt kb (.cells #[.int .i64 0, .int .i64 0, .int .i64 1] 52 (0, 0)) * (Sx * (Oc * Y)))))) * whole w))) (.slice xka xkl xkc)
     unfold stepV at hwr
     go_wp2_with fail
     (with_reducible refine hwr.mono ?_)
     rintro e w9 ⟨v, L, rfl, hW, h9, d9⟩
     obtain ⟨va, vc, rfl⟩ := hW.sh
     obtain ⟨m, hm⟩ : ∃ m, m = L.length := ⟨_, rfl⟩
     have hm24 : m ≤ 24 := by rw [hm]; exact hW.l24
     have hm24' : (m : Int) ≤ 24 := by omega
     have Hm := SL.hid hm; have HW := SL.hid hW
     have h9' := h9.under H8h.out
     have D9 := D8h.out.trans d9
     rw [← hm]
     clear hwr h9 d9 hm hW c0 c1 c2 c3 c4 H8h D8h
     by_cases h0 : m = 0
     ·have hfin : Sat w9 (stoA s j d n P J * (devA S d D * (pool S * ((wrsA (.slice va L.length vc) L * (pt kb (.cells #[.int .i64 0, .int .i64 0, .int .i64 1] 52 (0, 0)) * (Sx * (Oc * Y)))) * whole w)))) := h9'.to (by ac_rfl)
      have Hfin := SL.hid hfin; have HD9 := SL.hid D9
      have h0' : (m : Int) = 0 := by omega
      clear h9' D9 hfin h0
      go_wp2_with fail
      go_roundw
      case rel => exact ⟨i + 1, B, s, j, S, J, D, has, X, _, by omega, by go_num, rfl, by have := HB.out; omega, HL.out, (HLst.out.under (wrsA (.slice va L.length vc) L * (pt kb (.cells #[.int .i64 0, .int .i64 0, .int .i64 1] 52 (0, 0)) * (Sx * Oc)))).cast (by ac_rfl), HSay.out, Hfin.out, HD9.out⟩
      case measure => simp [intOf]; omega
     ·have h0' : ¬ (m : Int) = 0 := by omega
      have H9 : Sat w9 (stoA s j d n P J * (devA S d D * (pool S * (wrsA (.slice va L.length vc) L * (pt kb (.cells #[.int .i64 0, .int .i64 0, .int .i64 1] 52 (0, 0)) * (Sx * (Oc * (Y * whole w)))))))) := h9'.to (by ac_rfl)
      have cs := sto_cell H9
      have hcm := commitS_any w9 S s j d n P B J D has _ _ L H9 HL.out Hg.out (by have := HB.out; omega) HW.out (by rw [← Hm.out]; omega)
      rw [← Hm.out] at hcm
      have HD9 := SL.hid D9
      clear h9' H9 D9
      go_wp2_with fail
      (with_reducible refine hcm.mono ?_)
      rintro e w10 ⟨S2, J2, D2, hE2, rfl, h10, d10, hL2, k1, k2, k3, k4, k5, k6, k7, k8⟩
      rw [← Hm.out] at k1 k2
      have D10 := HD9.out.trans d10
      have hrd := HLst.out.rds (h10.to (by ac_rfl : _ = (stoA s j d n P J2 * (devA S2 d D2 * (pool S2 * (wrsA (.slice va m vc) L * (pt kb (.cells #[.int .i64 0, .int .i64 0, .int .i64 1] 52 (0, 0)) * (Sx * Oc)))))) * (Y * whole w)))
      have hrw := rdWs_of HW.out.b480 (h10.to (by ac_rfl : _ = (stoA s j d n P J2 * (devA S2 d D2 * pool S2)) * (wrsA (.slice va m vc) L * (pt kb (.cells #[.int .i64 0, .int .i64 0, .int .i64 1] 52 (0, 0)) * (Sx * (Oc * (Y * whole w)))))))
      have hwi := with11_any w10 n (by omega) (by omega) _ X HLst.out.len hrd _ L HW.out (by rw [← Hm.out]; exact hrw)
      rw [← Hm.out] at hwi
      have hL2' := SL.hid hL2
      obtain ⟨kr, hkr⟩ : ∃ k, k = D2.cr - D.cr := ⟨_, rfl⟩
      obtain ⟨kw, hkw⟩ : ∃ k, k = D2.cw - D.cw := ⟨_, rfl⟩
      obtain ⟨kf, hkf⟩ : ∃ k, k = D2.cf - D.cf := ⟨_, rfl⟩
      have q1 : 0 ≤ kr ∧ kr ≤ 2 * (m : Int) := ⟨by omega, by omega⟩
      have q2 : 0 ≤ kw ∧ kw ≤ 3 * (m : Int) := ⟨by omega, by omega⟩
      have q3 : 0 ≤ kf ∧ kf ≤ 1 := ⟨by omega, by omega⟩
      have ekr : D2.cr = dcr + kr := by rw [Hcr.out]; omega
      have ekw : D2.cw = dcw + kw := by rw [Hcw.out]; omega
      have ekf : D2.cf = dcf + kf := by rw [Hcf.out]; omega
      have H10 := SL.hid h10; have HD10 := SL.hid D10
      clear hcm h10 d10 D10 hrd hrw hL2 k1 k2 k3 k4 k5 k6 k7 k8 cs hkr hkw hkf HD9 h0'
      go_wp2_with fail
      (with_reducible refine hwi.mono ?_)
      rintro e w11 ⟨v2, rfl, h11, d11⟩
      have hbb := bbatch_any w11 m (by omega)
      have hlen2 : (withL X L.bl).length = n := by unfold withL; rw [withN_len]; exact HLst.out.len
      have h11' := h11.under H10.out
      have hls : Lst (sl 3 1 v2 (withL X L.bl).length (SL.i64v (withL X L.bl)) * ((wrsA (.slice va m vc) L * Y) * whole w)) v2 n (withL X L.bl) := lst_of h11' hlen2 (by omega) (with_val HLst.out.len HLst.out.val _)
      have hsy := says_with HLst.out.len HSay.out HW.out
      have HLs := SL.hid hls; have HSy := SL.hid hsy
      generalize hX2 : withL X L.bl = X2 at *
      have H11 : Sat w11 (pt kb (.cells #[.int .i64 0, .int .i64 0, .int .i64 1] 52 (0, 0)) * (stoA s j d n P J2 * (devA S2 d D2 * (pool S2 * (Sx * (Oc * (((sl 3 1 v2 X2.length (SL.i64v X2) * (wrsA (.slice va m vc) L * Y))) * whole w))))))) := h11'.to (by ac_rfl)
      have H11h := SL.hid H11; have HD11 := SL.hid (HD10.out.trans d11)
      clear hwi h11 d11 h11' hls hsy hlen2 HD10 H10 H11 hX2
      go_wp2_with fail
      (with_reducible refine hbb.mono ?_)
      rintro e w12 ⟨rfl, h12, d12⟩
      have h13 := h12.keepW H11h.out
      have k0 : w12.cell? ⟨kb, 0, none⟩ = some (.int .i64 0) := h13.cell 0
      have k1 : w12.cell? ⟨kb, 1, none⟩ = some (.int .i64 0) := h13.cell 1
      have k2 : w12.cell? ⟨kb, 2, none⟩ = some (.int .i64 1) := h13.cell 2
      have g0 := h13.frozen 0; have g1 := h13.frozen 1; have g2 := h13.frozen 2
      have hK := ((h13.setCell 0 (.int .i64 (2 * (m : Int)))).setCell 1 (.int .i64 (3 * (m : Int)))).setCell 2 (.int .i64 1)
      have dK := (((HD11.out.trans d12).setCell ⟨kb, 0, none⟩ (.int .i64 (2 * (m : Int)))).setCell ⟨kb, 1, none⟩ (.int .i64 (3 * (m : Int)))).setCell ⟨kb, 2, none⟩ (.int .i64 1)
      have HK := SL.hid hK; have HDK := SL.hid dK
      clear hbb h12 d12 h13 hK dK H11h HD11
      go_upto_region 37 with (fail)
      clear k0 k1 k2 g0 g1 g2
      generalize ((w12.setCell ⟨kb, 0, none⟩ (.int .i64 (2 * (m : Int)))).setCell ⟨kb, 1, none⟩ (.int .i64 (3 * (m : Int)))).setCell ⟨kb, 2, none⟩ (.int .i64 1) = wA at HK HDK ⊢
      have hA : Sat wA (stoA s j d n P J2 * (devA S2 d D2 * (pool S2 * (pt kb (.cells #[.int .i64 (2 * (m : Int)), .int .i64 (3 * (m : Int)), .int .i64 1] 52 (0, 0)) * (Sx * (Oc * (((sl 3 1 v2 X2.length (SL.i64v X2) * (wrsA (.slice va m vc) L * Y))) * whole w))))))) := HK.out.to (by ac_rfl)
      have dA := HDK.out
      clear HK HDK
      have hcn := counts_any wA S2 d D2 _ (hA.to (by ac_rfl : _ = devA S2 d D2 * (stoA s j d n P J2 * (pool S2 * (pt kb (.cells #[.int .i64 (2 * (m : Int)), .int .i64 (3 * (m : Int)), .int .i64 1] 52 (0, 0)) * (Sx * (Oc * (((sl 3 1 v2 X2.length (SL.i64v X2) * (wrsA (.slice va m vc) L * Y))) * whole w))))))))
      have HA := SL.hid hA
      clear hA
      go_wp2_with fail
      (with_reducible refine hcn.mono ?_)
      rintro e wB ⟨rfl, hB1, dB1⟩
      rw [ekr, ekw, ekf]
      have hB2 := (hB1.keepW HA.out).alloc (.cells #[.int .i64 (dcr + kr), .int .i64 (dcw + kw), .int .i64 (dcf + kf)] 52 (0, 0))
      have HDB := SL.hid ((dA.trans dB1).alloc (.cells #[.int .i64 (dcr + kr), .int .i64 (dcw + kw), .int .i64 (dcf + kf)] 52 (0, 0)))
      clear hcn hB1 dB1 dA HA
      go_upto_region 38 with (fail)
      generalize wB.alloc (.cells #[.int .i64 (dcr + kr), .int .i64 (dcw + kw), .int .i64 (dcf + kf)] 52 (0, 0)) = wC at hB2 HDB ⊢
      generalize wB.heap.size = nb at hB2 ⊢
      have HC := SL.hid hB2
      have y0 : wC.cell? ⟨nb, 0, none⟩ = some (.int .i64 (dcr + kr)) := hB2.cell 0
      have y1 : wC.cell? ⟨nb, 1, none⟩ = some (.int .i64 (dcw + kw)) := hB2.cell 1
      have y2 : wC.cell? ⟨nb, 2, none⟩ = some (.int .i64 (dcf + kf)) := hB2.cell 2
      obtain ⟨z0, z1, z2⟩ := HOcc.out wC _ (hB2.to (by ac_rfl : _ = Oc * (pt nb (.cells #[.int .i64 (dcr + kr), .int .i64 (dcw + kw), .int .i64 (dcf + kf)] 52 (0, 0)) * (stoA s j d n P J2 * (devA S2 d D2 * (pool S2 * (pt kb (.cells #[.int .i64 (2 * (m : Int)), .int .i64 (3 * (m : Int)), .int .i64 1] 52 (0, 0)) * (Sx * (((sl 3 1 v2 X2.length (SL.i64v X2) * (wrsA (.slice va m vc) L * Y))) * whole w)))))))))
      have hkb := hB2.to (by ac_rfl : _ = pt kb (.cells #[.int .i64 (2 * (m : Int)), .int .i64 (3 * (m : Int)), .int .i64 1] 52 (0, 0)) * (pt nb (.cells #[.int .i64 (dcr + kr), .int .i64 (dcw + kw), .int .i64 (dcf + kf)] 52 (0, 0)) * (stoA s j d n P J2 * (devA S2 d D2 * (pool S2 * (Sx * (Oc * (((sl 3 1 v2 X2.length (SL.i64v X2) * (wrsA (.slice va m vc) L * Y))) * whole w))))))))
      have x0 : wC.cell? ⟨kb, 0, none⟩ = some (.int .i64 (2 * (m : Int))) := hkb.cell 0
      have x1 : wC.cell? ⟨kb, 1, none⟩ = some (.int .i64 (3 * (m : Int))) := hkb.cell 1
      have x2 : wC.cell? ⟨kb, 2, none⟩ = some (.int .i64 1) := hkb.cell 2
      have sb0 : dcr + kr - dcr = kr := by omega
      have sb1 : dcw + kw - dcw = kw := by omega
      have sb2 : dcf + kf - dcf = kf := by omega
      have hwn := within11_any wC kr kw kf (2 * (m : Int)) (3 * (m : Int)) 1 ⟨by omega, by omega, by omega⟩
      clear hB2 hkb
      go_wp2_with fail
      (with_reducible refine hwn.mono ?_)
      rintro e wD ⟨rfl, hD1, dD1⟩
      have hD2 := hD1.keepW HC.out
      have HDD := SL.hid (HDB.out.trans dD1)
      have hfin : Sat wD (stoA s j d n P J2 * (devA S2 d D2 * (pool S2 * ((pt nb (.cells #[.int .i64 (dcr + kr), .int .i64 (dcw + kw), .int .i64 (dcf + kf)] 52 (0, 0)) * (pt kb (.cells #[.int .i64 (2 * (m : Int)), .int .i64 (3 * (m : Int)), .int .i64 1] 52 (0, 0)) * (Sx * (Oc * (((sl 3 1 v2 X2.length (SL.i64v X2) * (wrsA (.slice va m vc) L * Y)))))))) * whole w)))) := hD2.to (by ac_rfl)
      have HF2 := SL.hid hfin
      clear hwn hD1 dD1 hD2 HDB HC y0 y1 y2 z0 z1 z2 x0 x1 x2 sb0 sb1 sb2 hfin
      go_wp2_with fail
      go_roundw
      case rel => exact ⟨i + 1, B + 1, s, j, S2, J2, D2, _, X2, _, by omega, by go_num, rfl, by have := HB.out; omega, hL2'.out, (HLs.out.under (pt nb (.cells #[.int .i64 (dcr + kr), .int .i64 (dcw + kw), .int .i64 (dcf + kf)] 52 (0, 0)) * (pt kb (.cells #[.int .i64 (2 * (m : Int)), .int .i64 (3 * (m : Int)), .int .i64 1] 52 (0, 0)) * (Sx * Oc)))).cast (by ac_rfl), HSy.out, HF2.out, HDD.out⟩
      case measure => simp [intOf]; omega
    ·by_cases hk8 : xkd < 8
     ·have hsy := syncS_any w8 S s j d n P B J D has _ H8h.out HL.out (by have := HB.out; omega)
      have HD8 := SL.hid D8h.out
      clear H8h D8h c1 c2 c3 c4
      go_wp2_with fail
      (with_reducible refine hsy.mono ?_)
      rintro e wA ⟨D2, rfl, hA, dA1, hL2, e1, e2, e3, _⟩
      obtain ⟨kr, hkr, hkr'⟩ : ∃ k : Int, 0 ≤ k ∧ k ≤ 0 := ⟨0, by omega, by omega⟩
      obtain ⟨kw, hkw, hkw'⟩ : ∃ k : Int, 0 ≤ k ∧ k ≤ 0 := ⟨0, by omega, by omega⟩
      obtain ⟨kf, hkf, hkf'⟩ : ∃ k : Int, 1 ≤ k ∧ k ≤ 1 := ⟨1, by omega, by omega⟩
      have ekr : D2.cr = dcr + kr := by rw [Hcr.out]; omega
      have ekw : D2.cw = dcw + kw := by rw [Hcw.out]; omega
      have ekf : D2.cf = dcf + kf := by rw [Hcf.out]; omega
      have hL2' := SL.hid hL2
      have dA := HD8.out.trans dA1
      clear hsy e1 e2 e3 dA1 HD8 hL2 c0
      have hcn := counts_any wA S d D2 _ (hA.to (by ac_rfl : _ = devA S d D2 * (stoA s j d n P J * (pool S * (pt kb (.cells #[.int .i64 0, .int .i64 0, .int .i64 1] 52 (0, 0)) * (Sx * (Oc * (Y * whole w))))))))
      have HA := SL.hid hA
      clear hA
      go_wp2_with fail
      (with_reducible refine hcn.mono ?_)
      rintro e wB ⟨rfl, hB1, dB1⟩
      rw [ekr, ekw, ekf]
      have hB2 := (hB1.keepW HA.out).alloc (.cells #[.int .i64 (dcr + kr), .int .i64 (dcw + kw), .int .i64 (dcf + kf)] 52 (0, 0))
      have HDB := SL.hid ((dA.trans dB1).alloc (.cells #[.int .i64 (dcr + kr), .int .i64 (dcw + kw), .int .i64 (dcf + kf)] 52 (0, 0)))
      clear hcn hB1 dB1 dA HA
      go_upto_region 38 with (fail)
      generalize wB.alloc (.cells #[.int .i64 (dcr + kr), .int .i64 (dcw + kw), .int .i64 (dcf + kf)] 52 (0, 0)) = wC at hB2 HDB ⊢
      generalize wB.heap.size = nb at hB2 ⊢
      have HC := SL.hid hB2
      have y0 : wC.cell? ⟨nb, 0, none⟩ = some (.int .i64 (dcr + kr)) := hB2.cell 0
      have y1 : wC.cell? ⟨nb, 1, none⟩ = some (.int .i64 (dcw + kw)) := hB2.cell 1
      have y2 : wC.cell? ⟨nb, 2, none⟩ = some (.int .i64 (dcf + kf)) := hB2.cell 2
      obtain ⟨z0, z1, z2⟩ := HOcc.out wC _ (hB2.to (by ac_rfl : _ = Oc * (pt nb (.cells #[.int .i64 (dcr + kr), .int .i64 (dcw + kw), .int .i64 (dcf + kf)] 52 (0, 0)) * (stoA s j d n P J * (devA S d D2 * (pool S * (pt kb (.cells #[.int .i64 0, .int .i64 0, .int .i64 1] 52 (0, 0)) * (Sx * (Y * whole w)))))))))
      have hkb := hB2.to (by ac_rfl : _ = pt kb (.cells #[.int .i64 0, .int .i64 0, .int .i64 1] 52 (0, 0)) * (pt nb (.cells #[.int .i64 (dcr + kr), .int .i64 (dcw + kw), .int .i64 (dcf + kf)] 52 (0, 0)) * (stoA s j d n P J * (devA S d D2 * (pool S * (Sx * (Oc * (Y * whole w))))))))
      have x0 : wC.cell? ⟨kb, 0, none⟩ = some (.int .i64 0) := hkb.cell 0
      have x1 : wC.cell? ⟨kb, 1, none⟩ = some (.int .i64 0) := hkb.cell 1
      have x2 : wC.cell? ⟨kb, 2, none⟩ = some (.int .i64 1) := hkb.cell 2
      have sb0 : dcr + kr - dcr = kr := by omega
      have sb1 : dcw + kw - dcw = kw := by omega
      have sb2 : dcf + kf - dcf = kf := by omega
      have hwn := within11_any wC kr kw kf 0 0 1 ⟨by omega, by omega, by omega⟩
      clear hB2 hkb
      go_wp2_with fail
      (with_reducible refine hwn.mono ?_)
      rintro e wD ⟨rfl, hD1, dD1⟩
      have hD2 := hD1.keepW HC.out
      have HDD := SL.hid (HDB.out.trans dD1)
      have hfin : Sat wD (stoA s j d n P J * (devA S d D2 * (pool S * ((pt nb (.cells #[.int .i64 (dcr + kr), .int .i64 (dcw + kw), .int .i64 (dcf + kf)] 52 (0, 0)) * (pt kb (.cells #[.int .i64 0, .int .i64 0, .int .i64 1] 52 (0, 0)) * (Sx * (Oc * (Y))))) * whole w)))) := hD2.to (by ac_rfl)
      have HF2 := SL.hid hfin
      clear hwn hD1 dD1 hD2 HDB HC y0 y1 y2 z0 z1 z2 x0 x1 x2 sb0 sb1 sb2 hfin
      go_wp2_with fail
      go_roundw
      case rel => exact ⟨i + 1, B + 1, s, j, S, J, D2, has, X, _, by omega, by go_num, rfl, by have := HB.out; omega, hL2'.out, (HLst.out.under (pt nb (.cells #[.int .i64 (dcr + kr), .int .i64 (dcw + kw), .int .i64 (dcf + kf)] 52 (0, 0)) * (pt kb (.cells #[.int .i64 0, .int .i64 0, .int .i64 1] 52 (0, 0)) * (Sx * Oc)))).cast (by ac_rfl), HSay.out, HF2.out, HDD.out⟩
      case measure => simp [intOf]; omega
     ·have hmt := mountS_any w8 S d n P B J D has _ (H8h.out.to (by ac_rfl : _ = devA S d D * (pool S * (stoA s j d n P J * (pt kb (.cells #[.int .i64 0, .int .i64 0, .int .i64 1] 52 (0, 0)) * (Sx * (Oc * (Y * whole w)))))))) HL.out Hg.out (by have := HB.out; omega) (fun w' X hx => HF.out w' (X * (stoA s j d n P J * (pt kb (.cells #[.int .i64 0, .int .i64 0, .int .i64 1] 52 (0, 0)) * (Sx * (Oc * Y))))) (hx.to (by ac_rfl)))
      have HD8 := SL.hid D8h.out
      clear H8h D8h c1 c2 c3 c4
      go_wp2_with fail
      (with_reducible refine hmt.mono ?_)
      rintro e w9 ⟨s2, j2, S2, J2, D2, has2, hE2, rfl, h9, d9, hsm, hsq, hdry, hL2, k1, k2, k3, k4, k5⟩
      obtain ⟨kr, hkr⟩ : ∃ k, k = D2.cr - D.cr := ⟨_, rfl⟩
      obtain ⟨kw, hkw⟩ : ∃ k, k = D2.cw - D.cw := ⟨_, rfl⟩
      obtain ⟨kf, hkf⟩ : ∃ k, k = D2.cf - D.cf := ⟨_, rfl⟩
      have q1 : 0 ≤ kr ∧ kr ≤ (P : Int) + 4 := ⟨by omega, by omega⟩
      have q2 : 0 ≤ kw ∧ kw ≤ 3 := ⟨by omega, by omega⟩
      have q3 : 0 ≤ kf ∧ kf ≤ 3 := ⟨by omega, by omega⟩
      have ekr : D2.cr = dcr + kr := by rw [Hcr.out]; omega
      have ekw : D2.cw = dcw + kw := by rw [Hcw.out]; omega
      have ekf : D2.cf = dcf + kf := by rw [Hcf.out]; omega
      have hL2' := SL.hid hL2; have Hsm := SL.hid hsm
      have H9 := SL.hid h9; have HD9 := SL.hid (HD8.out.trans d9)
      have hbm := fun w => bmount_any w P (by omega)
      clear hmt h9 d9 HD8 hL2 hsm hsq hdry k1 k2 k3 k4 k5 hkr hkw hkf c0
      go_wp2_with fail
      (with_reducible refine (hle _).mono ?_)
      rintro e w10 ⟨rfl, rfl⟩
      go_wp2_with fail
      (with_reducible refine (hbm _).mono ?_)
      rintro e w12 ⟨rfl, h12, d12⟩
      have h13 : Sat w12 (pt kb (.cells #[.int .i64 0, .int .i64 0, .int .i64 1] 52 (0, 0)) * (stoA s2 j2 d n P J2 * (devA S2 d D2 * (pool S2 * (stoA s j d n P J * (Sx * (Oc * (Y * whole w)))))))) := (h12.keepW H9.out).to (by ac_rfl)
      have k0 : w12.cell? ⟨kb, 0, none⟩ = some (.int .i64 0) := h13.cell 0
      have k1 : w12.cell? ⟨kb, 1, none⟩ = some (.int .i64 0) := h13.cell 1
      have k2 : w12.cell? ⟨kb, 2, none⟩ = some (.int .i64 1) := h13.cell 2
      have g0 := h13.frozen 0; have g1 := h13.frozen 1; have g2 := h13.frozen 2
      have hK := ((h13.setCell 0 (.int .i64 ((P : Int) + 4))).setCell 1 (.int .i64 3)).setCell 2 (.int .i64 3)
      have dK := (((HD9.out.trans d12).setCell ⟨kb, 0, none⟩ (.int .i64 ((P : Int) + 4))).setCell ⟨kb, 1, none⟩ (.int .i64 3)).setCell ⟨kb, 2, none⟩ (.int .i64 3)
      have HK := SL.hid hK; have HDK := SL.hid dK
      clear hbm h12 d12 h13 hK dK H9 HD9
      go_upto_region 37 with (fail)
      clear k0 k1 k2 g0 g1 g2
      generalize ((w12.setCell ⟨kb, 0, none⟩ (.int .i64 ((P : Int) + 4))).setCell ⟨kb, 1, none⟩ (.int .i64 3)).setCell ⟨kb, 2, none⟩ (.int .i64 3) = wA at HK HDK ⊢
      have hA : Sat wA (stoA s2 j2 d n P J2 * (devA S2 d D2 * (pool S2 * (pt kb (.cells #[.int .i64 ((P : Int) + 4), .int .i64 3, .int .i64 3] 52 (0, 0)) * (Sx * (Oc * ((stoA s j d n P J * Y) * whole w))))))) := HK.out.to (by ac_rfl)
      have dA := HDK.out
      clear HK HDK
      have hcn := counts_any wA S2 d D2 _ (hA.to (by ac_rfl : _ = devA S2 d D2 * (stoA s2 j2 d n P J2 * (pool S2 * (pt kb (.cells #[.int .i64 ((P : Int) + 4), .int .i64 3, .int .i64 3] 52 (0, 0)) * (Sx * (Oc * ((stoA s j d n P J * Y) * whole w))))))))
      have HA := SL.hid hA
      clear hA
      go_wp2_with fail
      (with_reducible refine hcn.mono ?_)
      rintro e wB ⟨rfl, hB1, dB1⟩
      rw [ekr, ekw, ekf]
      have hB2 := (hB1.keepW HA.out).alloc (.cells #[.int .i64 (dcr + kr), .int .i64 (dcw + kw), .int .i64 (dcf + kf)] 52 (0, 0))
      have HDB := SL.hid ((dA.trans dB1).alloc (.cells #[.int .i64 (dcr + kr), .int .i64 (dcw + kw), .int .i64 (dcf + kf)] 52 (0, 0)))
      clear hcn hB1 dB1 dA HA
      go_upto_region 38 with (fail)
      generalize wB.alloc (.cells #[.int .i64 (dcr + kr), .int .i64 (dcw + kw), .int .i64 (dcf + kf)] 52 (0, 0)) = wC at hB2 HDB ⊢
      generalize wB.heap.size = nb at hB2 ⊢
      have HC := SL.hid hB2
      have y0 : wC.cell? ⟨nb, 0, none⟩ = some (.int .i64 (dcr + kr)) := hB2.cell 0
      have y1 : wC.cell? ⟨nb, 1, none⟩ = some (.int .i64 (dcw + kw)) := hB2.cell 1
      have y2 : wC.cell? ⟨nb, 2, none⟩ = some (.int .i64 (dcf + kf)) := hB2.cell 2
      obtain ⟨z0, z1, z2⟩ := HOcc.out wC _ (hB2.to (by ac_rfl : _ = Oc * (pt nb (.cells #[.int .i64 (dcr + kr), .int .i64 (dcw + kw), .int .i64 (dcf + kf)] 52 (0, 0)) * (stoA s2 j2 d n P J2 * (devA S2 d D2 * (pool S2 * (pt kb (.cells #[.int .i64 ((P : Int) + 4), .int .i64 3, .int .i64 3] 52 (0, 0)) * (Sx * ((stoA s j d n P J * Y) * whole w)))))))))
      have hkb := hB2.to (by ac_rfl : _ = pt kb (.cells #[.int .i64 ((P : Int) + 4), .int .i64 3, .int .i64 3] 52 (0, 0)) * (pt nb (.cells #[.int .i64 (dcr + kr), .int .i64 (dcw + kw), .int .i64 (dcf + kf)] 52 (0, 0)) * (stoA s2 j2 d n P J2 * (devA S2 d D2 * (pool S2 * (Sx * (Oc * ((stoA s j d n P J * Y) * whole w))))))))
      have x0 : wC.cell? ⟨kb, 0, none⟩ = some (.int .i64 ((P : Int) + 4)) := hkb.cell 0
      have x1 : wC.cell? ⟨kb, 1, none⟩ = some (.int .i64 3) := hkb.cell 1
      have x2 : wC.cell? ⟨kb, 2, none⟩ = some (.int .i64 3) := hkb.cell 2
      have sb0 : dcr + kr - dcr = kr := by omega
      have sb1 : dcw + kw - dcw = kw := by omega
      have sb2 : dcf + kf - dcf = kf := by omega
      have hwn := within11_any wC kr kw kf ((P : Int) + 4) 3 3 ⟨by omega, by omega, by omega⟩
      clear hB2 hkb
      go_wp2_with fail
      (with_reducible refine hwn.mono ?_)
      rintro e wD ⟨rfl, hD1, dD1⟩
      have hD2 := hD1.keepW HC.out
      have HDD := SL.hid (HDB.out.trans dD1)
      have hfin : Sat wD (stoA s2 j2 d n P J2 * (devA S2 d D2 * (pool S2 * ((pt nb (.cells #[.int .i64 (dcr + kr), .int .i64 (dcw + kw), .int .i64 (dcf + kf)] 52 (0, 0)) * (pt kb (.cells #[.int .i64 ((P : Int) + 4), .int .i64 3, .int .i64 3] 52 (0, 0)) * (Sx * (Oc * ((stoA s j d n P J * Y)))))) * whole w)))) := hD2.to (by ac_rfl)
      have HF2 := SL.hid hfin
      clear hwn hD1 dD1 hD2 HDB HC y0 y1 y2 z0 z1 z2 x0 x1 x2 sb0 sb1 sb2 hfin
      go_wp2_with fail
      go_roundw
      case rel => exact ⟨i + 1, B + 2, s2, j2, S2, J2, D2, has2, X, _, by omega, by go_num, rfl, by have := HB.out; omega, hL2'.out, (HLst.out.under (pt nb (.cells #[.int .i64 (dcr + kr), .int .i64 (dcw + kw), .int .i64 (dcf + kf)] 52 (0, 0)) * (pt kb (.cells #[.int .i64 ((P : Int) + 4), .int .i64 3, .int .i64 3] 52 (0, 0)) * (Sx * (Oc * stoA s j d n P J))))).cast (by ac_rfl), says_same HSay.out Hsm.out, HF2.out, HDD.out⟩
      case measure => simp [intOf]; omega
   ·have his := is11_any wr S s j d n P B (superE n P) J D has _ X (Y * whole w) hsat hL.sj (by omega) hLst
    have HL := SL.hid hL; have HSay := SL.hid hSay; have Hsd := SL.hid hside
    clear hsat hL hLst hSay hside
    by_cases hl1 : i < len0
    ·have hl1' : (i : Int) < (len0 : Int) := by omega
     have hl2' : ¬ (i : Int) < 80 := fun h => hlt ⟨hl1, by omega⟩
     clear hlt
     go_wp2_with fail
     (with_reducible refine his.mono ?_)
     rintro e w9 ⟨bb, k, rfl, hb, hk, h9, d9⟩
     obtain rfl : bb = true := hb.2 HSay.out
     have cs9 := sto_cell h9
     have h9j : Sat w9 (jrA j d J * (pt s (.cells #[ptV j, .int .i64 (n : Int), .int .i64 (P : Int)] 42 (0, 0)) * (devA S d ({ D with cr := addN D.cr k } : Dev) * (pool S * (Y * whole w))))) := h9.to (by unfold stoA; ac_rfl)
     have hbr := broken_any w9 j d J _ h9j
     rw [HL.out.sj.jt.inv.br] at hbr
     have hrm := room_any w9 j d J _ h9j HL.out.sj.jt.inv.ok
     have hroom := HL.out.room Hg.out
     generalize (J.P : Int) - J.us - J.fr = rr at hrm hroom
     have H9 := SL.hid h9; have HD9 := SL.hid (Hsd.out.trans d9)
     clear his h9 d9 hb h9j
     go_wp2_with fail
     (with_reducible refine hbr.mono ?_)
     rintro e w10 ⟨rfl, rfl⟩
     go_wp2_with fail
     (with_reducible refine hrm.mono ?_)
     rintro e w11 ⟨rfl, h11, d11⟩
     have hfin : Sat w11 (whole w) := ((h11.keepW H9.out).to (by ac_rfl : _ = (stoA s j d n P J * (devA S d ({ D with cr := addN D.cr k } : Dev) * (pool S * Y))) * whole w)).right
     have Hfin := SL.hid hfin; have HDf := SL.hid (HD9.out.trans d11)
     clear hrm hbr h11 d11 hfin H9 HD9 cs9
     go_wp2_with fail
     go_ret
     exact ⟨rfl, Hfin.out, HDf.out⟩
    ·have hl1' : ¬ (i : Int) < (len0 : Int) := by omega
     clear hlt
     go_wp2_with fail
     (with_reducible refine his.mono ?_)
     rintro e w9 ⟨bb, k, rfl, hb, hk, h9, d9⟩
     obtain rfl : bb = true := hb.2 HSay.out
     have cs9 := sto_cell h9
     have h9j : Sat w9 (jrA j d J * (pt s (.cells #[ptV j, .int .i64 (n : Int), .int .i64 (P : Int)] 42 (0, 0)) * (devA S d ({ D with cr := addN D.cr k } : Dev) * (pool S * (Y * whole w))))) := h9.to (by unfold stoA; ac_rfl)
     have hbr := broken_any w9 j d J _ h9j
     rw [HL.out.sj.jt.inv.br] at hbr
     have hrm := room_any w9 j d J _ h9j HL.out.sj.jt.inv.ok
     have hroom := HL.out.room Hg.out
     generalize (J.P : Int) - J.us - J.fr = rr at hrm hroom
     have H9 := SL.hid h9; have HD9 := SL.hid (Hsd.out.trans d9)
     clear his h9 d9 hb h9j
     go_wp2_with fail
     (with_reducible refine hbr.mono ?_)
     rintro e w10 ⟨rfl, rfl⟩
     go_wp2_with fail
     (with_reducible refine hrm.mono ?_)
     rintro e w11 ⟨rfl, h11, d11⟩
     have hfin : Sat w11 (whole w) := ((h11.keepW H9.out).to (by ac_rfl : _ = (stoA s j d n P J * (devA S d ({ D with cr := addN D.cr k } : Dev) * (pool S * Y))) * whole w)).right
     have Hfin := SL.hid hfin; have HDf := SL.hid (HD9.out.trans d11)
     clear hrm hbr h11 d11 hfin H9 HD9 cs9
     go_wp2_with fail
     go_ret
     exact ⟨rfl, Hfin.out, HDf.out⟩
end Go.Proofs.YtdafdidmbeecfaaGreatDoor.Su
end

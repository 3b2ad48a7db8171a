/- Steps towards the statement StoreK. -/
import Derived.Test.YtdafdidmbeecfaaGreatDoorStoreKP45
import Derived.Deep.DeepCutAuto
import Derived.Deep.CutBlock
import Derived.Deep.CutRange
section
namespace Go.Proofs.YtdafdidmbeecfaaGreatDoor.Su
set_option linter.unusedVariables false
set_option linter.unusedSimpArgs false
open Go.RowKit Go.SL Go.Proofs.YtdafdidmbeecfaaGreatDoor Go.Proofs.YtdafdidmbeecfaaGreatDoor.Ba
def MtsRel (d n P m : Nat) (w : World) (uh : Value) (X : List Int) (us ui : Value) (wr : World) : Prop :=
 ∃ (i B s j : Nat) (S : Hp) (J : Jr) (D : Dev) (has : Has) (Y : Assn), i ≤ m ∧ ui = .int .i64 (i : Int) ∧ us = ptV s ∧ B ≤ 2 * i + 31 ∧ LawS n P B J D has ∧ Lst (Y * whole w) uh n X ∧ SaysK has X n ∧ Sat wr (stoA s j d n P J * (devA S d D * (pool S * (Y * whole w)))) ∧ Side w wr
set_option maxRecDepth 100000 in
set_option maxHeartbeats 40000000 in
theorem mounts_any (w : World) (hh : Half w) (blocks : Int) (a0 : Option Addr) (len0 cap0 : Nat) (X0 : Nat → StV) (times : Int) (hX : IsSts w a0 len0 cap0 X0) :
  Calls Tryz.prog 5 #[.int .i64 blocks, .slice a0 len0 cap0, .int .i64 times] w (ShownQ w) := by
 have hF : ∀ w' X, Sat w' (X * whole w) → Half w' := fun w' X h => hh.old h
 have HF := SL.hid hF
 have hsh := shown11_any w hh
 have ha := and16 blocks
 obtain ⟨n, hn, hn4, hn20⟩ : ∃ n : Nat, (n : Int) = 4 + blocks % 65536 % 17 ∧ 4 ≤ n ∧ n ≤ 20 := ⟨(4 + blocks % 65536 % 17).toNat, by omega, by omega, by omega⟩
 have hs0 : 0 ≤ blocks % 65536 := by omega
 have hs1 : blocks % 65536 ≤ 65535 := by omega
 have Hn := SL.hid hn
 have hlen0 := hX.len_le
 have hlen0' : (len0 : Int) ≤ 9223372036854775807 := by omega
 have HX := SL.hid hX
 have hg := geo_least hn4 hn20
 have hle : ∀ w, Calls Tryz.prog 13 #[.int .i64 (n : Int)] w fun e w' => e = .returned (.int .i64 (((5 * n + 241) / 2 : Nat) : Int)) ∧ w = w' := fun w => by rw [← leastI_nat hn4 (by omega)]; exact least_any w n
 have hP200 : (5 * n + 241) / 2 ≤ 200 := by omega
 generalize (5 * n + 241) / 2 = P at hg hle hP200
 have Hg := SL.hid hg
 have hn4' : (4 : Int) ≤ (n : Int) := by omega
 have hn20' : (n : Int) ≤ 20 := by omega
 have hPi : (P : Int) ≤ 200 := by omega
 have hnew : ∀ w, Calls Tryz.prog 10 #[.int .i64 ((P : Int) + 1)] w _ := fun w => new_any (P + 1) (by omega) (by omega) w
 generalize blocks % 65536 = t at *
 clear hn hh hF hX hg hlen0
 have hta := and16 times
 obtain ⟨T, hT, hT20⟩ : ∃ T : Nat, (T : Int) = times % 65536 % 21 ∧ T ≤ 20 := ⟨(times % 65536 % 21).toNat, by omega, by omega⟩
 have ht0 : 0 ≤ times % 65536 := by omega
 have ht1 : times % 65536 ≤ 65535 := by omega
 have HT := SL.hid hT
 have hT20' : (T : Int) ≤ 20 := by omega
 generalize times % 65536 = tt at *
 clear hT
 go_enter Tryz.func5, Tryz.ntmps5
 go_wp2_with fail
 (with_reducible refine hsh.mono ?_)
 rintro e w1 ⟨rfl, h1, d1⟩
 clear hsh
 go_wp2_with fail
 rw [← Hn.out, ← HT.out]
 (with_reducible refine (hle _).mono ?_)
 rintro e w2 ⟨rfl, rfl⟩
 go_wp2_with fail
 (with_reducible refine (hnew _).mono ?_)
 rintro e w2 ⟨d, rfl, h2, d2⟩
 have H2 : Sat w2 (devA NoB d (Dev.fresh (P + 1)) * (pool NoB * whole w)) := (((h2 NoB).under h1).poolEmp).to (by ac_rfl)
 have hfm := formatS_any w2 d n P (whole w) H2 Hg.out HF.out
 have D2 := d1.trans d2
 clear h1 h2 d1 d2 H2 hnew
 go_wp2_with fail
 (with_reducible refine hfm.mono ?_)
 rintro e w3 ⟨s, j, S3, D3, rfl, h3, d3, hL3, hw3⟩
 obtain ⟨F0, hF0⟩ : ∃ l, l = fill1 n 0 := ⟨_, rfl⟩
 have hmk : ∀ w, (Instr.makeSlice 45 (.int .i64 (n : Int)) (.int .i64 (n : Int))).run Tryz.prog w = .ok (.slice (some ⟨w.heap.size, 0, none⟩) n n) (w.alloc (.cells (ints F0) 3 (0, 0))) := by
  rw [hF0]; exact make_ints n (by omega)
 have HF0 := SL.hid hF0
 have h4 := h3.alloc (.cells (ints F0) 3 (0, 0))
 have D4 := (D2.trans d3).alloc (.cells (ints F0) 3 (0, 0))
 have HL3 := SL.hid hL3; have Hw3 := SL.hid hw3
 clear hF0 h3 d3 D2 hfm hL3 hw3
 go_upto_block 0 with (fail)
 generalize w3.alloc (.cells (ints F0) 3 (0, 0)) = w4 at h4 D4 ⊢
 generalize w3.heap.size = hb at h4 ⊢
 obtain ⟨Z2, hZ2⟩ : ∃ X, X = stoA s j d n P (J0 P n) * (devA S3 d D3 * (pool S3 * whole w)) := ⟨_, rfl⟩
 rw [← hZ2] at h4
 have HZ2 := SL.hid hZ2; have H4 := SL.hid h4; have HD4 := SL.hid D4
 clear hZ2 hmk h4 D4
 go_cut [] from 58 to 65 (fun wx => Sat wx (pt hb (.cells (ints (List.replicate n (-1))) 3 (0, 0)) * Z2) ∧ Side w wx)
 case first =>
  go_wp2_with fail
  go_loopw [13] (fun u wr => Fill1Rel n hb Z2 w u wr) (fun u _ => n - (intOf u).toNat)
  case atStart => exact ⟨0, Nat.zero_le _, rfl, by rw [← HF0.out]; exact H4.out, HD4.out⟩
  case round =>
   clear H4 HD4
   obtain ⟨k, hk, rfl, hsat, hside⟩ := hrel
   by_cases hlt : k < n
   ·have hlt' : (k : Int) < (n : Int) := by omega
    have ck : wr.cell? ⟨hb, k, none⟩ = some (.int .i64 ((fill1 n k).getD k 0)) := (hsat.cell k).trans (get_ints_lt (by rw [fill1_len hk]; exact hlt))
    have fk := hsat.frozen k
    have h2 := hsat.setCell k (.int .i64 (-1))
    rw [set_ints, fill1_set hlt] at h2
    have hset := SL.hid h2
    have Hside := SL.hid hside
    generalize (fill1 n k).getD k 0 = uo at ck
    clear hsat hside h2
    go_wp2
    go_roundw
    case rel => exact ⟨k + 1, by omega, by go_num, hset.out, Hside.out.setCell _ _⟩
    case measure => simp [intOf]; omega
   ·obtain rfl : k = n := by omega
    have e : fill1 k k = List.replicate k (-1) := by simp [fill1]
    rw [e] at hsat
    have Hs := SL.hid hsat; have Hd := SL.hid hside
    clear hsat hside e
    go_wp2_with fail
    go_meet
    exact ⟨Hs.out, Hd.out⟩
 case rest =>
  clear H4 HD4 HF0
  obtain ⟨h5, D5⟩ := hcut
  have H5 : Sat wc (stoA s j d n P (J0 P n) * (devA S3 d D3 * (pool S3 * (pt hb (.cells (ints (List.replicate n (-1))) 3 (0, 0)) * whole w)))) := h5.to (by rw [HZ2.out]; ac_rfl)
  have H5h := SL.hid H5; have D5h := SL.hid D5
  clear h5 H5 D5 HZ2
  go_upto_block 2 with (fail)
  go_cut [12] from 66 to 95 (fun uh wx => BatX d n P s j 31 w uh wx)
  case first =>
   go_wp2_with fail
   go_loopw [12, 14] (fun uh ui wr => BatXRel d n P s j 30 w uh ui wr) (fun _ u _ => 30 - (intOf u).toNat)
   case atStart => exact ⟨0, Nat.zero_le _, rfl, S3, J0 P n, D3, noH, _, _, HL3.out, lst_ints (by omega), says_no n, H5h.out, D5h.out⟩
   case round =>
    clear H5h D5h HL3 Hw3
    obtain ⟨i, hi, rfl, S, J, D, has, X, Y, hL, hLst, hSay, hsat, hside⟩ := hrel
    by_cases hlt : i < len0 ∧ i < 30
    ·obtain ⟨hlt, h80⟩ := hlt
     have hlt' : (i : Int) < (len0 : Int) := by omega
     have h80' : (i : Int) < 30 := by omega
     obtain ⟨b, off, rfl, hSt, hlc, hcapX⟩ := HX.out.cell hlt
     obtain ⟨x, hx⟩ : ∃ x, x = X0 i := ⟨_, rfl⟩
     rw [← hx] at hSt
     have hW0 : Sat wr ((stoA s j d n P J * (devA S d D * (pool S * Y))) * whole w) := hsat.to (by ac_rfl)
     obtain ⟨c0, c1, c2, c3, c4⟩ := hSt.old hW0
     have hwr := writes11_any wr n (by omega) (by omega) x.kd x.dt x.nn x.ia x.il x.ic x.iz (ints_old hSt.ids hW0) (.slice x.ka x.kl x.kc)
     unfold stepV at hwr
     have HL := SL.hid hL; have Hsat := SL.hid hsat; have Hsd := SL.hid hside
     have HLst := SL.hid hLst; have HSay := SL.hid hSay
     clear hx hSt hL hLst hSay hW0 hsat hside hlt h80
     obtain ⟨xkd, xdt, xnn, xia, xil, xic, xiz, xka, xkl, xkc, xkz⟩ := x
     dsimp only at *
     go_wp2_with fail
     (with_reducible refine hwr.mono ?_)
     rintro e w9 ⟨v, L, rfl, hW, h9, d9⟩
     obtain ⟨va, vc, rfl⟩ := hW.sh
     obtain ⟨m, hm⟩ : ∃ m, m = L.length := ⟨_, rfl⟩
     have hm24 : m ≤ 24 := by rw [hm]; exact hW.l24
     have hm24' : (m : Int) ≤ 24 := by omega
     have Hm := SL.hid hm; have HW := SL.hid hW
     have h9' := h9.under Hsat.out
     have D9 := Hsd.out.trans d9
     rw [← hm]
     clear hwr h9 d9 hm hW c0 c1 c2 c3 c4 Hsat Hsd
     by_cases h0 : m = 0
     ·have hfin : Sat w9 (stoA s j d n P J * (devA S d D * (pool S * ((wrsA (.slice va L.length vc) L * Y) * whole w)))) := h9'.to (by ac_rfl)
      have Hfin := SL.hid hfin; have HD9 := SL.hid D9
      have h0' : ¬ 0 < (m : Int) := by omega
      clear h9' D9 hfin h0
      go_wp2_with fail
      go_roundw
      case rel => exact ⟨i + 1, by omega, by go_num, S, J, D, has, X, _, HL.out.more (by omega), (HLst.out.under (wrsA (.slice va L.length vc) L)).cast (by ac_rfl), HSay.out, Hfin.out, HD9.out⟩
      case measure => simp [intOf]; omega
     ·have h0' : 0 < (m : Int) := by omega
      have H9 : Sat w9 (stoA s j d n P J * (devA S d D * (pool S * (wrsA (.slice va L.length vc) L * (Y * whole w))))) := h9'.to (by ac_rfl)
      have cs := sto_cell H9
      have hcm := commitS_any w9 S s j d n P (i + 1) J D has _ _ L H9 HL.out Hg.out (by omega) HW.out (by rw [← Hm.out]; omega)
      rw [← Hm.out] at hcm
      have HD9 := SL.hid D9
      clear h9' H9 D9
      go_wp2_with fail
      (with_reducible refine hcm.mono ?_)
      rintro e w10 ⟨S2, J2, D2, hE2, rfl, h10, d10, hL2, k1, k2, k3, k4, k5, k6, k7, k8⟩
      have D10 := HD9.out.trans d10
      have hrd := HLst.out.rds (h10.to (by ac_rfl : _ = (stoA s j d n P J2 * (devA S2 d D2 * (pool S2 * wrsA (.slice va m vc) L))) * (Y * whole w)))
      have hrw := rdWs_of HW.out.b480 (h10.to (by ac_rfl : _ = (stoA s j d n P J2 * (devA S2 d D2 * pool S2)) * (wrsA (.slice va m vc) L * (Y * whole w))))
      have hwi := with11_any w10 n (by omega) (by omega) _ X HLst.out.len hrd _ L HW.out (by rw [← Hm.out]; exact hrw)
      rw [← Hm.out] at hwi
      have hL2' := SL.hid hL2
      have H10 := SL.hid h10; have HD10 := SL.hid D10
      clear hcm h10 d10 D10 hrd hrw hL2 k1 k2 k3 k4 k5 k6 k7 k8 cs HD9 h0'
      go_wp2_with fail
      (with_reducible refine hwi.mono ?_)
      rintro e w11 ⟨v2, rfl, h11, d11⟩
      have hlen2 : (withL X L.bl).length = n := by unfold withL; rw [withN_len]; exact HLst.out.len
      have h11' := h11.under H10.out
      have hls : Lst (sl 3 1 v2 (withL X L.bl).length (SL.i64v (withL X L.bl)) * ((wrsA (.slice va m vc) L * Y) * whole w)) v2 n (withL X L.bl) := lst_of h11' hlen2 (by omega) (with_val HLst.out.len HLst.out.val _)
      have hsy := says_with HLst.out.len HSay.out HW.out
      have HLs := SL.hid hls; have HSy := SL.hid hsy
      generalize hX2 : withL X L.bl = X2 at *
      have hfin : Sat w11 (stoA s j d n P J2 * (devA S2 d D2 * (pool S2 * ((sl 3 1 v2 X2.length (SL.i64v X2) * (wrsA (.slice va m vc) L * Y)) * whole w)))) := h11'.to (by ac_rfl)
      have Hfin := SL.hid hfin; have HDf := SL.hid (HD10.out.trans d11)
      clear hwi h11 d11 h11' hls hsy hlen2 HD10 H10 hfin hX2
      go_wp2_with fail
      go_roundw
      case rel => exact ⟨i + 1, by omega, by go_num, S2, J2, D2, _, X2, _, hL2'.out, HLs.out.cast (by ac_rfl), HSy.out, Hfin.out, HDf.out⟩
      case measure => simp [intOf]; omega
    ·have HL := SL.hid hL; have Hsat := SL.hid hsat; have Hsd := SL.hid hside
     have HLst := SL.hid hLst; have HSay := SL.hid hSay
     clear hL hLst hSay hsat hside
     by_cases hl1 : i < len0
     ·have hl1' : (i : Int) < (len0 : Int) := by omega
      have hl2' : ¬ (i : Int) < 30 := fun h => hlt ⟨hl1, by omega⟩
      clear hlt
      go_wp2_with fail
      go_meet
      exact ⟨S, J, D, has, X, Y, HL.out.more (by omega), HLst.out, HSay.out, Hsat.out, Hsd.out⟩
     ·have hl1' : ¬ (i : Int) < (len0 : Int) := by omega
      clear hlt
      go_wp2_with fail
      go_meet
      exact ⟨S, J, D, has, X, Y, HL.out.more (by omega), HLst.out, HSay.out, Hsat.out, Hsd.out⟩
  case rest =>
   clear H5h D5h HL3 Hw3
   obtain ⟨S, J, D, has, X, Y, hL, hLst, hSay, hsat, hside⟩ := hcut
   have HL0 := SL.hid hL; have HLst := SL.hid hLst; have HSay := SL.hid hSay; have Hsat := SL.hid hsat; have Hsd := SL.hid hside
   clear hL hLst hSay hsat hside
   go_wp2_with fail
   go_loopw [10, 17] (fun us ui wr => MtsRel d n P T w u12 X us ui wr) (fun _ u _ => T - (intOf u).toNat)
   case atStart => exact ⟨0, 31, s, j, S, J, D, has, Y, Nat.zero_le _, rfl, rfl, by omega, HL0.out, HLst.out, HSay.out, Hsat.out, Hsd.out⟩
   case round =>
    clear HL0 HLst HSay Hsat Hsd S J D has Y
    obtain ⟨i, B, s, j, S, J, D, has, Y, hi, rfl, rfl, hB, hL, hLst, hSay, hsat, hside⟩ := hrel
    by_cases hlt : i < T
    ·have hlt' : (i : Int) < (T : Int) := by omega
     obtain ⟨q, hq⟩ : ∃ x, x = J.sq := ⟨_, rfl⟩
     obtain ⟨dcr, hcr⟩ : ∃ x, x = D.cr := ⟨_, rfl⟩
     obtain ⟨dcw, hcw⟩ : ∃ x, x = D.cw := ⟨_, rfl⟩
     obtain ⟨dcf, hcf⟩ : ∃ x, x = D.cf := ⟨_, rfl⟩
     have q0 : 0 ≤ q := by rw [hq]; exact hL.sj.jt.inv.nums.sq0
     have q1 : q ≤ 1000 := by have := hL.sj.sq; omega
     have r0 : 0 ≤ dcr := by rw [hcr]; exact hL.nb.cr0
     have r1 : dcr ≤ 30000000 := by have := hL.nb.cr1; omega
     have v0 : 0 ≤ dcw := by rw [hcw]; exact hL.nb.cw0
     have v1 : dcw ≤ 30000000 := by have := hL.nb.cw1; omega
     have f0 : 0 ≤ dcf := by rw [hcf]; exact hL.nb.cf0
     have f1 : dcf ≤ 30000000 := by have := hL.nb.cf1; omega
     have hsq := seq_any wr s j d n P J _ hsat hL.sj.jt.inv.ok
     unfold SeqQ at hsq
     rw [← hq] at hsq
     have Hq := SL.hid hq; have Hcr := SL.hid hcr; have Hcw := SL.hid hcw; have Hcf := SL.hid hcf
     have HL := SL.hid hL; have HLst := SL.hid hLst; have HSay := SL.hid hSay; have Hsd := SL.hid hside; have HB := SL.hid hB
     clear hq hcr hcw hcf hL hLst hSay hside hB hsat hlt
     go_wp2_with fail
     (with_reducible refine hsq.mono ?_)
     rintro e w5 ⟨rfl, h5, d5⟩
     have hcn := counts_any w5 S d D _ (h5.to (by ac_rfl : _ = devA S d D * (stoA s j d n P J * (pool S * (Y * whole w)))))
     have HD5 := SL.hid (Hsd.out.trans d5)
     clear hsq d5 Hsd
     go_wp2_with fail
     (with_reducible refine hcn.mono ?_)
     rintro e w6 ⟨rfl, h6, d6⟩
     rw [← Hcr.out, ← Hcw.out, ← Hcf.out]
     have h7 := (h6.keepW h5).alloc (.cells #[.int .i64 dcr, .int .i64 dcw, .int .i64 dcf] 52 (0, 0))
     have D7 := (HD5.out.trans d6).alloc (.cells #[.int .i64 dcr, .int .i64 dcw, .int .i64 dcf] 52 (0, 0))
     clear hcn h5 h6 d6 HD5
     go_upto_region 29 with (fail)
     generalize w6.alloc (.cells #[.int .i64 dcr, .int .i64 dcw, .int .i64 dcf] 52 (0, 0)) = w7 at h7 D7 ⊢
     generalize w6.heap.size = ob at h7 ⊢
     have hmt := mountS_any w7 S d n P B J D has _ (h7.to (by ac_rfl : _ = devA S d D * (pool S * (stoA s j d n P J * (pt ob (.cells #[.int .i64 dcr, .int .i64 dcw, .int .i64 dcf] 52 (0, 0)) * (Y * whole w)))))) HL.out Hg.out (by have := HB.out; omega) (fun w' X hx => HF.out w' (X * (stoA s j d n P J * (pt ob (.cells #[.int .i64 dcr, .int .i64 dcw, .int .i64 dcf] 52 (0, 0)) * Y))) (hx.to (by ac_rfl)))
     have HD7 := SL.hid D7
     clear h7 D7
     go_wp2_with fail
     (with_reducible refine hmt.mono ?_)
     rintro e w8 ⟨s2, j2, S2, J2, D2, has2, hE2, rfl, h8, d8, hsm, hsq2, hdry, hL2, k1, k2, k3, k4, k5⟩
     obtain ⟨kr, hkr⟩ : ∃ k, k = D2.cr - D.cr := ⟨_, rfl⟩
     obtain ⟨kw, hkw⟩ : ∃ k, k = D2.cw - D.cw := ⟨_, rfl⟩
     have m1 : 0 ≤ kr := by omega
     have m2 : kr ≤ (P : Int) + 4 := by omega
     have m3 : 0 ≤ kw := by omega
     have m4 : kw ≤ 3 := by omega
     have ekr : D2.cr = dcr + kr := by rw [Hcr.out]; omega
     have ekw : D2.cw = dcw + kw := by rw [Hcw.out]; omega
     have ekf : D2.cf = dcf + 3 := by rw [Hcf.out]; omega
     have eq2 : J2.sq = q + 1 := by rw [Hq.out]; exact hsq2
     have hL2' := SL.hid hL2; have Hsm := SL.hid hsm
     have HD8 := SL.hid (HD7.out.trans d8)
     have hcn := counts_any w8 S2 d D2 _ (h8.to (by ac_rfl : _ = devA S2 d D2 * (stoA s2 j2 d n P J2 * (pool S2 * (stoA s j d n P J * (pt ob (.cells #[.int .i64 dcr, .int .i64 dcw, .int .i64 dcf] 52 (0, 0)) * (Y * whole w)))))))
     have H8 := SL.hid h8
     clear hmt h8 d8 HD7 hsm hsq2 hdry hL2 k1 k2 k3 k4 k5 hkr hkw
     go_wp2_with fail
     (with_reducible refine hcn.mono ?_)
     rintro e w9 ⟨rfl, h9, d9⟩
     rw [ekr, ekw, ekf]
     have h10 := (h9.keepW H8.out).alloc (.cells #[.int .i64 (dcr + kr), .int .i64 (dcw + kw), .int .i64 (dcf + 3)] 52 (0, 0))
     have D10 := (HD8.out.trans d9).alloc (.cells #[.int .i64 (dcr + kr), .int .i64 (dcw + kw), .int .i64 (dcf + 3)] 52 (0, 0))
     clear hcn h9 d9 H8 HD8 ekr ekw ekf
     go_upto_region 31 with (fail)
     generalize w9.alloc (.cells #[.int .i64 (dcr + kr), .int .i64 (dcw + kw), .int .i64 (dcf + 3)] 52 (0, 0)) = w10 at h10 D10 ⊢
     generalize w9.heap.size = nb at h10 ⊢
     obtain ⟨BIG, hBIG⟩ : ∃ A, A = pt nb (.cells #[.int .i64 (dcr + kr), .int .i64 (dcw + kw), .int .i64 (dcf + 3)] 52 (0, 0)) * (pt ob (.cells #[.int .i64 dcr, .int .i64 dcw, .int .i64 dcf] 52 (0, 0)) * (stoA s2 j2 d n P J2 * (devA S2 d D2 * (pool S2 * ((stoA s j d n P J * Y) * whole w))))) := ⟨_, rfl⟩
     have hb0 : Sat w10 BIG := h10.to (by rw [hBIG]; ac_rfl)
     have HBIG := SL.hid hBIG
     clear hBIG h10
     go_cut [152] from 112 to 152 (fun u152 wx => u152 = .bool false ∧ Sat wx BIG ∧ Side w wx)
     case first =>
      have hS : ∀ w', Sat w' BIG → Side w w' → (fun w' => (w'.cell? ⟨nb, 0, none⟩ = some (.int .i64 (dcr + kr)) ∧ w'.cell? ⟨nb, 1, none⟩ = some (.int .i64 (dcw + kw)) ∧ w'.cell? ⟨nb, 2, none⟩ = some (.int .i64 (dcf + 3)) ∧ w'.cell? ⟨ob, 0, none⟩ = some (.int .i64 dcr) ∧ w'.cell? ⟨ob, 1, none⟩ = some (.int .i64 dcw) ∧ w'.cell? ⟨ob, 2, none⟩ = some (.int .i64 dcf)) ∧ Sat w' BIG ∧ Side w w') w' := fun w' h hd => by
       have h2 := h
       rw [HBIG.out] at h2
       exact ⟨⟨h2.cell 0, h2.cell 1, h2.cell 2, h2.front2.cell 0, h2.front2.cell 1, h2.front2.cell 2⟩, h, hd⟩
      have hse : ∀ w', Sat w' BIG → Side w w' → Calls Tryz.prog 16 #[ptV s2] w' fun e w'' => e = .returned (.int .u64 (q + 1)) ∧ Sat w'' BIG ∧ Side w w'' := fun w' h hd => by
       have h2 := h
       rw [HBIG.out] at h2
       have := seq_any w' s2 j2 d n P J2 _ (h2.to (by ac_rfl : _ = stoA s2 j2 d n P J2 * (pt nb (.cells #[.int .i64 (dcr + kr), .int .i64 (dcw + kw), .int .i64 (dcf + 3)] 52 (0, 0)) * (pt ob (.cells #[.int .i64 dcr, .int .i64 dcw, .int .i64 dcf] 52 (0, 0)) * (devA S2 d D2 * (pool S2 * ((stoA s j d n P J * Y) * whole w))))))) hL2'.out.sj.jt.inv.ok
       refine this.mono ?_
       rintro e w'' ⟨rfl, a, b⟩
       rw [eq2]
       exact ⟨rfl, a.to (by rw [HBIG.out]; ac_rfl), hd.trans b⟩
      have hbm : ∀ w', Sat w' BIG → Side w w' → Calls Tryz.prog 23 #[.int .i64 (P : Int)] w' fun e w'' => e = .returned (.agg #[.int .i64 ((P : Int) + 4), .int .i64 3, .int .i64 3]) ∧ Sat w'' BIG ∧ Side w w'' := fun w' h hd => by
       refine (bmount_any w' P (by omega)).mono ?_
       rintro e w'' ⟨rfl, a, b⟩
       exact ⟨rfl, a.keepW h, hd.trans b⟩
      have HS := SL.hid hS; have Hse := SL.hid hse; have Hbm := SL.hid hbm
      have hfd : ∀ (a b c : Value) (w : World), (Instr.field 52 (.agg #[a, b, c]) 0).run Tryz.prog w = .ok a w := fun a b c w => by kernel_rfl
      have hw1 : IntKind.u64.wrap (q + 1) = q + 1 := by rw [IntKind.wrap_u64]; omega
      have hw2 : IntKind.i64.wrap (dcf + 3) = dcf + 3 := by rw [IntKind.wrap_i64]; omega
      have hw3 : dcr + kr - dcr = kr := by omega
      have hw4 : IntKind.i64.wrap kr = kr := by rw [IntKind.wrap_i64]; omega
      have hw5 : dcw + kw - dcw = kw := by omega
      have hw6 : IntKind.i64.wrap kw = kw := by rw [IntKind.wrap_i64]; omega
      have hw7 : decide ((P : Int) + 4 < kr) = false := decide_eq_false (by omega)
      have hw8 : decide (3 < kw) = false := decide_eq_false (by omega)
      have hb0 := hb0.drew
      have db0 := D10.drew
      clear hS hse hbm m1 m2 m3 m4 r0 r1 v0 v1 f0 f1 q0 q1
      refine wp_region_held_drew (S := (fun w' => (w'.cell? ⟨nb, 0, none⟩ = some (.int .i64 (dcr + kr)) ∧ w'.cell? ⟨nb, 1, none⟩ = some (.int .i64 (dcw + kw)) ∧ w'.cell? ⟨nb, 2, none⟩ = some (.int .i64 (dcf + 3)) ∧ w'.cell? ⟨ob, 0, none⟩ = some (.int .i64 dcr) ∧ w'.cell? ⟨ob, 1, none⟩ = some (.int .i64 dcw) ∧ w'.cell? ⟨ob, 2, none⟩ = some (.int .i64 dcf)) ∧ Sat w' BIG ∧ Side w w')) (by kernel_rfl) ?_ (fun hHeld => ?_)
      ·first | exact HS.out _ hb2 db2 | exact HS.out _ hb1 db1 | exact HS.out _ hb0 db0
      refine wpAnyH_take (i := 0) (v := ?_) rfl (by kernel_rfl) (by kernel_rfl) (by kernel_rfl) (fun _ _ _ h => h) (Or.inl ⟨by kernel_rfl, ?_⟩) (by assumption) ?_
      rotate_left
      ·intro w hSw; (try dsimp only at hSw); go_simp; try with_reducible rfl
      try simp only [List.getElem_toArray, List.getElem_cons_succ, List.getElem_cons_zero, Act.put, List.setIfInBounds_toArray, List.set_cons_zero, List.set_cons_succ]
      refine wpAnyH_take (i := 1) (v := ?_) rfl (by kernel_rfl) (by kernel_rfl) (by kernel_rfl) (fun _ _ _ h => h) (Or.inl ⟨by kernel_rfl, ?_⟩) (by assumption) ?_
      rotate_left
      ·intro w hSw; (try dsimp only at hSw); go_simp; try with_reducible rfl
      try simp only [List.getElem_toArray, List.getElem_cons_succ, List.getElem_cons_zero, Act.put, List.setIfInBounds_toArray, List.set_cons_zero, List.set_cons_succ]
      refine wpAnyH_take (i := 2) (v := ?_) rfl (by kernel_rfl) (by kernel_rfl) (by kernel_rfl) (fun _ _ _ h => h) (Or.inl ⟨by kernel_rfl, ?_⟩) (by assumption) ?_
      rotate_left
      ·intro w hSw; (try dsimp only at hSw); go_simp; try with_reducible rfl
      try simp only [List.getElem_toArray, List.getElem_cons_succ, List.getElem_cons_zero, Act.put, List.setIfInBounds_toArray, List.set_cons_zero, List.set_cons_succ]
      refine wpAnyH_take (i := 3) (v := ?_) rfl (by kernel_rfl) (by kernel_rfl) (by kernel_rfl) (fun _ _ _ h => h) (Or.inl ⟨by kernel_rfl, ?_⟩) (by assumption) ?_
      rotate_left
      ·intro w hSw; (try dsimp only at hSw); go_simp; try with_reducible rfl
      try simp only [List.getElem_toArray, List.getElem_cons_succ, List.getElem_cons_zero, Act.put, List.setIfInBounds_toArray, List.set_cons_zero, List.set_cons_succ]
      refine wpAnyH_take (i := 4) (v := ?_) rfl (by kernel_rfl) (by kernel_rfl) (by kernel_rfl) (fun _ _ _ h => h) (Or.inl ⟨by kernel_rfl, ?_⟩) (by assumption) ?_
      rotate_left
      ·intro w hSw; (try dsimp only at hSw); go_simp; try with_reducible rfl
      try simp only [List.getElem_toArray, List.getElem_cons_succ, List.getElem_cons_zero, Act.put, List.setIfInBounds_toArray, List.set_cons_zero, List.set_cons_succ]
      refine wpAnyH_take (i := 5) (v := ?_) rfl (by kernel_rfl) (by kernel_rfl) (by kernel_rfl) (fun _ _ _ h => h) (Or.inl ⟨by kernel_rfl, ?_⟩) (by assumption) ?_
      rotate_left
      ·intro w hSw; (try dsimp only at hSw); go_simp; try with_reducible rfl
      try simp only [List.getElem_toArray, List.getElem_cons_succ, List.getElem_cons_zero, Act.put, List.setIfInBounds_toArray, List.set_cons_zero, List.set_cons_succ]
      refine wpAnyH_take (i := 6) (v := ?_) rfl (by kernel_rfl) (by kernel_rfl) (by kernel_rfl) (fun _ _ _ h => h) (Or.inl ⟨by kernel_rfl, ?_⟩) (by assumption) ?_
      rotate_left
      ·intro w hSw; (try dsimp only at hSw); go_simp; try with_reducible rfl
      try simp only [List.getElem_toArray, List.getElem_cons_succ, List.getElem_cons_zero, Act.put, List.setIfInBounds_toArray, List.set_cons_zero, List.set_cons_succ]
      refine wpAnyH_take (i := 7) (v := ?_) rfl (by kernel_rfl) (by kernel_rfl) (by kernel_rfl) (fun _ _ _ h => h) (Or.inl ⟨by kernel_rfl, ?_⟩) (by assumption) ?_
      rotate_left
      ·intro w hSw; (try dsimp only at hSw); go_simp; try with_reducible rfl
      try simp only [List.getElem_toArray, List.getElem_cons_succ, List.getElem_cons_zero, Act.put, List.setIfInBounds_toArray, List.set_cons_zero, List.set_cons_succ]
      refine wpAnyH_take (i := 9) (v := ?_) rfl (by kernel_rfl) (by kernel_rfl) (by kernel_rfl) (fun _ _ _ h => h) (Or.inl ⟨by kernel_rfl, ?_⟩) (by assumption) ?_
      rotate_left
      ·intro w hSw; (try dsimp only at hSw); go_simp; try with_reducible rfl
      try simp only [List.getElem_toArray, List.getElem_cons_succ, List.getElem_cons_zero, Act.put, List.setIfInBounds_toArray, List.set_cons_zero, List.set_cons_succ]
      refine wpAnyH_take (i := 10) (v := ?_) rfl (by kernel_rfl) (by kernel_rfl) (by kernel_rfl) (fun _ _ _ h => h) (Or.inl ⟨by kernel_rfl, ?_⟩) (by assumption) ?_
      rotate_left
      ·intro w hSw; (try dsimp only at hSw); go_simp; try with_reducible rfl
      try simp only [List.getElem_toArray, List.getElem_cons_succ, List.getElem_cons_zero, Act.put, List.setIfInBounds_toArray, List.set_cons_zero, List.set_cons_succ]
      refine wpAnyH_ready (rs := [8]) (by kernel_rfl) (by simp) ?_
      refine AllReadyH.cons rfl (fun K hK => ?_) AllReadyH.nil
      go_simp
      go_wp2_with (go_at_call 16; go_loud ((with_reducible refine (Hse.out _ hb0 db0).mono ?_); rintro e wx1 ⟨rfl, hb1, db1⟩))
      refine hK.out _ _ ?_ (fun hHeld => ?_)
      ·first | exact HS.out _ hb2 db2 | exact HS.out _ hb1 db1 | exact HS.out _ hb0 db0
      clear hK K
      refine wpAnyH_take (i := 11) (v := ?_) rfl (by kernel_rfl) (by kernel_rfl) (by kernel_rfl) (fun _ _ _ h => h) (Or.inl ⟨by kernel_rfl, ?_⟩) (by assumption) ?_
      rotate_left
      ·intro w hSw; (try dsimp only at hSw); go_simp; try with_reducible rfl
      try simp only [List.getElem_toArray, List.getElem_cons_succ, List.getElem_cons_zero, Act.put, List.setIfInBounds_toArray, List.set_cons_zero, List.set_cons_succ]
      refine wpAnyH_take (i := 12) (v := ?_) rfl (by kernel_rfl) (by kernel_rfl) (by kernel_rfl) (fun _ _ _ h => h) (Or.inl ⟨by kernel_rfl, ?_⟩) (by assumption) ?_
      rotate_left
      ·intro w hSw; (try dsimp only at hSw); go_simp; try with_reducible rfl
      try simp only [List.getElem_toArray, List.getElem_cons_succ, List.getElem_cons_zero, Act.put, List.setIfInBounds_toArray, List.set_cons_zero, List.set_cons_succ]
      refine wpAnyH_take (i := 13) (v := ?_) rfl (by kernel_rfl) (by kernel_rfl) (by kernel_rfl) (fun _ _ _ h => h) (Or.inl ⟨by kernel_rfl, ?_⟩) (by assumption) ?_
      rotate_left
      ·intro w hSw; (try dsimp only at hSw); go_simp; try with_reducible rfl
      try simp only [List.getElem_toArray, List.getElem_cons_succ, List.getElem_cons_zero, Act.put, List.setIfInBounds_toArray, List.set_cons_zero, List.set_cons_succ]
      refine wpAnyH_take (i := 14) (v := ?_) rfl (by kernel_rfl) (by kernel_rfl) (by kernel_rfl) (fun _ _ _ h => h) (Or.inl ⟨by kernel_rfl, ?_⟩) (by assumption) ?_
      rotate_left
      ·intro w hSw; (try dsimp only at hSw); go_simp; try with_reducible rfl
      try simp only [List.getElem_toArray, List.getElem_cons_succ, List.getElem_cons_zero, Act.put, List.setIfInBounds_toArray, List.set_cons_zero, List.set_cons_succ]
      refine wpAnyH_take (i := 15) (v := ?_) rfl (by kernel_rfl) (by kernel_rfl) (by kernel_rfl) (fun _ _ _ h => h) (Or.inl ⟨by kernel_rfl, ?_⟩) (by assumption) ?_
      rotate_left
      ·intro w hSw; (try dsimp only at hSw); go_simp; try with_reducible rfl
      try simp only [List.getElem_toArray, List.getElem_cons_succ, List.getElem_cons_zero, Act.put, List.setIfInBounds_toArray, List.set_cons_zero, List.set_cons_succ]
      refine wpAnyH_take (i := 16) (v := ?_) rfl (by kernel_rfl) (by kernel_rfl) (by kernel_rfl) (fun _ _ _ h => h) (Or.inl ⟨by kernel_rfl, ?_⟩) (by assumption) ?_
      rotate_left
      ·intro w hSw; (try dsimp only at hSw); go_simp; try with_reducible rfl
      try simp only [List.getElem_toArray, List.getElem_cons_succ, List.getElem_cons_zero, Act.put, List.setIfInBounds_toArray, List.set_cons_zero, List.set_cons_succ]
      refine wpAnyH_take (i := 17) (v := ?_) rfl (by kernel_rfl) (by kernel_rfl) (by kernel_rfl) (fun _ _ _ h => h) (Or.inl ⟨by kernel_rfl, ?_⟩) (by assumption) ?_
      rotate_left
      ·intro w hSw; (try dsimp only at hSw); go_simp; try with_reducible rfl
      try simp only [List.getElem_toArray, List.getElem_cons_succ, List.getElem_cons_zero, Act.put, List.setIfInBounds_toArray, List.set_cons_zero, List.set_cons_succ]
      refine wpAnyH_take (i := 18) (v := ?_) rfl (by kernel_rfl) (by kernel_rfl) (by kernel_rfl) (fun _ _ _ h => h) (Or.inl ⟨by kernel_rfl, ?_⟩) (by assumption) ?_
      rotate_left
      ·intro w hSw; (try dsimp only at hSw); go_simp; try with_reducible rfl
      try simp only [List.getElem_toArray, List.getElem_cons_succ, List.getElem_cons_zero, Act.put, List.setIfInBounds_toArray, List.set_cons_zero, List.set_cons_succ]
      refine wpAnyH_take (i := 19) (v := ?_) rfl (by kernel_rfl) (by kernel_rfl) (by kernel_rfl) (fun _ _ _ h => h) (Or.inl ⟨by kernel_rfl, ?_⟩) (by assumption) ?_
      rotate_left
      ·intro w hSw; (try dsimp only at hSw); go_simp; try with_reducible rfl
      try simp only [List.getElem_toArray, List.getElem_cons_succ, List.getElem_cons_zero, Act.put, List.setIfInBounds_toArray, List.set_cons_zero, List.set_cons_succ]
      refine wpAnyH_take (i := 20) (v := ?_) rfl (by kernel_rfl) (by kernel_rfl) (by kernel_rfl) (fun _ _ _ h => h) (Or.inl ⟨by kernel_rfl, ?_⟩) (by assumption) ?_
      rotate_left
      ·intro w hSw; (try dsimp only at hSw); go_simp; try with_reducible rfl
      try simp only [List.getElem_toArray, List.getElem_cons_succ, List.getElem_cons_zero, Act.put, List.setIfInBounds_toArray, List.set_cons_zero, List.set_cons_succ]
      refine wpAnyH_take (i := 21) (v := ?_) rfl (by kernel_rfl) (by kernel_rfl) (by kernel_rfl) (fun _ _ _ h => h) (Or.inl ⟨by kernel_rfl, ?_⟩) (by assumption) ?_
      rotate_left
      ·intro w hSw; (try dsimp only at hSw); go_simp; try with_reducible rfl
      try simp only [List.getElem_toArray, List.getElem_cons_succ, List.getElem_cons_zero, Act.put, List.setIfInBounds_toArray, List.set_cons_zero, List.set_cons_succ]
      refine wpAnyH_take (i := 22) (v := ?_) rfl (by kernel_rfl) (by kernel_rfl) (by kernel_rfl) (fun _ _ _ h => h) (Or.inl ⟨by kernel_rfl, ?_⟩) (by assumption) ?_
      rotate_left
      ·intro w hSw; (try dsimp only at hSw); go_simp; try with_reducible rfl
      try simp only [List.getElem_toArray, List.getElem_cons_succ, List.getElem_cons_zero, Act.put, List.setIfInBounds_toArray, List.set_cons_zero, List.set_cons_succ]
      refine wpAnyH_take (i := 23) (v := ?_) rfl (by kernel_rfl) (by kernel_rfl) (by kernel_rfl) (fun _ _ _ h => h) (Or.inl ⟨by kernel_rfl, ?_⟩) (by assumption) ?_
      rotate_left
      ·intro w hSw; (try dsimp only at hSw); go_simp; try with_reducible rfl
      try simp only [List.getElem_toArray, List.getElem_cons_succ, List.getElem_cons_zero, Act.put, List.setIfInBounds_toArray, List.set_cons_zero, List.set_cons_succ]
      refine wpAnyH_take (i := 24) (v := ?_) rfl (by kernel_rfl) (by kernel_rfl) (by kernel_rfl) (fun _ _ _ h => h) (Or.inl ⟨by kernel_rfl, ?_⟩) (by assumption) ?_
      rotate_left
      ·intro w hSw; (try dsimp only at hSw); go_simp; try with_reducible rfl
      try simp only [List.getElem_toArray, List.getElem_cons_succ, List.getElem_cons_zero, Act.put, List.setIfInBounds_toArray, List.set_cons_zero, List.set_cons_succ]
      refine wpAnyH_take (i := 25) (v := ?_) rfl (by kernel_rfl) (by kernel_rfl) (by kernel_rfl) (fun _ _ _ h => h) (Or.inl ⟨by kernel_rfl, ?_⟩) (by assumption) ?_
      rotate_left
      ·intro w hSw; (try dsimp only at hSw); go_simp; try with_reducible rfl
      try simp only [List.getElem_toArray, List.getElem_cons_succ, List.getElem_cons_zero, Act.put, List.setIfInBounds_toArray, List.set_cons_zero, List.set_cons_succ]
      refine wpAnyH_take (i := 26) (v := ?_) rfl (by kernel_rfl) (by kernel_rfl) (by kernel_rfl) (fun _ _ _ h => h) (Or.inl ⟨by kernel_rfl, ?_⟩) (by assumption) ?_
      rotate_left
      ·intro w hSw; (try dsimp only at hSw); go_simp; try with_reducible rfl
      try simp only [List.getElem_toArray, List.getElem_cons_succ, List.getElem_cons_zero, Act.put, List.setIfInBounds_toArray, List.set_cons_zero, List.set_cons_succ]
      refine wpAnyH_take (i := 27) (v := ?_) rfl (by kernel_rfl) (by kernel_rfl) (by kernel_rfl) (fun _ _ _ h => h) (Or.inl ⟨by kernel_rfl, ?_⟩) (by assumption) ?_
      rotate_left
      ·intro w hSw; (try dsimp only at hSw); go_simp; try with_reducible rfl
      try simp only [List.getElem_toArray, List.getElem_cons_succ, List.getElem_cons_zero, Act.put, List.setIfInBounds_toArray, List.set_cons_zero, List.set_cons_succ]
      refine wpAnyH_ready (rs := [28]) (by kernel_rfl) (by simp) ?_
      refine AllReadyH.cons rfl (fun K hK => ?_) AllReadyH.nil
      go_simp
      go_wp2_with (go_at_call 13; go_loud ((with_reducible refine (hle _).mono ?_); rintro e wx2 ⟨rfl, rfl⟩))
      refine hK.out _ _ ?_ (fun hHeld => ?_)
      ·first | exact HS.out _ hb2 db2 | exact HS.out _ hb1 db1 | exact HS.out _ hb0 db0
      clear hK K
      refine wpAnyH_ready (rs := [29]) (by kernel_rfl) (by simp) ?_
      refine AllReadyH.cons rfl (fun K hK => ?_) AllReadyH.nil
      go_simp
      go_wp2_with (go_at_call 23; go_loud ((with_reducible refine (Hbm.out _ hb1 db1).mono ?_); rintro e wx3 ⟨rfl, hb2, db2⟩))
      refine hK.out _ _ ?_ (fun hHeld => ?_)
      ·first | exact HS.out _ hb2 db2 | exact HS.out _ hb1 db1 | exact HS.out _ hb0 db0
      clear hK K
      refine wpAnyH_take (i := 30) (v := ?_) rfl (by kernel_rfl) (by kernel_rfl) (by kernel_rfl) (fun _ _ _ h => h) (Or.inl ⟨by kernel_rfl, ?_⟩) (by assumption) ?_
      rotate_left
      ·intro w hSw; (try dsimp only at hSw); go_simp; try with_reducible rfl
      try simp only [List.getElem_toArray, List.getElem_cons_succ, List.getElem_cons_zero, Act.put, List.setIfInBounds_toArray, List.set_cons_zero, List.set_cons_succ]
      refine wpAnyH_take (i := 31) (v := ?_) rfl (by kernel_rfl) (by kernel_rfl) (by kernel_rfl) (fun _ _ _ h => h) (Or.inl ⟨by kernel_rfl, ?_⟩) (by assumption) ?_
      rotate_left
      ·intro w hSw; (try dsimp only at hSw); go_simp; try with_reducible rfl
      try simp only [List.getElem_toArray, List.getElem_cons_succ, List.getElem_cons_zero, Act.put, List.setIfInBounds_toArray, List.set_cons_zero, List.set_cons_succ]
      refine wpAnyH_take (i := 32) (v := ?_) rfl (by kernel_rfl) (by kernel_rfl) (by kernel_rfl) (fun _ _ _ h => h) (Or.inl ⟨by kernel_rfl, ?_⟩) (by assumption) ?_
      rotate_left
      ·intro w hSw; (try dsimp only at hSw); go_simp; try with_reducible rfl
      try simp only [List.getElem_toArray, List.getElem_cons_succ, List.getElem_cons_zero, Act.put, List.setIfInBounds_toArray, List.set_cons_zero, List.set_cons_succ]
      refine wpAnyH_take (i := 33) (v := ?_) rfl (by kernel_rfl) (by kernel_rfl) (by kernel_rfl) (fun _ _ _ h => h) (Or.inl ⟨by kernel_rfl, ?_⟩) (by assumption) ?_
      rotate_left
      ·intro w hSw; (try dsimp only at hSw); go_simp; try with_reducible rfl
      try simp only [List.getElem_toArray, List.getElem_cons_succ, List.getElem_cons_zero, Act.put, List.setIfInBounds_toArray, List.set_cons_zero, List.set_cons_succ]
      refine wpAnyH_take (i := 34) (v := ?_) rfl (by kernel_rfl) (by kernel_rfl) (by kernel_rfl) (fun _ _ _ h => h) (Or.inl ⟨by kernel_rfl, ?_⟩) (by assumption) ?_
      rotate_left
      ·intro w hSw; (try dsimp only at hSw); go_simp; try with_reducible rfl
      try simp only [List.getElem_toArray, List.getElem_cons_succ, List.getElem_cons_zero, Act.put, List.setIfInBounds_toArray, List.set_cons_zero, List.set_cons_succ]
      refine wpAnyH_take (i := 35) (v := ?_) rfl (by kernel_rfl) (by kernel_rfl) (by kernel_rfl) (fun _ _ _ h => h) (Or.inl ⟨by kernel_rfl, ?_⟩) (by assumption) ?_
      rotate_left
      ·intro w hSw; (try dsimp only at hSw); go_simp; try with_reducible rfl
      try simp only [List.getElem_toArray, List.getElem_cons_succ, List.getElem_cons_zero, Act.put, List.setIfInBounds_toArray, List.set_cons_zero, List.set_cons_succ]
      refine wpAnyH_take (i := 36) (v := ?_) rfl (by kernel_rfl) (by kernel_rfl) (by kernel_rfl) (fun _ _ _ h => h) (Or.inl ⟨by kernel_rfl, ?_⟩) (by assumption) ?_
      rotate_left
      ·intro w hSw; (try dsimp only at hSw); go_simp; try with_reducible rfl
      try simp only [List.getElem_toArray, List.getElem_cons_succ, List.getElem_cons_zero, Act.put, List.setIfInBounds_toArray, List.set_cons_zero, List.set_cons_succ]
      refine wpAnyH_take (i := 37) (v := ?_) rfl (by kernel_rfl) (by kernel_rfl) (by kernel_rfl) (fun _ _ _ h => h) (Or.inl ⟨by kernel_rfl, ?_⟩) (by assumption) ?_
      rotate_left
      ·intro w hSw; (try dsimp only at hSw); go_simp; try with_reducible rfl
      try simp only [List.getElem_toArray, List.getElem_cons_succ, List.getElem_cons_zero, Act.put, List.setIfInBounds_toArray, List.set_cons_zero, List.set_cons_succ]
      refine wpAnyH_take (i := 38) (v := ?_) rfl (by kernel_rfl) (by kernel_rfl) (by kernel_rfl) (fun _ _ _ h => h) (Or.inl ⟨by kernel_rfl, ?_⟩) (by assumption) ?_
      rotate_left
      ·intro w hSw; (try dsimp only at hSw); go_simp; try with_reducible rfl
      try simp only [List.getElem_toArray, List.getElem_cons_succ, List.getElem_cons_zero, Act.put, List.setIfInBounds_toArray, List.set_cons_zero, List.set_cons_succ]
      refine wpAnyH_take (i := 39) (v := ?_) rfl (by kernel_rfl) (by kernel_rfl) (by kernel_rfl) (fun _ _ _ h => h) (Or.inl ⟨by kernel_rfl, ?_⟩) (by assumption) ?_
      rotate_left
      ·intro w hSw; (try dsimp only at hSw); go_simp; try with_reducible rfl
      try simp only [List.getElem_toArray, List.getElem_cons_succ, List.getElem_cons_zero, Act.put, List.setIfInBounds_toArray, List.set_cons_zero, List.set_cons_succ]
      refine wpAnyH_take (i := 40) (v := ?_) rfl (by kernel_rfl) (by kernel_rfl) (by kernel_rfl) (fun _ _ _ h => h) (Or.inl ⟨by kernel_rfl, ?_⟩) (by assumption) ?_
      rotate_left
      ·intro w hSw; (try dsimp only at hSw); go_simp; try with_reducible rfl
      try simp only [List.getElem_toArray, List.getElem_cons_succ, List.getElem_cons_zero, Act.put, List.setIfInBounds_toArray, List.set_cons_zero, List.set_cons_succ]
      refine wpAnyH_done (by kernel_rfl) ?_ _
      go_wp2_with fail
      go_meet
      exact ⟨rfl, hb2, db2⟩
     case rest =>
      obtain ⟨rfl, hb3, db3⟩ := hcut
      rw [HBIG.out] at hb3
      have hfin : Sat wc (stoA s2 j2 d n P J2 * (devA S2 d D2 * (pool S2 * ((pt nb (.cells #[.int .i64 (dcr + kr), .int .i64 (dcw + kw), .int .i64 (dcf + 3)] 52 (0, 0)) * (pt ob (.cells #[.int .i64 dcr, .int .i64 dcw, .int .i64 dcf] 52 (0, 0)) * (stoA s j d n P J * Y))) * whole w)))) := hb3.to (by ac_rfl)
      have Hfin := SL.hid hfin; have HDf := SL.hid db3
      clear hb0 D10 hb3 db3 hfin
      go_wp2_with fail
      go_roundw
      case rel => exact ⟨i + 1, B + 2, s2, j2, S2, J2, D2, has2, _, by omega, by go_num, rfl, by have := HB.out; omega, hL2'.out, (HLst.out.under (pt nb (.cells #[.int .i64 (dcr + kr), .int .i64 (dcw + kw), .int .i64 (dcf + 3)] 52 (0, 0)) * (pt ob (.cells #[.int .i64 dcr, .int .i64 dcw, .int .i64 dcf] 52 (0, 0)) * stoA s j d n P J))).cast (by ac_rfl), says_same HSay.out Hsm.out, Hfin.out, HDf.out⟩
      case measure => simp [intOf]; omega
    ·have his := is11_any wr S s j d n P B (superE n P) J D has _ X (Y * whole w) hsat hL.sj (by omega) hLst
     have hlt' : ¬ (i : Int) < (T : Int) := by omega
     have HSay := SL.hid hSay; have Hsd := SL.hid hside
     have hfg : ∀ (a b : Value) (w : World), (Instr.field 35 (.agg #[a, b]) 0).run Tryz.prog w = .ok a w := fun a b w => by kernel_rfl
     clear hsat hL hLst hSay hside hlt
     go_wp2_with fail
     (with_reducible refine his.mono ?_)
     rintro e w9 ⟨bb, k, rfl, hb, hk, h9, d9⟩
     obtain rfl : bb = true := hb.2 HSay.out
     have hge := geom_any w9 s j d n P J _ h9
     unfold GeomQ geV at hge
     have H9 := SL.hid h9; have HD9 := SL.hid (Hsd.out.trans d9)
     clear his h9 d9 hb
     go_wp2_with fail
     (with_reducible refine hge.mono ?_)
     rintro e w10 ⟨rfl, h10, d10⟩
     have hfin : Sat w10 (whole w) := ((h10.keepW H9.out).to (by ac_rfl : _ = (stoA s j d n P J * (devA S d ({ D with cr := addN D.cr k } : Dev) * (pool S * Y))) * whole w)).right
     have Hfin := SL.hid hfin; have HDf := SL.hid (HD9.out.trans d10)
     clear hge h10 d10 hfin H9 HD9
     go_wp2_with fail
     go_ret
     exact ⟨rfl, Hfin.out, HDf.out⟩
end Go.Proofs.YtdafdidmbeecfaaGreatDoor.Su
end

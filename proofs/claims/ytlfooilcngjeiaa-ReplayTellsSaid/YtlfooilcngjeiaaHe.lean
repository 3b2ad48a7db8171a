/- The laws of layer 8: shown, the walk. -/
import Derived.Test.YtlfooilcngjeiaaHc
import Derived.Deep.DeepCutAuto
import Derived.Deep.CutBlock
import Derived.Deep.CutRange
namespace Go.Proofs.Ytlfooilcngjeiaa
set_option linter.unusedVariables false
set_option linter.unusedSimpArgs false
open Go.RowKit Go.SL
def ShownQ (w : World) (e : Ending) (w' : World) : Prop := e = .returned (.bool true) ∧ Sat w' (whole w) ∧ Side w w'
/-- Two writes, one write in a slice that was just made. -/
theorem wrs2 {w : World} {b g1 g2 : Nat} {i1 i2 : Int} {l1 l2 : List UInt8} {F : Assn} (h : Sat w (pt b (.cells #[.int .i64 i1, .slice (some ⟨g1, 0, none⟩) 480 480, .int .i64 i2, .slice (some ⟨g2, 0, none⟩) 480 480] 53 (0, 0)) * (pt g1 (.cells (u8s l1) 5 (0, 0)) * (pt g2 (.cells (u8s l2) 5 (0, 0)) * F)))) :
    Sat w (wrsA (.slice (some ⟨b, 0, none⟩) 2 2) [(g1, i1, l1), (g2, i2, l2)] * F) := by
  have h1 := h.slOf (n := 2) (sz := 2) (cap := 2) (Nat.le_refl _) (by unfold maxLen; omega) rfl
  refine h1.to ?_
  unfold wrsA
  show _ = (sl _ _ _ 2 _ * (pt g1 _ * (pt g2 _ * emp))) * F
  rw [star_emp]
  have : (#[Value.int .i64 i1, .slice (some ⟨g1, 0, none⟩) 480 480, .int .i64 i2, .slice (some ⟨g2, 0, none⟩) 480 480] : Array Value).toList.take (2 * 2) = SL.flatW (Wo.wr [(g1, i1, l1), (g2, i2, l2)]) := rfl
  rw [this]
  ac_rfl
theorem wrs1 {w : World} {b g1 : Nat} {i1 : Int} {l1 : List UInt8} {F : Assn} (h : Sat w (pt b (.cells #[.int .i64 i1, .slice (some ⟨g1, 0, none⟩) 480 480] 53 (0, 0)) * (pt g1 (.cells (u8s l1) 5 (0, 0)) * F))) :
    Sat w (wrsA (.slice (some ⟨b, 0, none⟩) 1 1) [(g1, i1, l1)] * F) := by
  have h1 := h.slOf (n := 1) (sz := 2) (cap := 1) (Nat.le_refl _) (by unfold maxLen; omega) rfl
  refine h1.to ?_
  unfold wrsA
  show _ = (sl _ _ _ 1 _ * (pt g1 _ * emp)) * F
  rw [star_emp]
  have : (#[Value.int .i64 i1, .slice (some ⟨g1, 0, none⟩) 480 480] : Array Value).toList.take (1 * 2) = SL.flatW (Wo.wr [(g1, i1, l1)]) := rfl
  rw [this]
  ac_rfl
set_option maxRecDepth 100000 in
set_option maxHeartbeats 4000000 in
theorem shown_any (w : World) : Calls Try.prog 10 #[] w (ShownQ w) := by
  go_enter Try.func10, Try.ntmps10
  go_wp2_with fail
  refine (new_any 201 (by decide) (by decide) w).mono ?_
  rintro e w1 ⟨d, rfl, h1, d1⟩
  have H1 := h1 NoB
  clear h1
  go_wp2_with fail
  refine (fresh_any 10 (by decide) w1).mono ?_
  rintro e w2 ⟨a, rfl, h2, d2⟩
  have H2 := h2.under H1
  clear h2 H1
  have hnew : Calls Try.prog 14 #[ptV d, .int .i64 200, (freshS 10).v a] w2 (JNewQ d (J0 200 10) w2) := jfresh_any w2 NoB d (Dev.fresh 201) _ 10 200 a H2.front2 (rdI_sl (by rw [List.length_replicate]; exact H2)) (by decide) (by decide) (by decide) (by decide) (by rw [devLen]; decide) (by rw [devLen]; decide)
  go_wp2_with fail
  (with_reducible refine hnew.mono ?_)
  rintro e w3 ⟨j, rfl, h3, d3⟩
  have H3 : Sat w3 (jrA j d (J0 200 10) * (devA NoB d (Dev.fresh 201) * (pool NoB * whole w))) := (h3.under H2.right.poolEmp).to (by ac_rfl)
  have D3 := (d1.trans d2).trans d3
  clear h3 H2 hnew d1 d2 d3
  go_wp2_with fail
  refine (block_any 1 w3).mono ?_
  rintro e w4 ⟨g1, rfl, h4, d4⟩
  have H4 := h4.under H3
  clear h4 H3
  go_wp2_with fail
  refine (block_any 2 w4).mono ?_
  rintro e w5 ⟨g2, rfl, h5, d5⟩
  have H5 := (h5.under H4).alloc (.cells #[.int .i64 3, .slice (some ⟨g1, 0, none⟩) 480 480, .int .i64 4, .slice (some ⟨g2, 0, none⟩) 480 480] 53 (0, 0))
  have D5 := ((D3.trans d4).trans d5).alloc (.cells #[.int .i64 3, .slice (some ⟨g1, 0, none⟩) 480 480, .int .i64 4, .slice (some ⟨g2, 0, none⟩) 480 480] 53 (0, 0))
  have H6 := wrs2 (H5.to (by ac_rfl : _ = pt w5.heap.size (.cells #[.int .i64 3, .slice (some ⟨g1, 0, none⟩) 480 480, .int .i64 4, .slice (some ⟨g2, 0, none⟩) 480 480] 53 (0, 0)) * (pt g1 (.cells (u8s (bj 1)) 5 (0, 0)) * (pt g2 (.cells (u8s (bj 2)) 5 (0, 0)) * (jrA j d (J0 200 10) * (devA NoB d (Dev.fresh 201) * (pool NoB * whole w)))))))
  obtain ⟨D1, hc1, hI1⟩ := s_c1
  have hmy : mayW (J0 200 10).n (Wo.wr [(g1, (3 : Int), bj 1), (g2, 4, bj 2)]) := may_batch (show Batch (J0 200 10).n (Wo.bl [(g1, (3 : Int), bj 1), (g2, 4, bj 2)]) from s_b1)
  have hcm := commitW_any _ NoB j d (J0 200 10) (Dev.fresh 201) (whole w) _ _ _ (H6.to (by ac_rfl)) (fresh_inv (P := 200) (n := 10) (by decide) (by decide) (by decide) (by decide)) (by intro x hx; simp at hx; rcases hx with rfl | rfl <;> exact bj_len _) (by simp) true ⟨fun _ => hmy, fun _ => rfl⟩
  have eb : Wo.bl [(g1, (3 : Int), bj 1), (g2, 4, bj 2)] = sL1 := rfl
  rw [eb, hc1] at hcm
  clear H4 h5 H5 H6 d4 d5 D3 eb hc1 hmy
  go_wp2_with fail
  generalize w5.alloc (.cells #[.int .i64 3, .slice (some ⟨g1, 0, none⟩) 480 480, .int .i64 4, .slice (some ⟨g2, 0, none⟩) 480 480] 53 (0, 0)) = w6 at hcm D5 ⊢
  (with_reducible refine hcm.mono ?_)
  rintro e w7 ⟨S7, E7, rfl, h7, d7⟩
  have H7 : Sat w7 (jrA j d sJ1 * (devA S7 d D1 * (pool S7 * whole w))) := (h7.to (by ac_rfl : _ = wrsA (.slice (some ⟨w5.heap.size, 0, none⟩) 2 2) [(g1, 3, bj 1), (g2, 4, bj 2)] * (jrA j d sJ1 * (devA S7 d D1 * (pool S7 * whole w))))).right
  have D7 := D5.trans d7
  clear h7 d7 D5 hcm
  go_wp2_with fail
  refine (block_any 3 w7).mono ?_
  rintro e w8 ⟨g3, rfl, h8, d8⟩
  have H8 := (h8.under H7).alloc (.cells #[.int .i64 3, .slice (some ⟨g3, 0, none⟩) 480 480] 53 (0, 0))
  have D8 := (D7.trans d8).alloc (.cells #[.int .i64 3, .slice (some ⟨g3, 0, none⟩) 480 480] 53 (0, 0))
  have H9 := wrs1 H8
  have hmy : mayW sJ1.n (Wo.wr [(g3, (3 : Int), bj 3)]) := may_batch (show Batch sJ1.n (Wo.bl [(g3, (3 : Int), bj 3)]) from s_b2)
  obtain ⟨D2, hc2, hI2⟩ := s_c2 hI1
  have hcm := commitW_any _ S7 j d sJ1 D1 (whole w) _ _ _ (H9.to (by ac_rfl)) hI1 (by intro x hx; simp at hx; rcases hx with rfl <;> exact bj_len _) (by simp) true ⟨fun _ => hmy, fun _ => rfl⟩
  have eb : Wo.bl [(g3, (3 : Int), bj 3)] = sL2 := rfl
  rw [eb, hc2] at hcm
  clear h8 H8 H9 H7 d8 D7 eb hc2 hmy hI1
  go_wp2_with fail
  generalize w8.alloc (.cells #[.int .i64 3, .slice (some ⟨g3, 0, none⟩) 480 480] 53 (0, 0)) = w9 at hcm D8 ⊢
  (with_reducible refine hcm.mono ?_)
  rintro e w10 ⟨S10, E10, rfl, h10, d10⟩
  have H10 : Sat w10 (jrA j d sJ2 * (devA S10 d D2 * (pool S10 * whole w))) := (h10.to (by ac_rfl : _ = wrsA (.slice (some ⟨w8.heap.size, 0, none⟩) 1 1) [(g3, 3, bj 3)] * (jrA j d sJ2 * (devA S10 d D2 * (pool S10 * whole w))))).right
  have D10 := D8.trans d10
  clear h10 d10 D8 hcm
  have hst := state_any w10 j d sJ2 _ H10 hI2.ok
  obtain ⟨a3, a4, a10, asq, ahd, aus, afr, aps⟩ := s_at3
  have A3 := SL.hid a3; have A4 := SL.hid a4; have A10 := SL.hid a10
  go_wp2_with fail
  (with_reducible refine hst.mono ?_)
  rintro e w11 ⟨ag, rfl, h11, d11⟩
  have e11 : (Jr.js sJ2).v (.slice (some ⟨ag, 0, none⟩) sJ2.T.ps.length sJ2.T.ps.length) = .agg #[.int .u32 1, .int .u64 1, .int .u64 2, .int .i64 4, .int .i64 2, .slice (some ⟨ag, 0, none⟩) 10 10] := by
    rw [aps]
    unfold Js.v Jr.js
    dsimp only
    rw [asq, ahd, aus]
    rfl
  rw [e11]
  have H11 := h11.alloc (.cells #[.int .u32 1, .int .u64 1, .int .u64 2, .int .i64 4, .int .i64 2, .slice (some ⟨ag, 0, none⟩) 10 10] 26 (0, 0))
  have D11 := (D10.trans d11).alloc (.cells #[.int .u32 1, .int .u64 1, .int .u64 2, .int .i64 4, .int .i64 2, .slice (some ⟨ag, 0, none⟩) 10 10] 26 (0, 0))
  clear hst h11 d11 D10 H10 e11
  go_wp2_with fail
  generalize w11.alloc (.cells #[.int .u32 1, .int .u64 1, .int .u64 2, .int .i64 4, .int .i64 2, .slice (some ⟨ag, 0, none⟩) 10 10] 26 (0, 0)) = w12 at H11 D11 ⊢
  generalize w11.heap.size = sb at H11 ⊢
  obtain ⟨D3, hr3, hI3⟩ := s_read hI2
  have hrd := jread_any w12 S10 j d sJ2 D2 3 (pt ag (.cells (ints (Jr.ats sJ2)) 3 (0, 0)) * (pt sb (.cells #[.int .u32 1, .int .u64 1, .int .u64 2, .int .i64 4, .int .i64 2, .slice (some ⟨ag, 0, none⟩) 10 10] 26 (0, 0)) * whole w)) (H11.to (by ac_rfl)) hI2.ok hI2.dok
  rw [hr3] at hrd
  (with_reducible refine hrd.mono ?_)
  rintro e w13 ⟨dv, rfl, h13, d13⟩
  have H13 := h13.ansYes
  have D13 := D11.trans d13
  clear hrd h13 d13 D11 H11 hr3 hI2 a3 a4 a10 asq ahd aus afr aps
  go_wp2_with fail
  refine (block_any 3 w13).mono ?_
  rintro e w14 ⟨g5, rfl, h14, d14⟩
  have H14 := h14.under H13
  have D14 := D13.trans d14
  clear h14 d14 H13 D13
  go_wp2_with fail
  refine (block_any 3 w14).mono ?_
  rintro e w15 ⟨g6, rfl, h15, d15⟩
  have H15 := (h15.under H14).alloc (.cells #[.int .i64 3, .slice (some ⟨g5, 0, none⟩) 480 480, .int .i64 3, .slice (some ⟨g6, 0, none⟩) 480 480] 53 (0, 0))
  have D15 := (D14.trans d15).alloc (.cells #[.int .i64 3, .slice (some ⟨g5, 0, none⟩) 480 480, .int .i64 3, .slice (some ⟨g6, 0, none⟩) 480 480] 53 (0, 0))
  obtain ⟨REST, hREST⟩ : ∃ X, X = bs 5 dv (bj 3) * (pt ag (.cells (ints (Jr.ats sJ2)) 3 (0, 0)) * (pt sb (.cells #[.int .u32 1, .int .u64 1, .int .u64 2, .int .i64 4, .int .i64 2, .slice (some ⟨ag, 0, none⟩) 10 10] 26 (0, 0)) * whole w)) := ⟨_, rfl⟩
  have H16 := wrs2 (H15.to (by rw [hREST]; ac_rfl : _ = pt w15.heap.size (.cells #[.int .i64 3, .slice (some ⟨g5, 0, none⟩) 480 480, .int .i64 3, .slice (some ⟨g6, 0, none⟩) 480 480] 53 (0, 0)) * (pt g5 (.cells (u8s (bj 3)) 5 (0, 0)) * (pt g6 (.cells (u8s (bj 3)) 5 (0, 0)) * (jrA j d sJ2 * (devA S10 d D3 * (pool S10 * REST)))))))
  have hno : ¬ mayW sJ2.n (Wo.wr [(g5, (3 : Int), bj 3), (g6, 3, bj 3)]) := fun h => by
    have := (batch_may h).nd
    simp [Wo.bl] at this
  have hcm := commitW_any _ S10 j d sJ2 D3 REST _ _ _ (H16.to (by ac_rfl)) hI3 (by intro x hx; simp at hx; rcases hx with rfl | rfl <;> exact bj_len _) (by simp) false ⟨fun h => (by cases h), fun h => absurd h hno⟩
  have en : jcommit sJ2 D3 false (Wo.bl [(g5, (3 : Int), bj 3), (g6, 3, bj 3)]) = (1, sJ2, D3) := by unfold jcommit; rw [if_pos rfl]
  rw [en] at hcm
  have HR := SL.hid hREST
  clear H14 D14 h15 d15 H15 H16 hno en hREST
  go_wp2_with fail
  generalize w15.alloc (.cells #[.int .i64 3, .slice (some ⟨g5, 0, none⟩) 480 480, .int .i64 3, .slice (some ⟨g6, 0, none⟩) 480 480] 53 (0, 0)) = w16 at hcm D15 ⊢
  (with_reducible refine hcm.mono ?_)
  rintro e w17 ⟨S17, E17, rfl, h17, d17⟩
  have H17 : Sat w17 (jrA j d sJ2 * (pt ag (.cells (ints (Jr.ats sJ2)) 3 (0, 0)) * (pt sb (.cells #[.int .u32 1, .int .u64 1, .int .u64 2, .int .i64 4, .int .i64 2, .slice (some ⟨ag, 0, none⟩) 10 10] 26 (0, 0)) * (bs 5 dv (bj 3) * whole w)))) := by
    have h := h17
    rw [HR.out] at h
    exact (h.to (by ac_rfl : _ = (wrsA (.slice (some ⟨w15.heap.size, 0, none⟩) 2 2) [(g5, 3, bj 3), (g6, 3, bj 3)] * (devA S17 d D3 * pool S17)) * (jrA j d sJ2 * (pt ag (.cells (ints (Jr.ats sJ2)) 3 (0, 0)) * (pt sb (.cells #[.int .u32 1, .int .u64 1, .int .u64 2, .int .i64 4, .int .i64 2, .slice (some ⟨ag, 0, none⟩) 10 10] 26 (0, 0)) * (bs 5 dv (bj 3) * whole w)))))).right
  have D17 := D15.trans d17
  clear hcm h17 d17 D15 HR
  have hroom := fun (w' : World) (F : Assn) (h' : Sat w' (jrA j d sJ2 * F)) => room_any w' j d sJ2 F h' hI3.ok
  have hbrk : sJ2.br = false := rfl
  have hrm : (sJ2.P : Int) - sJ2.us - sJ2.fr = 196 := by decide
  rw [hrm] at hroom
  obtain ⟨BIG, hBIG⟩ : ∃ X, X = jrA j d sJ2 * (pt ag (.cells (ints (Jr.ats sJ2)) 3 (0, 0)) * (pt sb (.cells #[.int .u32 1, .int .u64 1, .int .u64 2, .int .i64 4, .int .i64 2, .slice (some ⟨ag, 0, none⟩) 10 10] 26 (0, 0)) * (bs 5 dv (bj 3) * whole w))) := ⟨_, rfl⟩
  rw [← hBIG] at H17
  have HB : Hid (∀ w', Sat w' BIG → Sat w' (jrA j d sJ2 * (pt ag (.cells (ints (Jr.ats sJ2)) 3 (0, 0)) * (pt sb (.cells #[.int .u32 1, .int .u64 1, .int .u64 2, .int .i64 4, .int .i64 2, .slice (some ⟨ag, 0, none⟩) 10 10] 26 (0, 0)) * (bs 5 dv (bj 3) * whole w))))) := fun w' h => hBIG ▸ h
  have z2 : ∀ w', Sat w' BIG → w'.cell? ⟨sb, 2, none⟩ = some (.int .u64 2) := fun w' h => (HB.out w' h).front3.cell 2
  have z3 : ∀ w', Sat w' BIG → w'.cell? ⟨sb, 3, none⟩ = some (.int .i64 4) := fun w' h => (HB.out w' h).front3.cell 3
  have z4 : ∀ w', Sat w' BIG → w'.cell? ⟨sb, 4, none⟩ = some (.int .i64 2) := fun w' h => (HB.out w' h).front3.cell 4
  have z5 : ∀ w', Sat w' BIG → w'.cell? ⟨sb, 5, none⟩ = some (.slice (some ⟨ag, 0, none⟩) 10 10) := fun w' h => (HB.out w' h).front3.cell 5
  have t3 : ∀ w', Sat w' BIG → w'.cell? ⟨ag, 3, none⟩ = some (.int .i64 2) := fun w' h => by
    rw [← A3.out]; exact ((HB.out w' h).front2.cell 3).trans (get_ints_lt (by rw [A10.out]; decide))
  have t4 : ∀ w', Sat w' BIG → w'.cell? ⟨ag, 4, none⟩ = some (.int .i64 3) := fun w' h => by
    rw [← A4.out]; exact ((HB.out w' h).front2.cell 4).trans (get_ints_lt (by rw [A10.out]; decide))
  have cx : ∀ w', Sat w' BIG → (convert 51 9 dv).run Try.prog w' = .ok (.string (str (bj 3))) w' := fun w' h => run_text w' dv _ (HB.out w' h).front4.bsRd
  have Hroom : Hid (∀ w', Sat w' BIG → Calls Try.prog 17 #[ptV j] w' (Tells (.int .i64 196) w')) := fun w' h => hroom w' _ (HB.out w' h)
  have Hbr : Hid (∀ w', Sat w' BIG → Calls Try.prog 25 #[ptV j] w' (BoolIs false w')) := fun w' h => broken_any w' j d sJ2 _ (HB.out w' h)
  clear hBIG hroom hbrk hrm hI3 A3 A4 A10 E7 E10 E17
  go_upto_region 12 with (fail)
  simp only [List.append_eq, List.cons_append, List.nil_append]
  go_region_held (fun w' => Sat w' BIG) (first | assumption | exact H17.drew)
    (first
      | (go_at_call 23; refine (block_any 3 _).mono ?_; rintro e wA ⟨gA, rfl, hA, dA⟩; have hA' := hA.under (Q := BIG) (by assumption); have kA := run_text wA _ _ (rd_bj hA'); have HBA := hA'.right)
      | (go_at_call 17; refine (Hroom.out _ (by assumption)).mono ?_; rintro e wR ⟨rfl, hR, dR⟩; have HBR := hR.keepW (Q := BIG) (by assumption))
      | (go_at_call 25; refine (Hbr.out _ (by assumption)).mono ?_; rintro e wL ⟨rfl, rfl⟩))
  all_goals
    go_wp2
    go_ret
    exact ⟨rfl, (HB.out _ HBR).right.right.right.right, (D17.drew.trans dA).trans dR⟩
end Go.Proofs.Ytlfooilcngjeiaa

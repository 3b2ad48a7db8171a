/- harrowlaw15.shown. -/
import Derived.Test.YtcgpegdnicnciaaW10
namespace Go.Proofs.Ytcgpegdnicnciaa
set_option linter.unusedVariables false
set_option linter.unusedSimpArgs false
open Go.RowKit Go.SL
def BlockQ (n : Int) (w : World) (e : Ending) (w' : World) : Prop :=
  ∃ g, e = .returned (.slice (some ⟨g, 0, none⟩) 480 480) ∧ Sat w' (pt g (.cells (u8s (blk n)) 5 (0, 0)) * whole w) ∧ Side w w'
theorem block_c (n : Int) (w : World) : Calls Try.prog 11 #[.int .i64 n] w (BlockQ n w) :=
  (block_any n w).mono fun _ _ ⟨he, hw⟩ => by subst hw; exact ⟨_, he, (Sat.whole w).alloc _, (Side.refl w).alloc _⟩
theorem rd_blk {w : World} {g : Nat} {n : Int} {F : Assn} (h : Sat w (pt g (.cells (u8s (blk n)) 5 (0, 0)) * F)) : Rd w (.slice (some ⟨g, 0, none⟩) 480 480) (blk n) := by
  have := rd_row (c := 480) h.heap
  rwa [blk_len] at this
def ShownQ (w : World) (e : Ending) (w' : World) : Prop := e = .returned (.bool true) ∧ Sat w' (whole w) ∧ Side w w'
theorem wW_yes {id n : Int} {W : CB} (h : 0 ≤ id) : writeW 0 id (blk n) W = SL.upd W id (blk n) := writeW_yes ⟨rfl, h, blk_len n⟩
theorem wR_yes {id n : Int} (h : 0 ≤ id) : writeR 0 id (blk n) = 0 := by simp [writeR, blk_len, Int.not_lt.2 h]
def NoBlocks : Hp := fun _ => none
set_option maxRecDepth 100000 in
set_option maxHeartbeats 4000000 in
theorem shown_any (w : World) : Calls Try.prog 7 #[] w (ShownQ w) := by
  go_enter Try.func7, Try.ntmps7
  go_wp2_with fail
  -- the rows
  refine (rows_any 2 (by omega) (whole w) w (Sat.whole w)).mono ?_
  rintro e w1 ⟨v, gs, rfl, hgs, h1, d1⟩
  have hl := rows_length hgs
  have hs := rows_small hgs
  have H1 : Sat w1 (rowsR v gs * whole w) := by
    unfold rowsR; rw [hl]; exact h1.to (star_assoc _ _ _).symm
  have Hgs := SL.hid hgs; have Hl := SL.hid hl; clear hgs hl h1
  go_wp2_with fail
  -- the batch
  refine (new_any _ _ _).mono ?_
  rintro e w2 ⟨b, rfl, h2, d2⟩
  have H2 : Sat w2 (batchA 54 5 NoBlocks b (.iface 27 v) 0 [] [] * (pool NoBlocks * (rowsR v gs * whole w))) := (h2 NoBlocks).under H1.poolEmp
  clear h2 H1
  go_wp2_with fail
  -- x, e := b.Read(1)
  have a3 : rdA 0 [] [] gs 1 = (0, blk 1001) := rowAns_yes (id := 1) Hgs.out (by decide) (by decide)
  have b3 : rdD 0 [] [] gs 1 = [(1, blk 1001)] := by
    have : rowAns gs 1 = (0, blk 1001) := rowAns_yes (id := 1) Hgs.out (by decide) (by decide)
    simp [rdD, this, kget, SL.upd]
  have c3 := read_rows w2 NoBlocks b v gs 0 [] [] 1 (whole w) hs (by rw [Hl.out]; decide) H2
  rw [a3, b3] at c3
  clear a3 b3
  refine c3.mono ?_
  rintro e w3 ⟨S3, x, E3, rfl, h3, d3⟩
  clear c3 H2
  have H3 : Sat w3 (batchA 54 5 S3 b (.iface 27 v) 0 [] [(1, blk 1001)] * (pool S3 * (rowsR v gs * (bs 5 x (blk 1001) * whole w)))) := (h3.ansYes).back4
  clear h3
  go_wp2_with fail
  -- f := b.Write(0, block(5))
  refine (block_c 5 w3).mono ?_
  rintro e w4 ⟨g4, rfl, h4, d4⟩
  have r4 := rd_blk h4
  have H4 := (h4.under H3).right
  clear h4 H3
  go_wp2_with fail
  refine (write_any w4 S3 b _ 0 _ _ 0 _ (blk 5) _ H4 r4).mono ?_
  rintro e w5 ⟨S5, E5, rfl, H5, d5⟩
  rw [wW_yes (by decide), show writeR 0 0 (blk 5) = 0 from wR_yes (by decide)] at *
  clear r4 H4
  change Sat w5 (batchA 54 5 S5 b (.iface 27 v) 0 [(0, blk 5)] [(1, blk 1001)] * _) at H5
  go_wp2_with fail
  -- y, g := b.Read(0)
  have a6 : rdA 0 [(0, blk 5)] [(1, blk 1001)] gs 0 = (0, blk 5) := rfl
  have b6 : rdD 0 [(0, blk 5)] [(1, blk 1001)] gs 0 = [(1, blk 1001)] := by simp [rdD, kget]
  have c6 := read_rows w5 S5 b v gs 0 _ _ 0 _ hs (by rw [Hl.out]; decide) H5
  rw [a6, b6] at c6
  clear a6 b6
  refine c6.mono ?_
  rintro e w6 ⟨S6, y, E6, rfl, h6, d6⟩
  clear c6 H5
  have H6 := (h6.ansYes).back4
  clear h6
  go_wp2_with fail
  -- h := b.Write(0, nil)
  refine (write_any w6 S6 b _ 0 _ _ 0 _ [] _ H6 ⟨rfl, .inl ⟨rfl, rfl⟩⟩).mono ?_
  rintro e w7 ⟨S7, E7, rfl, H7, d7⟩
  rw [writeW_no (by decide), show writeR 0 0 [] = 1 from rfl] at *
  clear H6
  go_wp2_with fail
  -- c := b.Fork()
  refine (fork_any w7 S7 b _ 0 _ _ _ H7 ⟨_, _, rfl⟩).mono ?_
  rintro e w8 ⟨S8, c, E8, rfl, h8, d8⟩
  have H8 := h8.front2.back4
  clear h8 H7
  go_wp2_with fail
  -- i := c.Write(7, block(6))
  refine (block_c 6 w8).mono ?_
  rintro e w9 ⟨g9, rfl, h9, d9⟩
  have r9 := rd_blk h9
  have H9 := (h9.under H8).right
  clear h9 H8
  go_wp2_with fail
  refine (write_any w9 S8 c _ 0 _ _ 7 _ (blk 6) _ H9 r9).mono ?_
  rintro e w10 ⟨S10, E10, rfl, H10, d10⟩
  rw [wW_yes (by decide), show writeR 0 7 (blk 6) = 0 from wR_yes (by decide)] at *
  clear r9 H9
  change Sat w10 (batchA 54 5 S10 c (.iface 27 v) 0 [(0, blk 5), (7, blk 6)] [(1, blk 1001)] * _) at H10
  go_wp2_with fail
  -- _, j := c.Read(2)
  have a11 : rdA 0 [(0, blk 5), (7, blk 6)] [(1, blk 1001)] gs 2 = (1, []) := rowAns_no (id := 2) Hgs.out (by decide)
  have b11 : rdD 0 [(0, blk 5), (7, blk 6)] [(1, blk 1001)] gs 2 = [(1, blk 1001)] := by
    have : rowAns gs 2 = (1, []) := rowAns_no (id := 2) Hgs.out (by decide)
    simp [rdD, this]
  have c11 := read_rows w10 S10 c v gs 0 _ _ 2 _ hs (by rw [Hl.out]; decide) H10
  rw [a11, b11] at c11
  clear a11 b11
  refine c11.mono ?_
  rintro e w11 ⟨S11, j, E11, rfl, h11, d11⟩
  obtain ⟨rfl, H11⟩ := h11.ansNo (by decide)
  clear c11 H10 h11
  go_wp2_with fail
  -- k := c.Write(1, block(5))
  refine (block_c 5 w11).mono ?_
  rintro e w12 ⟨g12, rfl, h12, d12⟩
  have r12 := rd_blk h12
  have H12 := (h12.under H11).right
  clear h12 H11
  go_wp2_with fail
  refine (write_any w12 S11 c _ 1 _ _ 1 _ (blk 5) _ H12 r12).mono ?_
  rintro e w13 ⟨S13, E13, rfl, H13, d13⟩
  rw [writeW_no (by decide), show writeR 1 1 (blk 5) = 1 from rfl] at *
  clear r12 H12
  go_wp2_with fail
  -- n := b.Len()
  have H14 : Sat w13 (batchA 54 5 S13 b (.iface 27 v) 0 [(0, blk 5)] [(1, blk 1001)] * _) := (H13.front4).weak (batchA_mono ((E10.trans E11).trans E13))
  refine (len_any w13 S13 b _ 0 _ _ _ (H14.front3.front2)).mono ?_
  rintro e w14 ⟨rfl, rfl⟩
  clear H13
  go_wp2_with fail
  -- b.Join(c)
  refine (join_any w13 S13 b c _ _ 1 0 _ _ _ _ _ H14 ⟨_, _, rfl⟩).mono ?_
  rintro e w15 ⟨S15, E15, rfl, H15, d15⟩
  clear H14
  go_wp2_with fail
  -- _, m := l.Read(-1)
  have a16 : rowAns gs (-1) = (1, []) := rowAns_no (id := -1) Hgs.out (by decide)
  have c16 := rowsRead_any w15 v gs (-1) _ hs (by rw [Hl.out]; decide) H15.front4
  rw [a16] at c16
  refine c16.mono ?_
  rintro e w16 ⟨m, rfl, h16, d16⟩
  obtain ⟨rfl, H16⟩ := h16.ansNo (by decide)
  clear c16 h16 H15 a16
  obtain ⟨BIG, hBIG⟩ : ∃ B, B = (batchA 54 5 S15 b (.iface 27 v) 1 [(0, blk 5), (7, blk 6)] [(1, blk 1001)] * (pool S15 * (bs 5 y (blk 5) * (bs 5 x (blk 1001) * whole w)))) := ⟨_, rfl⟩
  have H17 : Sat w16 BIG := hBIG ▸ H16.right.drop2
  have HB : Hid (∀ w', Sat w' BIG → Sat w' (batchA 54 5 S15 b (.iface 27 v) 1 [(0, blk 5), (7, blk 6)] [(1, blk 1001)] * (pool S15 * (bs 5 y (blk 5) * (bs 5 x (blk 1001) * whole w))))) := fun w' h => hBIG ▸ h
  have cx : ∀ w', Sat w' BIG → (convert 31 9 x).run Try.prog w' = .ok (.string (str (blk 1001))) w' := fun w' h => run_text w' x _ (HB.out w' h).front4.bsRd
  have cy : ∀ w', Sat w' BIG → (convert 31 9 y).run Try.prog w' = .ok (.string (str (blk 5))) w' := fun w' h => run_text w' y _ (HB.out w' h).front3.bsRd
  clear H16 hBIG
  go_wp2_with fail
  go_region_held (fun w' => Sat w' BIG) (first | assumption | exact H17.drew)
    (first
      | (go_at_call_of 11 (Value.int .i64 1001); refine (block_c 1001 _).mono ?_; rintro e wA ⟨gA, rfl, hA, dA⟩; have hA' := hA.under (Q := BIG) (by assumption); have kA := run_text wA _ _ (rd_blk hA'); have HBA := hA'.right)
      | (go_at_call_of 11 (Value.int .i64 5); refine (block_c 5 _).mono ?_; rintro e wB ⟨gB, rfl, hC, dB⟩; have hB' := hC.under (Q := BIG) (by assumption); have kB := run_text wB _ _ (rd_blk hB'); have HBB := hB'.right)
      | (go_at_call 12; refine (len_any _ S15 b _ 1 _ _ _ (HB.out _ (by assumption))).mono ?_; rintro e wL ⟨rfl, rfl⟩)
      | (go_at_call 14; refine (err_any _ S15 b _ 1 _ _ _ (HB.out _ (by assumption))).mono ?_; rintro e wL ⟨rfl, rfl⟩))
  clear cx cy kA kB
  go_wp2
  go_ret
  refine ⟨rfl, (HB.out _ HBB).right.right.right.right, ?_⟩
  have s1 := (((d1.trans d2).trans d3).trans d4).trans d5
  have s2 := (((s1.trans d6).trans d7).trans d8).trans d9
  have s3 := (((s2.trans d10).trans d11).trans d12).trans d13
  exact (((s3.trans d15).trans d16).drew.trans dA).trans dB
end Go.Proofs.Ytcgpegdnicnciaa

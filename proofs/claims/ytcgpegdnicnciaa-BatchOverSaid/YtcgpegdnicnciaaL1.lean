/- BatchArgs: the walk. -/
import Derived.Test.YtcgpegdnicnciaaW11
namespace Go.Proofs.Ytcgpegdnicnciaa
set_option linter.unusedVariables false
set_option linter.unusedSimpArgs false
open Go.RowKit Go.SL
set_option maxRecDepth 100000 in
set_option maxHeartbeats 4000000 in
theorem batchArgs_any (id size : Int) (w : World) : Calls Try.prog 4 #[.int .i64 id, .int .i64 size] w (ShownQ w) := by
  have hand := and16 size
  have hm0 : 0 ≤ size % 65536 := by omega
  have hm1 : size % 65536 ≤ 65535 := by omega
  go_enter Try.func4, Try.ntmps4
  go_wp2_with fail
  refine (shown_any w).mono ?_
  rintro e w1 ⟨rfl, h1, d1⟩
  go_wp2_with fail
  refine (new_any _ _ _).mono ?_
  rintro e w2 ⟨b, rfl, h2, d2⟩
  have H2 : Sat w2 (batchA 54 5 NoBlocks b (.iface 27 (.slice none 0 0)) 0 [] [] * (pool NoBlocks * whole w)) := (h2 NoBlocks).under h1.poolEmp
  clear h2 h1
  go_wp2_with fail
  obtain ⟨s, hs⟩ := Int.eq_ofNat_of_zero_le (show 0 ≤ size % 65536 % 1001 by omega)
  have hs1 : s ≤ 1000 := by omega
  rw [hs]
  clear hand hm0 hm1 hs
  have hmk := make_bytes s (by omega) w2
  have H3 := H2.alloc (.cells (u8s (zs s)) 5 (0, 0))
  have r3 : Rd (w2.alloc (.cells (u8s (zs s)) 5 (0, 0))) (.slice (some ⟨w2.heap.size, 0, none⟩) s s) (zs s) := by
    have := rd_row (c := s) H3.heap
    rwa [length_zs] at this
  have d3 := ((d1.trans d2).alloc (.cells (u8s (zs s)) 5 (0, 0)))
  have H4 := H3.right
  clear H2 H3 d1 d2
  have Hr := SL.hid r3; clear r3
  rw [hmk]
  clear hmk
  by_cases hid : 0 ≤ id
  · by_cases h480 : s = 480
    · have h480' : ((s : Int) == 480) = true := by rw [beq_iff_eq]; omega
      have H480 := SL.hid h480; clear h480
      go_wp2_with fail
      refine (write_any _ NoBlocks b _ 0 _ _ id _ (zs s) _ H4 Hr.out).mono ?_
      rintro e w5 ⟨S5, E5, rfl, H5, d5⟩
      rw [writeW_yes ⟨rfl, hid, by rw [length_zs]; exact H480.out⟩] at H5
      rw [show writeR 0 id (zs s) = 0 from by simp [writeR, Int.not_lt.2 hid, length_zs, H480.out]]
      clear H4
      go_wp2_with (first
        | (go_at_call 14; refine (err_any _ S5 b _ 0 _ _ _ H5).mono ?_; rintro e wL ⟨rfl, rfl⟩)
        | (go_at_call 12; refine (len_any _ S5 b _ 0 _ _ _ H5).mono ?_; rintro e wL ⟨rfl, rfl⟩))
      go_ret
      exact ⟨rfl, H5.right.right, d3.trans d5⟩
    · have h480' : ((s : Int) == 480) = false := by rw [beq_eq_false_iff_ne]; omega
      have H480 := SL.hid h480; clear h480
      go_wp2_with fail
      refine (write_any _ NoBlocks b _ 0 _ _ id _ (zs s) _ H4 Hr.out).mono ?_
      rintro e w5 ⟨S5, E5, rfl, H5, d5⟩
      rw [writeW_no (fun hh => H480.out (by rw [← length_zs s]; exact hh.2.2))] at H5
      rw [show writeR 0 id (zs s) = 1 from by simp [writeR, Int.not_lt.2 hid, length_zs, H480.out]]
      clear H4
      go_wp2_with (first
        | (go_at_call 14; refine (err_any _ S5 b _ 0 _ _ _ H5).mono ?_; rintro e wL ⟨rfl, rfl⟩)
        | (go_at_call 12; refine (len_any _ S5 b _ 0 _ _ _ H5).mono ?_; rintro e wL ⟨rfl, rfl⟩))
      go_ret
      exact ⟨rfl, H5.right.right, d3.trans d5⟩
  · have hid' : id < 0 := by omega
    go_wp2_with fail
    refine (write_any _ NoBlocks b _ 0 _ _ id _ (zs s) _ H4 Hr.out).mono ?_
    rintro e w5 ⟨S5, E5, rfl, H5, d5⟩
    rw [writeW_no (fun hh => absurd hh.2.1 (by omega))] at H5
    rw [show writeR 0 id (zs s) = 1 from by simp [writeR, hid']]
    clear H4
    go_wp2_with (first
      | (go_at_call 14; refine (err_any _ S5 b _ 0 _ _ _ H5).mono ?_; rintro e wL ⟨rfl, rfl⟩)
      | (go_at_call 12; refine (len_any _ S5 b _ 0 _ _ _ H5).mono ?_; rintro e wL ⟨rfl, rfl⟩))
    go_ret
    exact ⟨rfl, H5.right.right, d3.trans d5⟩
theorem shown_below {w : World} {e : Ending} {w' : World} (h : ShownQ w e w') : e = .returned (.bool true) ∧ Below w.heap.size w w' :=
  ⟨h.1, h.2.2.below (h.2.1.addEmp)⟩
theorem args_walk (id size : Int) (w : World) : Calls Try.prog 4 #[.int .i64 id, .int .i64 size] w fun e w' => e = .returned (.bool true) ∧ Below w.heap.size w w' :=
  (batchArgs_any id size w).mono fun _ _ h => shown_below h
end Go.Proofs.Ytcgpegdnicnciaa

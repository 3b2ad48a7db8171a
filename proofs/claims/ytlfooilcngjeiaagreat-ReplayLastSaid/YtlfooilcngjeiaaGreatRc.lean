/- The laws of layer 9: block, fresh: the walks. -/
import Derived.Test.YtlfooilcngjeiaaGreatHk
namespace Go.Proofs.YtlfooilcngjeiaaGreat
set_option linter.unusedVariables false
set_option linter.unusedSimpArgs false
open Go.RowKit Go.SL
set_option maxRecDepth 100000 in
set_option maxHeartbeats 1000000 in
theorem block_any (n : Int) (w : World) : Calls Tryz.prog 12 #[.int .i64 n] w (BlockQ n w) := by
  have hmk : ∀ w, (Instr.makeSlice 39 (.int .i64 480) (.int .i64 480)).run Tryz.prog w =
    .ok (.slice (some ⟨w.heap.size, 0, none⟩) 480 480) (w.alloc (.cells (u8s (zs 480)) 5 (0, 0))) := make_bytes 480 (by omega)
  have h1 := (Sat.whole w).alloc (.cells (u8s (zs 480)) 5 (0, 0))
  have d1 := (Side.refl w).alloc (.cells (u8s (zs 480)) 5 (0, 0))
  go_enter Tryz.func12, Tryz.ntmps12
  go_wp2_with fail
  generalize w.alloc (.cells (u8s (zs 480)) 5 (0, 0)) = w1 at h1 d1 ⊢
  generalize w.heap.size = g at h1 ⊢
  clear hmk
  go_loopw [4] (fun u wr => BlockRel g n w u wr) (fun u _ => 480 - (intOf u).toNat)
  case atStart => exact ⟨0, Nat.zero_le _, rfl, h1, d1⟩
  case round =>
    clear h1 d1
    obtain ⟨k, hk, rfl, hsat, hside⟩ := hrel
    have hk' : (k : Int) ≤ 480 := by omega
    by_cases hlt : k < 480
    · have hlt' : (k : Int) < 480 := by omega
      have hc : wr.cell? ⟨g, k, none⟩ = some (SL.u8 ((bjN n k).getD k 0)) := by
        rw [hsat.cell, get_u8s, List.getD, List.getElem?_eq_getElem (by rw [bjN_len n k hk]; exact hlt)]; rfl
      have hf := hsat.frozen k
      have h2 := hsat.setCell k (SL.u8 (UInt8.ofInt (n + (k : Int))))
      rw [set_u8s, bjN_set n k hlt] at h2
      have e : Value.int .u8 (IntKind.u8.wrap (wrap64 (n + (k : Int)))) = SL.u8 (UInt8.ofInt (n + (k : Int))) := by
        rw [u8_wrap]; congr 1; apply ofInt_congr; unfold wrap64; omega
      have e2 : Value.int .u8 (IntKind.u8.wrap (n + (k : Int))) = SL.u8 (UInt8.ofInt (n + (k : Int))) := u8_wrap _
      have H2 := SL.hid h2; have E := SL.hid e; have E2 := SL.hid e2
      clear hsat h2 e e2
      generalize SL.u8 ((bjN n k).getD k 0) = uu at hc
      go_wp2
      go_roundw
      case rel => exact ⟨k + 1, by omega, by go_num, by first | (rw [← E.out] at H2; exact H2.out) | (rw [← E2.out] at H2; exact H2.out), hside.setCell _ _⟩
      case measure => simp [intOf]; omega
    · obtain rfl : k = 480 := by omega
      have e : bjN n 480 = bj n := by unfold bjN bj zs; simp
      rw [e] at hsat
      go_wp2
      go_ret
      exact ⟨g, rfl, hsat, hside⟩
set_option maxRecDepth 100000 in
set_option maxHeartbeats 1000000 in
theorem fresh_any (n : Nat) (hn : n ≤ 4000) (w : World) : Calls Tryz.prog 8 #[.int .i64 (n : Int)] w (FreshQ n w) := by
  have hn' : (n : Int) ≤ 4000 := by omega
  obtain ⟨i0, hi, hz, hs0, hb0⟩ := info_parts info_int
  have h1 := ((Sat.whole w).alloc (.cells #[.int .u32 0, .int .u64 0, .int .u64 0, .int .i64 0, .int .i64 0, .slice none 0 0] 35 (0, 0))).alloc (.cells #[.int .u32 1, .int .u64 1, .int .u64 0, .int .i64 0, .int .i64 0, .slice none 0 0] 35 (0, 0))
  have d1 := ((Side.refl w).alloc (.cells #[.int .u32 0, .int .u64 0, .int .u64 0, .int .i64 0, .int .i64 0, .slice none 0 0] 35 (0, 0))).alloc (.cells #[.int .u32 1, .int .u64 1, .int .u64 0, .int .i64 0, .int .i64 0, .slice none 0 0] 35 (0, 0))
  rw [World.size_alloc] at h1
  go_enter Tryz.func8, Tryz.ntmps8
  go_wp2_with fail
  generalize (w.alloc (.cells #[.int .u32 0, .int .u64 0, .int .u64 0, .int .i64 0, .int .i64 0, .slice none 0 0] 35 (0, 0))).alloc (.cells #[.int .u32 1, .int .u64 1, .int .u64 0, .int .i64 0, .int .i64 0, .slice none 0 0] 35 (0, 0)) = w1 at h1 d1 ⊢
  generalize w.heap.size + 1 = b at h1 ⊢
  generalize w.heap.size = rb at h1 ⊢
  have HI := SL.hid hi; have HZ := SL.hid hz; have HS0 := SL.hid hs0; have HB0 := SL.hid hb0
  clear hi hz hs0 hb0
  go_loopw [4] (fun u wr => FreshRel n b (pt rb (.cells #[.int .u32 0, .int .u64 0, .int .u64 0, .int .i64 0, .int .i64 0, .slice none 0 0] 35 (0, 0)) * whole w) w u wr) (fun u _ => n - (intOf u).toNat)
  case atStart => exact ⟨0, .slice none 0 0, Nat.zero_le _, rfl, (h1.slNil _ _).to (by ac_rfl), d1⟩
  case round =>
    clear h1 d1
    obtain ⟨k, v, hk, rfl, hsat, hside⟩ := hrel
    by_cases hlt : k < n
    · have hlt' : (k : Int) < (n : Int) := by omega
      obtain ⟨va, vc, rfl⟩ := sl_shape hsat.front2
      have c5 : wr.cell? ⟨b, 5, none⟩ = some (.slice va k vc) := hsat.cell 5
      have f5 := hsat.frozen 5
      have hA := hsat.front2.alloc (.cells #[.int .i64 (-1)] 3 (0, 0))
      have hR : Rds (wr.alloc (.cells #[.int .i64 (-1)] 3 (0, 0))) 1 (.slice (some ⟨wr.heap.size, 0, none⟩) 1 1) 1 [.int .i64 (-1)] :=
        ⟨rfl, .inr ⟨_, _, rfl, fun j u hu => by
          rw [Addr.add_lit, Nat.zero_add]
          exact (hA.cell j).trans (by simpa using hu)⟩⟩
      obtain ⟨v', w', hrun, hsat', hside'⟩ := Sat.append (P := Tryz.prog) (ty := 33) Tryz.underlying33 HI.out HZ.out HS0.out HB0.out rfl hA.right hR (by simp [Value.oneCell']) (by unfold maxLen; omega) (by omega)
      obtain ⟨wa, wc, rfl⟩ := sl_shape hsat'
      have c5' : w'.cell? ⟨b, 5, none⟩ = some (.slice va k vc) := hsat'.front2.cell 5
      have f5' := hsat'.front2.frozen 5
      have hset := hsat'.front2.setCell 5 (.slice wa (k + 1) wc)
      simp only [List.setIfInBounds_toArray, List.set_cons_succ, List.set_cons_zero] at hset
      have e : i64v (List.replicate k (-1)) ++ [Value.int .i64 (-1)] = i64v (List.replicate (k + 1) (-1)) := by
        rw [List.replicate_succ']; simp [i64v]
      rw [e] at hset
      have dd := ((hside.alloc (.cells #[.int .i64 (-1)] 3 (0, 0))).trans hside').setCell ⟨b, 5, none⟩ (.slice wa (k + 1) wc)
      have HS := SL.hid hset; have HD := SL.hid dd; have Hrun := SL.hid hrun
      clear hsat hA hR hsat' hside' hset dd hrun e hside
      go_wp2_with (at_builtin; refine wpList_append_run Hrun.out _ _ rfl rfl rfl rfl rfl ?_)
      go_roundw
      case rel => exact ⟨k + 1, .slice wa (k + 1) wc, by omega, by go_num, HS.out, HD.out⟩
      case measure => simp [intOf]; omega
    · obtain rfl : k = n := by omega
      obtain ⟨va, vc, rfl⟩ := sl_shape hsat.front2
      have hB := hsat.front3
      have z0 : wr.cell? ⟨b, 0, none⟩ = some (.int .u32 1) := hsat.cell 0
      have z1 : wr.cell? ⟨b, 1, none⟩ = some (.int .u64 1) := hsat.cell 1
      have z2 : wr.cell? ⟨b, 2, none⟩ = some (.int .u64 0) := hsat.cell 2
      have z3 : wr.cell? ⟨b, 3, none⟩ = some (.int .i64 0) := hsat.cell 3
      have z4 : wr.cell? ⟨b, 4, none⟩ = some (.int .i64 0) := hsat.cell 4
      have z5 : wr.cell? ⟨b, 5, none⟩ = some (.slice va k vc) := hsat.cell 5
      have y0 : wr.cell? ⟨rb, 0, none⟩ = some (.int .u32 0) := hB.cell 0
      have y1 : wr.cell? ⟨rb, 1, none⟩ = some (.int .u64 0) := hB.cell 1
      have y2 : wr.cell? ⟨rb, 2, none⟩ = some (.int .u64 0) := hB.cell 2
      have y3 : wr.cell? ⟨rb, 3, none⟩ = some (.int .i64 0) := hB.cell 3
      have y4 : wr.cell? ⟨rb, 4, none⟩ = some (.int .i64 0) := hB.cell 4
      have y5 : wr.cell? ⟨rb, 5, none⟩ = some (.slice none 0 0) := hB.cell 5
      have f0 : wr.frozen? ⟨rb, 0, none⟩ = false := hB.frozen 0
      have f1 : wr.frozen? ⟨rb, 1, none⟩ = false := hB.frozen 1
      have f2 : wr.frozen? ⟨rb, 2, none⟩ = false := hB.frozen 2
      have f3 : wr.frozen? ⟨rb, 3, none⟩ = false := hB.frozen 3
      have f4 : wr.frozen? ⟨rb, 4, none⟩ = false := hB.frozen 4
      have f5 : wr.frozen? ⟨rb, 5, none⟩ = false := hB.frozen 5
      have K9 := ((((((hB.setCell 0 (.int .u32 1)).setCell 1 (.int .u64 1)).setCell 2 (.int .u64 0)).setCell 3 (.int .i64 0)).setCell 4 (.int .i64 0)).setCell 5 (.slice va k vc))
      have D9 := ((((((hside.setCell ⟨rb, 0, none⟩ (.int .u32 1)).setCell ⟨rb, 1, none⟩ (.int .u64 1)).setCell ⟨rb, 2, none⟩ (.int .u64 0)).setCell ⟨rb, 3, none⟩ (.int .i64 0)).setCell ⟨rb, 4, none⟩ (.int .i64 0)).setCell ⟨rb, 5, none⟩ (.slice va k vc))
      have HK := SL.hid K9; have HD := SL.hid D9
      clear K9 D9 hB hsat hside
      go_wp2
      have K10 := HK.out
      exact bodyPost_ret (results_cell_row rfl _ _ rb 35 _ (0, 0) _ rfl K10.heap Tryz.underlying35 rfl (info_state _ rfl)) rfl ⟨.slice va k vc, rfl, (K10.right.to (by ac_rfl : _ = pt b (.cells #[.int .u32 1, .int .u64 1, .int .u64 0, .int .i64 0, .int .i64 0, .slice va k vc] 35 (0, 0)) * (sl 3 1 (.slice va k vc) k (i64v (List.replicate k (-1))) * whole w))).right, HD.out⟩
theorem block_enters : ∀ args w, (callFunc 12 args).run Tryz.prog w = .ok (.enter 12 args) w := enters Tryz.func12 (by kernel_rfl) rfl
end Go.Proofs.YtlfooilcngjeiaaGreat

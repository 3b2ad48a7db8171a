/- device: Read in all cases; New, Start. -/
import Derived.Test.YtlfooilcngjeiaaGreatDd
namespace Go.Proofs.YtlfooilcngjeiaaGreat
set_option linter.unusedVariables false
set_option linter.unusedSimpArgs false
open Go.RowKit Go.SL
attribute [local go_sem] Oper.semAt_some
set_option maxRecDepth 100000 in
set_option maxHeartbeats 2000000 in
theorem read_no (w : World) (S : Hp) (d : Nat) (D : Dev) (a : Int) (F : Assn) (h : Sat w (devA S d D * (pool S * F))) (hh : ¬ D.has a) :
    Calls Tryz.prog 57 #[.pointer (some ⟨d, 0, none⟩), .int .i64 a] w (ReadQ S d D (1, []) F w) := by
  have hA := ((h.alloc (.cells #[.int .i64 a] 3 (0, 0))).alloc (.cells #[.slice none 0 0] 39 (0, 0))).alloc (.cells #[.int .i64 0] 25 (0, 0))
  have hs1 := (((Side.refl w).alloc (.cells #[.int .i64 a] 3 (0, 0))).alloc (.cells #[.slice none 0 0] 39 (0, 0))).alloc (.cells #[.int .i64 0] 25 (0, 0))
  rw [World.size_alloc, World.size_alloc] at hA
  refine (callsIn_wide (n := 9)).1 ?_
  refine callsIn_of_wp_marks Tryz.func57 rfl trivial ?_ rfl
  simp only [Tryz.ntmps57, List.size_toArray, List.length_cons, List.length_nil, Nat.reduceAdd, Nat.reduceSub, Array.replicate_succ, Array.replicate_zero, List.push_toArray, List.append_toArray, List.nil_append, List.cons_append]
  gi_wp2_with fail
  generalize ((w.alloc (.cells #[.int .i64 a] 3 (0, 0))).alloc (.cells #[.slice none 0 0] 39 (0, 0))).alloc (.cells #[.int .i64 0] 25 (0, 0)) = w1 at hA hs1 ⊢
  generalize w.heap.size + 1 + 1 = r5 at hA ⊢
  generalize w.heap.size + 1 = r4 at hA ⊢
  generalize w.heap.size = b3 at hA ⊢
  have H1 : Sat w1 (devA S d D * (pool S * (pt b3 (.cells #[.int .i64 a] 3 (0, 0)) * (pt r4 (.cells #[.slice none 0 0] 39 (0, 0)) * (pt r5 (.cells #[.int .i64 0] 25 (0, 0)) * F))))) := hA.to (by ac_rfl)
  have ch := has_any w1 S d D a _ H1
  rw [show decide (D.has a) = false by simpa using hh] at ch
  clear hA h
  refine callV ch ?_
  rintro e w1 ⟨rfl, rfl⟩
  have c4 := H1.front4.cell 0
  have f4 := H1.front4.frozen
  have c5' := (H1.front4.setCell 0 (.slice none 0 0)).front5.cell 0
  have f5' := (H1.front4.setCell 0 (.slice none 0 0)).front5.frozen
  have hne : r4 ≠ r5 := (H1.front5.front5).ne
  have c5 := H1.front5.cell 0
  have f5 := H1.front5.frozen
  have H7 := ((H1.front4.setCell 0 (.slice none 0 0)).front5.setCell 0 (.int .i64 1))
  clear ch H1
  gi_wp2
  refine ⟨_, read_results rfl rfl (H7.front2.cell 0) (H7.cell 0), ?_⟩
  exact ⟨_, rfl, Sat.ansNil (H7.right.right.drop3) (by decide), (hs1.setCell _ _).setCell _ _⟩
set_option maxRecDepth 100000 in
set_option maxHeartbeats 2000000 in
theorem read_down (w : World) (S : Hp) (d : Nat) (D : Dev) (a : Int) (F : Assn) (h : Sat w (devA S d D * (pool S * F))) (hD : D.Ok) (hh : D.has a) (hb : D.begins = 2) :
    Calls Tryz.prog 57 #[.pointer (some ⟨d, 0, none⟩), .int .i64 a] w (ReadQ S d D.begun (2, []) F w) := by
  have hA := ((h.alloc (.cells #[.int .i64 a] 3 (0, 0))).alloc (.cells #[.slice none 0 0] 39 (0, 0))).alloc (.cells #[.int .i64 0] 25 (0, 0))
  have hs1 := (((Side.refl w).alloc (.cells #[.int .i64 a] 3 (0, 0))).alloc (.cells #[.slice none 0 0] 39 (0, 0))).alloc (.cells #[.int .i64 0] 25 (0, 0))
  rw [World.size_alloc, World.size_alloc] at hA
  refine (callsIn_wide (n := 9)).1 ?_
  refine callsIn_of_wp_marks Tryz.func57 rfl trivial ?_ rfl
  simp only [Tryz.ntmps57, List.size_toArray, List.length_cons, List.length_nil, Nat.reduceAdd, Nat.reduceSub, Array.replicate_succ, Array.replicate_zero, List.push_toArray, List.append_toArray, List.nil_append, List.cons_append]
  gi_wp2_with fail
  generalize ((w.alloc (.cells #[.int .i64 a] 3 (0, 0))).alloc (.cells #[.slice none 0 0] 39 (0, 0))).alloc (.cells #[.int .i64 0] 25 (0, 0)) = w1 at hA hs1 ⊢
  generalize w.heap.size + 1 + 1 = r5 at hA ⊢
  generalize w.heap.size + 1 = r4 at hA ⊢
  generalize w.heap.size = b3 at hA ⊢
  have H1 : Sat w1 (devA S d D * (pool S * (pt b3 (.cells #[.int .i64 a] 3 (0, 0)) * (pt r4 (.cells #[.slice none 0 0] 39 (0, 0)) * (pt r5 (.cells #[.int .i64 0] 25 (0, 0)) * F))))) := hA.to (by ac_rfl)
  have ch := has_any w1 S d D a _ H1
  rw [show decide (D.has a) = true by simpa using hh] at ch
  have cb := begin_any w1 S d D _ H1 hD
  rw [hb] at cb
  clear hA h H1 hD hb hh
  refine callV ch ?_
  rintro e w1 ⟨rfl, rfl⟩
  clear ch
  gi_wp2_with fail
  refine callV cb ?_
  rintro e w2 ⟨rfl, H1, d2⟩
  have c4 := H1.front4.cell 0
  have f4 := H1.front4.frozen
  have c5' := (H1.front4.setCell 0 (.slice none 0 0)).front5.cell 0
  have f5' := (H1.front4.setCell 0 (.slice none 0 0)).front5.frozen
  have hne : r4 ≠ r5 := (H1.front5.front5).ne
  have c5 := H1.front5.cell 0
  have f5 := H1.front5.frozen
  have H7 := ((H1.front4.setCell 0 (.slice none 0 0)).front5.setCell 0 (.int .i64 2))
  clear cb H1
  gi_wp2
  refine ⟨_, read_results rfl rfl (H7.front2.cell 0) (H7.cell 0), ?_⟩
  exact ⟨_, rfl, Sat.ansNil (H7.right.right.drop3) (by decide), ((hs1.trans d2).setCell _ _).setCell _ _⟩
theorem read_any (w : World) (S : Hp) (d : Nat) (D : Dev) (a : Int) (F : Assn) (h : Sat w (devA S d D * (pool S * F))) (hD : D.Ok) :
    Calls Tryz.prog 57 #[.pointer (some ⟨d, 0, none⟩), .int .i64 a] w (ReadQ S d (D.read a).2 (D.read a).1 F w) := by
  unfold Dev.read
  by_cases hh : D.has a
  · rw [if_pos hh]
    rcases D.begins_cases with hb | hb
    · rw [if_pos hb]; exact read_up w S d D a F h hD hh hb
    · rw [if_neg (by rw [hb]; decide)]; exact read_down w S d D a F h hD hh hb
  · rw [if_neg hh]; exact read_no w S d D a F h hh
theorem made_nils (n : Nat) : madeCells #[Value.slice none 0 0] n = (List.replicate n (Value.slice none 0 0)).toArray := by
  apply Array.ext
  · simp [size_madeCells]
  · intro i h1 h2
    simp [madeCells, Nat.mod_one]
def NewQ (n : Nat) (w : World) (e : Ending) (w' : World) : Prop :=
  ∃ d, e = .returned (.tuple #[.pointer (some ⟨d, 0, none⟩), .int .i64 0]) ∧ (∀ S, Sat w' (devA S d (Dev.fresh n) * whole w)) ∧ Side w w'
set_option maxRecDepth 100000 in
set_option maxHeartbeats 1000000 in
theorem new_any (n : Nat) (h1 : 1 ≤ n) (h2 : n ≤ 20000) (w : World) :
    Calls Tryz.prog 6 #[.int .i64 n] w (NewQ n w) := by
  have hn1 : (1 : Int) ≤ (n : Int) := by omega
  have hn2 : (n : Int) ≤ 20000 := by omega
  obtain ⟨i0, hi, hz, hs0, hb0⟩ := info_parts info_bytes
  have hmk := run_make (P := Tryz.prog) w 47 39 i0 _ Tryz.underlying47 hi hz .i64 .i64 n n (by omega) (by omega) (by rw [hb0]; omega) (by omega)
  rw [hs0] at hmk
  have hmm := @run_makeMap Tryz.prog
  have hA := (((Sat.whole w).alloc (.cells (madeCells #[.slice none 0 0] n) 39 (0, 0))).alloc (.map #[] 0)).alloc (.cells #[.slice (some ⟨w.heap.size, 0, none⟩) n n, .slice none 0 0, .map (some (w.heap.size + 1)), .int .i64 0, .int .i64 0, .int .i64 0, .bool false, .bool false, .int .i64 0, .slice none 0 0] 64 (0, 0))
  have hs := (((Side.refl w).alloc (.cells (madeCells #[.slice none 0 0] n) 39 (0, 0))).alloc (.map #[] 0)).alloc (.cells #[.slice (some ⟨w.heap.size, 0, none⟩) n n, .slice none 0 0, .map (some (w.heap.size + 1)), .int .i64 0, .int .i64 0, .int .i64 0, .bool false, .bool false, .int .i64 0, .slice none 0 0] 64 (0, 0))
  rw [World.size_alloc, World.size_alloc] at hA
  clear hi hz hs0 hb0
  go_enter Tryz.func6, Tryz.ntmps6
  go_wp2
  go_ret2
  refine ⟨_, rfl, fun S => ?_, hs⟩
  have h3 := ((hA.front2.mpOf isMap_empty).front3.slNil 96 2).slNil 3 1
  refine Sat.devOf (x := ⟨w.heap.size, w.heap.size + 1, .slice none 0 0, .slice none 0 0, List.replicate n (.slice none 0 0, []), []⟩) (Sat.devShut ⟨by simp [Dev.fresh], fun y hy => ?_, rfl, by simp⟩ (h3.to ?_))
  · rw [List.eq_of_mem_replicate hy]; exact ⟨by simp [small], .inl ⟨rfl, rfl⟩⟩
  · simp only [Dx.cells, Dev.fresh, List.length_replicate, List.map_replicate, tornKV, List.map_nil, i64v, flatW, List.flatMap_nil, List.length_nil, made_nils]
    ac_rfl
def NewNoQ (w : World) (e : Ending) (w' : World) : Prop := e = .returned (.tuple #[.pointer none, .int .i64 1]) ∧ w = w'
theorem new_no (n : Int) (h : n < 1 ∨ 20000 < n) (w : World) : Calls Tryz.prog 6 #[.int .i64 n] w (NewNoQ w) := by
  rcases h with h | h
  · go_enter Tryz.func6, Tryz.ntmps6
    go_wp2
    go_ret2
    exact ⟨rfl, rfl⟩
  · have h' : ¬ n < 1 := by omega
    go_enter Tryz.func6, Tryz.ntmps6
    go_wp2
    go_ret2
    exact ⟨rfl, rfl⟩
def Dev.start (D : Dev) : Int × Dev := if D.down then (0, { D with down := false }) else (12, D)
theorem start_any (w : World) (S : Hp) (d : Nat) (D : Dev) (F : Assn) (hS : Sat w (devA S d D * F)) :
    Calls Tryz.prog 15 #[.pointer (some ⟨d, 0, none⟩)] w (DevQ S d (Dev.start D).2 (.int .i64 (Dev.start D).1) F w) := by
  obtain ⟨x, hx⟩ := hS.devEx
  have k6 : w.cell? ⟨d, 6, none⟩ = some (.bool D.down) := hx.devCell 6
  have kf := hx.devFree
  have hfit := hx.devOpen.1
  have h2 := hx.devOpen.2.setCell 6 (.bool false)
  unfold Dev.start
  cases hd : D.down
  · rw [hd] at k6
    clear hx h2
    go_enter Tryz.func15, Tryz.ntmps15
    go_wp2
    go_ret
    exact ⟨rfl, hS, Side.refl w⟩
  · rw [hd] at k6
    have H2 := SL.hid h2
    clear hx hS h2 hd
    go_enter Tryz.func15, Tryz.ntmps15
    go_wp2
    go_ret
    exact ⟨rfl, Sat.devOf (x := x) (Sat.devShut ⟨hfit.sec, hfit.vals, hfit.wait, hfit.wvals⟩ H2.out), (Side.refl w).setCell _ _⟩
end Go.Proofs.YtlfooilcngjeiaaGreat

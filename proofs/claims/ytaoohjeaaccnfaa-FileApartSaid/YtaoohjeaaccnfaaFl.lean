/- file: within, page, put. -/
import Derived.Test.YtaoohjeaaccnfaaFj
import Derived.Test.YtaoohjeaaccnfaaFe
namespace Go.SL
set_option linter.unusedVariables false
set_option linter.unusedSimpArgs false
open Go.RowKit
/-- A node that is held, and its row. -/
structure Hd where
  id : Nat
  n : Nd
  row : List Int
def Hd.l (h : Hd) : List Int := (h.id : Int) :: (h.n.l ++ h.row)
def Hd.fit (h : Hd) : Prop := h.n.dr.length = 16 ∧ h.row.length = 240
/-- The block of a file at i. -/
def Hd.page (h : Hd) (i : Nat) : Int := if i < 16 then h.n.dr.getD i 0 else h.row.getD (i - 16) 0
def Hd.put (h : Hd) (i : Nat) (b : Int) : Hd := if i < 16 then { h with n := { h.n with dr := h.n.dr.set i b } } else { h with row := h.row.set (i - 16) b }
theorem Hd.put_fit {h : Hd} (hf : h.fit) (i : Nat) (b : Int) : (h.put i b).fit := by
  unfold Hd.put; split
  · exact ⟨by simpa using hf.1, hf.2⟩
  · exact ⟨hf.1, by simpa using hf.2⟩
theorem Hd.l_length {h : Hd} (hf : h.fit) : h.l.length = 261 := by
  simp [Hd.l, Nd.cells hf.1, hf.2]
theorem Hd.l_dr {h : Hd} (hf : h.fit) {i : Nat} (hi : i < 16) : h.l.getD (4 + i) 0 = h.page i := by
  have e : h.l = (h.id : Int) :: h.n.kd :: h.n.lk :: h.n.sz :: (h.n.dr ++ ([h.n.rw] ++ h.row)) := by simp [Hd.l, Nd.l]
  unfold Hd.page
  rw [if_pos hi, e, Nat.add_comm 4 i]
  simp only [List.getD, List.getElem?_cons_succ]
  rw [List.getElem?_append_left (by rw [hf.1]; exact hi)]
theorem Hd.l_row {h : Hd} (hf : h.fit) {i : Nat} (hi : 16 ≤ i) : h.l.getD (21 + (i - 16)) 0 = h.page i := by
  have e : h.l = ((h.id : Int) :: h.n.l) ++ h.row := rfl
  unfold Hd.page
  rw [if_neg (by omega), e, List.getD, List.getD, List.getElem?_append_right (by simp [Nd.cells hf.1])]
  simp [Nd.cells hf.1]
theorem Hd.put_l {h : Hd} (hf : h.fit) {i : Nat} (b : Int) : (h.put i b).l = h.l.set (if i < 16 then 4 + i else 21 + (i - 16)) b := by
  unfold Hd.put
  split
  · rename_i hi
    have e : h.l = (h.id : Int) :: h.n.kd :: h.n.lk :: h.n.sz :: (h.n.dr ++ ([h.n.rw] ++ h.row)) := by simp [Hd.l, Nd.l]
    rw [e, Nat.add_comm 4 i]
    simp only [List.set_cons_succ]
    rw [List.set_append, if_pos (by rw [hf.1]; exact hi)]
    simp [Hd.l, Nd.l]
  · rename_i hi
    have e : h.l = ((h.id : Int) :: h.n.l) ++ h.row := rfl
    have hl : ((h.id : Int) :: h.n.l).length = 21 := by simp [Nd.cells hf.1]
    rw [e, List.set_append, hl, if_neg (by omega), show 21 + (i - 16) - 21 = i - 16 by omega]
    rfl
section
variable {σ : Type}
def wwithin (n : Nat) (l : List Int) : WM σ Unit := fun st => (if l.all (fun x => decide (x < n)) = true then .ok () else .bad 4, st)
end
end Go.SL
namespace Go.Proofs.Ytaoohjeaaccnfaa.Fs
set_option linter.unusedVariables false
set_option linter.unusedSimpArgs false
open Go.RowKit Go.SL Go.Proofs.Ytaoohjeaaccnfaa.Ba
def heldA (hb : Nat) (h : Hd) : Assn := fact h.fit * pt hb (.cells (ints h.l) 67 (0, 0))
theorem Sat.held {w : World} {hb : Nat} {h : Hd} {F : Assn} : Sat w (heldA hb h * F) ↔ h.fit ∧ Sat w (pt hb (.cells (ints h.l) 67 (0, 0)) * F) := by
  unfold heldA
  constructor
  · intro h1; exact Sat.fact_iff.1 (h1.to (star_assoc _ _ _))
  · intro h1; exact (Sat.fact_iff.2 h1).to (star_assoc _ _ _).symm
def WithRel (n : Nat) (l : List Int) (w : World) (u : Value) (wr : World) : Prop :=
  ∃ k : Nat, k ≤ l.length ∧ u = .int .i64 (k : Int) ∧ (∀ j, j < k → l.getD j 0 < n) ∧ w = wr
set_option maxRecDepth 100000 in
set_option maxHeartbeats 1000000 in
theorem wwithin_any (w : World) (k n : Nat) (v : Value) (l : List Int) (hl : l.length ≤ 1000) (hr : RdI w v l) (h1 : w.cell? ⟨k, 1, none⟩ = some (.int .i64 (n : Int)))
    (Q : Ending → World → Prop) (hY : l.all (fun x => decide (x < n)) = true → Q (.returned (.tuple #[])) w) (hN : l.all (fun x => decide (x < n)) = false → Q (.panicked (flt 4)) w) :
    Calls Try.prog 64 #[.pointer (some ⟨k, 0, none⟩), v] w Q := by
  have HY := SL.hid hY; have HN := SL.hid hN
  have hl' : (l.length : Int) ≤ 1000 := by omega
  have hat := fun j (hj : j < l.length) => hr.atF hj
  obtain ⟨va, vc, rfl⟩ := hr.shapeF
  clear hY hN hr
  obtain ⟨m, hm⟩ : ∃ m, l.length = m := ⟨_, rfl⟩
  rw [hm] at hl' hat ⊢
  have Hm := SL.hid hm
  clear hm hl
  go_enter Try.func64, Try.ntmps64
  go_wp2_with fail
  go_loopw [8] (fun u wr => WithRel n l w u wr) (fun u _ => m - (intOf u).toNat)
  case atStart => exact ⟨0, Nat.zero_le _, rfl, fun j hj => absurd hj (Nat.not_lt_zero _), rfl⟩
  case round =>
    obtain ⟨j, hj, rfl, hall, rfl⟩ := hrel
    rw [Hm.out] at hj
    by_cases hlt : j < m
    · have hlt' : (j : Int) < (m : Int) := by omega
      obtain ⟨g, o, c, e, hc⟩ := hat j hlt
      simp only [Value.slice.injEq] at e
      obtain ⟨rfl, -, rfl⟩ := e
      have hmem : l.getD j 0 ∈ l := by rw [List.getD, List.getElem?_eq_getElem (by rw [Hm.out]; exact hlt)]; exact List.getElem_mem _
      clear hat
      by_cases hx : l.getD j 0 < n
      · have hnx : ∀ i, i < j + 1 → l.getD i 0 < n := fun i hi => by
          rcases Nat.lt_or_eq_of_le (Nat.le_of_lt_succ hi) with h9 | h9
          · exact hall i h9
          · rw [h9]; exact hx
        have Hnx := SL.hid hnx
        have hx2 : ¬ ((n : Int) ≤ l.getD j 0) := by omega
        clear hall hnx hmem
        generalize l.getD j 0 = x at *
        go_wp2_with fail
        go_roundw
        case rel => exact ⟨j + 1, by rw [Hm.out]; omega, by go_num, Hnx.out, rfl⟩
        case measure => simp [intOf]; omega
      · have hx2 : (n : Int) ≤ l.getD j 0 := by omega
        have hno : l.all (fun x => decide (x < n)) = false := by
          rw [Bool.eq_false_iff]; intro h9
          exact hx (by simpa using List.all_eq_true.1 h9 _ hmem)
        have Hq := SL.hid (HN.out hno)
        clear hall hno hmem
        generalize l.getD j 0 = x at *
        go_wp2_with fail
        (with_reducible refine (check_bad _ 4 (by decide)).mono ?_)
        rintro e w2 ⟨rfl, rfl⟩
        go_wp2_with fail
        exact ⟨rfl, Hq.out⟩
    · obtain rfl : j = m := by omega
      have hyes : l.all (fun x => decide (x < n)) = true := by
        rw [List.all_eq_true]; intro x hx
        obtain ⟨i, hi, rfl⟩ := List.getElem_of_mem hx
        have := hall i (by rw [← Hm.out]; exact hi)
        rw [List.getD, List.getElem?_eq_getElem hi] at this
        simpa using this
      have Hq := SL.hid (HY.out hyes)
      clear hall hyes hat
      go_wp2_with fail
      go_end0
      exact Hq.out
def IntQ (z : Int) (w : World) (e : Ending) (w' : World) : Prop := e = .returned (.int .i64 z) ∧ w = w'
set_option maxRecDepth 100000 in
theorem page_any (w : World) (hb : Nat) (h : Hd) (F : Assn) (hs : Sat w (heldA hb h * F)) (i : Nat) (hi : i < 256) :
    Calls Try.prog 36 #[.pointer (some ⟨hb, 0, none⟩), .int .i64 (i : Int)] w (IntQ (h.page i) w) := by
  obtain ⟨hf, h2⟩ := Sat.held.1 hs
  have hcell : ∀ j, j < 261 → w.cell? ⟨hb, j, none⟩ = some (.int .i64 (h.l.getD j 0)) := fun j hj => by
    rw [h2.cell, get_ints_lt (by rw [Hd.l_length hf]; exact hj)]
  by_cases h16 : i < 16
  · have hc := hcell (4 + i) (by omega)
    rw [Hd.l_dr hf h16] at hc
    have hi' : (i : Int) < 16 := by omega
    generalize h.page i = x at *
    clear hcell h2 hs
    go_enter Try.func36, Try.ntmps36
    go_wp2_with fail
    go_ret
    exact ⟨rfl, rfl⟩
  · have hc := hcell (21 + (i - 16)) (by omega)
    rw [Hd.l_row hf (by omega)] at hc
    have hi' : ¬ (i : Int) < 16 := by omega
    have hi2 : (i : Int) - 16 = ((i - 16 : Nat) : Int) := by omega
    have hi3 : ((i - 16 : Nat) : Int) < 240 := by omega
    generalize h.page i = x at *
    generalize hj : i - 16 = j at *
    clear hcell h2 hs
    go_enter Try.func36, Try.ntmps36
    go_wp2_with fail
    go_ret
    exact ⟨rfl, rfl⟩
def PutHQ (hb : Nat) (h : Hd) (F : Assn) (w : World) (e : Ending) (w' : World) : Prop := e = .returned (.tuple #[]) ∧ Sat w' (heldA hb h * F) ∧ Side w w'
set_option maxRecDepth 100000 in
theorem puth_any (w : World) (hb : Nat) (h : Hd) (F : Assn) (hs : Sat w (heldA hb h * F)) (i : Nat) (hi : i < 256) (b : Int) :
    Calls Try.prog 41 #[.pointer (some ⟨hb, 0, none⟩), .int .i64 (i : Int), .int .i64 b] w (PutHQ hb (h.put i b) F w) := by
  obtain ⟨hf, h2⟩ := Sat.held.1 hs
  have hcell : ∀ j, j < 261 → w.cell? ⟨hb, j, none⟩ = some (.int .i64 (h.l.getD j 0)) := fun j hj => by
    rw [h2.cell, get_ints_lt (by rw [Hd.l_length hf]; exact hj)]
  have hset : ∀ j, Sat (w.setCell ⟨hb, j, none⟩ (.int .i64 b)) (pt hb (.cells (ints (h.l.set j b)) 67 (0, 0)) * F) := fun j => by
    have := h2.setCell j (.int .i64 b)
    rwa [set_ints] at this
  have hpl := Hd.put_l hf (i := i) b
  have hpf := Hd.put_fit hf i b
  by_cases h16 : i < 16
  · have hc := hcell (4 + i) (by omega)
    have hz := h2.frozen (4 + i)
    rw [if_pos h16] at hpl
    have hst : Sat (w.setCell ⟨hb, 4 + i, none⟩ (.int .i64 b)) (heldA hb (h.put i b) * F) := Sat.held.2 ⟨hpf, by rw [hpl]; exact hset (4 + i)⟩
    have Hst := SL.hid hst
    have hi' : (i : Int) < 16 := by omega
    generalize h.l.getD (4 + i) 0 = x at *
    clear hcell h2 hs hset hpl hpf hst
    go_enter Try.func41, Try.ntmps41
    go_wp2_with fail
    go_end0
    exact ⟨rfl, Hst.out, (Side.refl w).setCell _ _⟩
  · have hc := hcell (21 + (i - 16)) (by omega)
    have hz := h2.frozen (21 + (i - 16))
    rw [if_neg h16] at hpl
    have hst : Sat (w.setCell ⟨hb, 21 + (i - 16), none⟩ (.int .i64 b)) (heldA hb (h.put i b) * F) := Sat.held.2 ⟨hpf, by rw [hpl]; exact hset _⟩
    have Hst := SL.hid hst
    have hi' : ¬ (i : Int) < 16 := by omega
    have hi2 : (i : Int) - 16 = ((i - 16 : Nat) : Int) := by omega
    have hi3 : ((i - 16 : Nat) : Int) < 240 := by omega
    generalize h.l.getD (21 + (i - 16)) 0 = x at *
    clear hcell h2 hs hset hpl hpf hst
    generalize hj : i - 16 = j at *
    go_enter Try.func41, Try.ntmps41
    go_wp2_with fail
    go_end0
    exact ⟨rfl, Hst.out, (Side.refl w).setCell _ _⟩
end Go.Proofs.Ytaoohjeaaccnfaa.Fs

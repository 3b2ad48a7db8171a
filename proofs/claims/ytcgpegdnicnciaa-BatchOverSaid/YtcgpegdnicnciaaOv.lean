/- BatchOver: the plain part: what is told, rows that are written over, a row of truths. -/
import Derived.Test.YtcgpegdnicnciaaFm
import Derived.Laws.CopyRow
namespace Go.Proofs.Ytcgpegdnicnciaa
set_option linter.unusedVariables false
set_option linter.unusedSimpArgs false
open Go.RowKit Go.SL
def bools (l : List Bool) : Array Value := (l.map Value.bool).toArray
theorem get_bools (l : List Bool) (i : Nat) : (bools l)[i]? = l[i]?.map Value.bool := by simp [bools]
theorem set_bools (l : List Bool) (i : Nat) (x : Bool) : (bools l).setIfInBounds i (.bool x) = bools (l.set i x) := by simp [bools, List.map_set]
def eight : List Bool := [false, false, false, false, false, false, false, false]
theorem make_bools8 (w : World) : (Instr.makeSlice 46 (.int .i64 8) (.int .i64 8)).run Try.prog w = .ok (.slice (some ⟨w.heap.size, 0, none⟩) 8 8) (w.alloc (.cells (bools eight) 4 (0, 0))) := by kernel_rfl
/-- What was told: each block that was read, as it was. -/
def Told (D : CB) (B : List Bool) : Prop := B.length = 8 ∧ ∀ k : Nat, k < 8 → kget D (k : Int) = if B.getD k false then some (blk (1000 + (k : Int))) else none
theorem told0 : Told [] eight := ⟨rfl, fun k hk => by
  match k, hk with
  | 0, _ | 1, _ | 2, _ | 3, _ | 4, _ | 5, _ | 6, _ | 7, _ => rfl⟩
theorem Told.ans {D : CB} {B : List Bool} {gs : List (Nat × List UInt8)} (h : Told D B) (hg : gs.map Prod.snd = rowBlks 8) {k : Nat} (hk : k < 8) : rdA 0 [] D gs (k : Int) = (0, blk (1000 + (k : Int))) := by
  have ha := rowAns_yes (id := (k : Int)) hg (by omega) (by omega)
  have h1 := h.2 k hk
  have hn : kget ([] : CB) (k : Int) = none := rfl
  by_cases hb : B.getD k false = true
  · rw [if_pos hb] at h1; simp only [rdA, hn, h1, if_true]
  · rw [if_neg hb] at h1; simp only [rdA, hn, h1, if_true]; exact ha
theorem Told.read {D : CB} {B : List Bool} {gs : List (Nat × List UInt8)} (h : Told D B) (hg : gs.map Prod.snd = rowBlks 8) {a : Nat} (ha : a < 8) : Told (rdD 0 [] D gs (a : Int)) (B.set a true) := by
  have hr := rowAns_yes (id := (a : Int)) hg (by omega) (by omega)
  have hn : kget ([] : CB) (a : Int) = none := rfl
  refine ⟨by simp [h.1], fun k hk => ?_⟩
  have hl := h.1
  have h1 := h.2 a ha
  have h2 := h.2 k hk
  by_cases hka : k = a
  · subst hka
    have hs : (B.set k true).getD k false = true := by simp [List.getD, hl, hk]
    rw [if_pos hs]
    by_cases hb : B.getD k false = true
    · rw [if_pos hb] at h1
      rw [rdD, if_neg (by rw [h1]; simp)]; exact h1
    · rw [if_neg hb] at h1
      rw [rdD, if_pos ⟨rfl, hn, h1, by rw [hr]⟩, kget_upd, if_pos rfl, hr]
  · have hs : (B.set a true).getD k false = B.getD k false := by simp [List.getD, List.getElem?_set, Ne.symm hka]
    rw [hs, ← h2, rdD]
    split
    · rw [kget_upd, if_neg (by omega)]
    · rfl
/-- Rows, of which the first k are written over. -/
def overN (gs : List (Nat × List UInt8)) (k : Nat) : List (Nat × List UInt8) := (gs.take k).map (fun p => (p.1, blk 7)) ++ gs.drop k
theorem overN_zero (gs : List (Nat × List UInt8)) : overN gs 0 = gs := by simp [overN]
theorem overN_length (gs : List (Nat × List UInt8)) (k : Nat) : (overN gs k).length = gs.length := by simp [overN]; omega
theorem rowsA_mid (T : TypeId) (p : Nat × List UInt8) : ∀ (xs ys : List (Nat × List UInt8)), rowsA T (xs ++ p :: ys) = pt p.1 (.cells (u8s p.2) T (0, 0)) * rowsA T (xs ++ ys)
  | [], ys => rfl
  | x :: xs, ys => by
    show pt x.1 _ * rowsA T (xs ++ p :: ys) = _ * (pt x.1 _ * rowsA T (xs ++ ys))
    rw [rowsA_mid T p xs ys]; exact star_left_comm _ _ _
theorem overN_split (gs : List (Nat × List UInt8)) (k : Nat) (hk : k < gs.length) : overN gs k = (gs.take k).map (fun p => (p.1, blk 7)) ++ gs[k] :: gs.drop (k + 1) ∧
    overN gs (k + 1) = (gs.take k).map (fun p => (p.1, blk 7)) ++ (gs[k].1, blk 7) :: gs.drop (k + 1) := by
  constructor
  · rw [overN, List.drop_eq_getElem_cons hk]
  · rw [overN, List.take_succ_eq_append_getElem hk]; simp only [List.map_append, List.map_cons, List.map_nil, List.append_assoc, List.cons_append, List.nil_append]
theorem overN_vals (gs : List (Nat × List UInt8)) (k : Nat) (h : ∀ p ∈ gs, p.2.length = 480) : rowVals (overN gs k) = rowVals gs := by
  conv => rhs; rw [← List.take_append_drop k gs]
  rw [overN, rowVals, rowVals, List.map_append, List.map_append, List.map_map]
  congr 1
  refine List.map_congr_left fun p hp => ?_
  have := h p (List.mem_of_mem_take hp)
  simp [blk_len, this]
theorem overN_ans (gs : List (Nat × List UInt8)) {k : Nat} (hl : gs.length = 8) (hk : k < 8) : rowAns (overN gs 8) (k : Int) = (0, blk 7) := by
  have e : overN gs 8 = gs.map fun p => (p.1, blk 7) := by rw [overN, List.take_of_length_le (by omega), List.drop_of_length_le (by omega), List.append_nil]
  rw [e, rowAns, if_pos (by omega)]
  simp [List.getElem?_eq_getElem (show k < gs.length by omega)]
/-- What is told behind: what was read as it was, all else as it is. -/
def Told2 (D : CB) (B : List Bool) : Prop := ∀ k : Nat, k < 8 → if B.getD k false then kget D (k : Int) = some (blk (1000 + (k : Int))) else (kget D (k : Int) = none ∨ kget D (k : Int) = some (blk 7))
theorem Told.two {D : CB} {B : List Bool} (h : Told D B) : Told2 D B := fun k hk => by
  have := h.2 k hk
  split
  · rename_i hb; rwa [if_pos hb] at this
  · rename_i hb; rw [if_neg hb] at this; exact .inl this
def wantOf (B : List Bool) (k : Nat) : List UInt8 := if B.getD k false then blk (1000 + (k : Int)) else blk 7
theorem Told2.ans {D : CB} {B : List Bool} {gs : List (Nat × List UInt8)} (h : Told2 D B) (hl : gs.length = 8) {k : Nat} (hk : k < 8) : rdA 0 [] D (overN gs 8) (k : Int) = (0, wantOf B k) := by
  have ha := overN_ans gs hl hk
  have h1 := h k hk
  have hn : kget ([] : CB) (k : Int) = none := rfl
  unfold wantOf
  split
  · rename_i hb; rw [if_pos hb] at h1; simp only [rdA, hn, h1, if_true]
  · rename_i hb; rw [if_neg hb] at h1
    rcases h1 with h1 | h1
    · simp only [rdA, hn, h1, if_true]; exact ha
    · simp only [rdA, hn, h1, if_true]
theorem Told2.read {D : CB} {B : List Bool} {gs : List (Nat × List UInt8)} (h : Told2 D B) (hl : gs.length = 8) {a : Nat} (ha : a < 8) : Told2 (rdD 0 [] D (overN gs 8) (a : Int)) B := by
  intro k hk
  have hr := overN_ans gs hl ha
  have h1 := h k hk
  unfold rdD
  by_cases hc : (0 : Int) = 0 ∧ kget ([] : CB) (a : Int) = none ∧ kget D (a : Int) = none ∧ (rowAns (overN gs 8) (a : Int)).1 = 0
  · rw [if_pos hc, kget_upd, hr]
    by_cases e : (k : Int) = (a : Int)
    · rw [if_pos e]
      by_cases hb : B.getD k false = true
      · rw [if_pos hb] at h1; rw [e, hc.2.2.1] at h1; cases h1
      · rw [if_neg hb]; exact .inr rfl
    · rw [if_neg e]; exact h1
  · rw [if_neg hc]; exact h1
end Go.Proofs.Ytcgpegdnicnciaa

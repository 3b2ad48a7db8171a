/- slices.Sort of ints, said by assertions: out of the shelf's contract. -/
import Derived.Test.YtcgpegdnicnciaaSh
import Derived.Test.YtcgpegdnicnciaaOp
namespace Go.Proofs.Ytcgpegdnicnciaa
set_option linter.unusedVariables false
set_option linter.unusedSimpArgs false
open Go.RowKit Go.SL Go.Sort
def i64v (l : List Int) : List Value := l.map (Value.int .i64)
/-- Sorted. -/
def sorted (l : List Int) : List Int := l.mergeSort fun x y => decide (x ≤ y)
theorem sorted_length (l : List Int) : (sorted l).length = l.length := List.length_mergeSort ..
theorem sorted_perm (l : List Int) : (sorted l).Perm l := List.mergeSort_perm ..
theorem putCells_front (d : List Int) (c : Array Value) (h : d.length ≤ c.size) :
    putCells (Value.int .i64) 0 d.toArray c = (i64v d ++ c.toList.drop d.length).toArray := by
  apply Array.ext_getElem?
  intro k
  simp only [putCells, Array.getElem?_mapIdx, i64v, List.getElem?_toArray, List.getElem?_append, List.length_map, List.getElem?_map, List.getElem?_drop, List.size_toArray]
  by_cases hk : k < d.length
  · rw [if_pos hk, Array.getElem?_eq_getElem (by omega), List.getElem?_eq_getElem hk]
    simp [hk]
  · rw [if_neg hk, show d.length + (k - d.length) = k by omega]
    cases hc : c[k]? with
    | none => simp [← Array.getElem?_toList] at hc ⊢; omega
    | some x =>
      simp only [Option.map_some]
      rw [if_neg (by omega), ← hc]; simp
theorem Sat.putRow {w : World} {b : Nat} {c : Array Value} {T : TypeId} {fr : Nat × Nat} {Fr : Assn} (h : Sat w (pt b (.cells c T fr) * Fr)) (d : List Int) (n : Nat) (os : Array Obj) (hd : d.length ≤ c.size) :
    Sat (grow (putRow (Value.int .i64) (Go.Sort.ahead w n) b 0 d.toArray) os) (pt b (.cells (i64v d ++ c.toList.drop d.length).toArray T fr) * Fr) ∧ Side w (grow (putRow (Value.int .i64) (Go.Sort.ahead w n) b 0 d.toArray) os) := by
  have hb := h.lt
  have hh : ∀ k, k < w.heap.size → (grow (Go.Sort.putRow (Value.int .i64) (Go.Sort.ahead w n) b 0 d.toArray) os).heap[k]? = (Go.Sort.putRow (Value.int .i64) (Go.Sort.ahead w n) b 0 d.toArray).heap[k]? := fun k hk => by
    rw [show (grow (Go.Sort.putRow (Value.int .i64) (Go.Sort.ahead w n) b 0 d.toArray) os).heap = (Go.Sort.putRow (Value.int .i64) (Go.Sort.ahead w n) b 0 d.toArray).heap ++ os from rfl]
    exact Array.getElem?_append_left (by rw [size_putRow]; exact hk)
  have h1 : Sat (Go.Sort.putRow (Value.int .i64) (Go.Sort.ahead w n) b 0 d.toArray) (pt b (.cells (i64v d ++ c.toList.drop d.length).toArray T fr) * Fr) := by
    refine h.upd ?_ fun k hk => ?_
    · show (w.heap.modify b _)[b]? = _
      rw [Array.getElem?_modify, if_pos rfl, h.heap, ← putCells_front d c hd]
      rfl
    · show (w.heap.modify b _)[k]? = _
      rw [Array.getElem?_modify, if_neg (fun e => hk e.symm)]
  refine ⟨h1.carry fun k o hk => ?_, ⟨rfl, rfl, rfl, by rw [size_grow, size_putRow]; exact Nat.le_add_right _ _⟩⟩
  have := (Array.getElem?_eq_some_iff.1 hk).1
  rw [size_putRow] at this
  rw [hh k this]; exact hk
/-- slices.Sort. -/
theorem sort_any (v : Value) (zs : List Int) (w : World) (Fr : Assn) (h : Sat w (sl 3 1 v zs.length (i64v zs) * Fr)) (hsz : zs.length < 4611686018427387904) :
    Calls Try.prog 32 #[v] w fun e w' => e = .returned (.tuple #[]) ∧ Sat w' (sl 3 1 v zs.length (i64v (sorted zs)) * Fr) ∧ Side w w' := by
  rcases h.slCases with ⟨rfl, hn, hz, hF⟩ | ⟨g, cap, cur, rfl, h3, h4, h5, h6, hF⟩
  · obtain rfl : zs = [] := List.eq_nil_of_length_eq_zero hn
    refine (Try.slices_Sort_int_none _ _ _).mono ?_
    rintro e w' ⟨rfl, rfl⟩
    exact ⟨rfl, by simpa [sorted] using h, Side.refl _⟩
  · have hc : ∀ j, j < zs.length → cur[j]? = some (.int .i64 zs[j]!) := fun j hj => by
      have e := congrArg (·[j]?) h6
      simp only [i64v, List.getElem?_take, Nat.mul_one, hj, if_true, List.getElem?_map, Array.getElem?_toList] at e
      rw [e, List.getElem?_eq_getElem hj]; simp [hj]
    refine (Try.slices_Sort_int g 0 cap zs w (fun j hj => ?_) hF.lt hsz).mono ?_
    · have hj' : j < zs.length := by simpa using hj
      refine ⟨?_, hF.frozen _⟩
      rw [hF.cell, Nat.zero_add, hc j hj']; simp
    · rintro e w' ⟨rfl, n, os, rfl⟩
      obtain ⟨H, hs⟩ := Sat.putRow hF (sorted zs) n os (by rw [sorted_length, h5]; omega)
      refine ⟨rfl, ?_, hs⟩
      have := Sat.slOf (sz := 1) (n := zs.length) (cap := cap) H h3 h4 (by
        simp only [List.size_toArray, List.length_append, i64v, List.length_map, sorted_length, List.length_drop, Array.length_toList, h5]; omega)
      refine this.to ?_
      congr 2
      rw [Nat.mul_one]
      exact List.take_left' (by rw [i64v, List.length_map, sorted_length])
end Go.Proofs.Ytcgpegdnicnciaa

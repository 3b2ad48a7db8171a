/- Steps towards the statement StoreC. -/
import Derived.Test.YtdafdidmbeecfaaGreatDoorStoreCP42
import Derived.SizedLaws
section
namespace Go.Proofs.YtdafdidmbeecfaaGreatDoor
set_option linter.unusedVariables false
set_option linter.unusedSimpArgs false
open Go.RowKit Go.SL Go.ChangeShapes Go.WideShapes Go.ChangeAt
section
variable {H : Type} {enc : TypeId × Value → H} {w : World}
theorem weightsAll_mem {P : Program} {e : TypeId} {d : DataW H} {n : Nat} (hn : n ∈ d.weights P e) : ∀ {l : List (DataW H)}, d ∈ l → n ∈ DataW.weightsAll P e l := by
 intro l
 induction l with
 | nil => intro h; cases h
 | cons x l ih =>
  intro h
  simp only [DataW.weightsAll, List.mem_append]
  rcases List.mem_cons.1 h with rfl | h
  ·exact .inl hn
  ·exact .inr (ih h)
theorem ints_of2 {fuel : Nat} {cs : List Value} {x : DataW H × List MemPlace} (hf : DataW.trod enc Tryz.prog w 0 (fun _ => true) true fuel 45 cs = some x) (hw : ∀ n ∈ x.1.weights Tryz.prog 45, n ≤ reachBytes) :
  ∃ a len cap zs, cs = [.slice a len cap] ∧ IsInts w a len cap zs ∧ len ≤ 17592186044416 := by
 rcases open_ints Tryz.underlying45 Tryz.underlying3 (by kernel_rfl) hf with ⟨hcs, _⟩ | ⟨x, l, c, zs, hcs, _, hl, hm, hz, hx, hcell, hwz⟩
 ·exact ⟨none, 0, 0, [], hcs, .inl ⟨rfl, rfl, rfl, rfl⟩, by decide⟩
 ·have hz' : zs.length = c := by simpa using hz
  refine ⟨some x, l, c, zs, hcs, .inr ⟨_, rfl, hl, hm, hz', hcell, hwz⟩, ?_⟩
  have hb : Tryz.prog.bytesOf 3 = 8 := by kernel_rfl
  have := hw (((lits .i64 (zs.take l) : List (DataW H)).length + (lits .i64 (zs.drop l) : List (DataW H)).length) * Tryz.prog.bytesOf 3) (by
   rw [hx]
   simp only [DataW.weights, Tryz.underlying45]
   exact List.mem_cons_self)
  rw [hb] at this
  have e1 : (lits .i64 (zs.take l) : List (DataW H)).length = l := by simp [lits]; omega
  have e2 : (lits .i64 (zs.drop l) : List (DataW H)).length = c - l := by simp [lits]; omega
  rw [e1, e2] at this
  have hr : reachBytes ≤ 140737488355328 := by decide
  omega
end
end Go.Proofs.YtdafdidmbeecfaaGreatDoor
end

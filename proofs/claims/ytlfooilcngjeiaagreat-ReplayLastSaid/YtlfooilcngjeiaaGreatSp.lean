/- The sort of uint32: cells, Less, the small walks. The plain functions are the library's (Derived.Sort). -/
import Derived.Test.YtlfooilcngjeiaaGreatQf
import Derived.Sort.AssemblyPlain
import Derived.Deep.QuietTactic
import Derived.BigQuiet
import Derived.IntWalk
namespace Go.Proofs.YtlfooilcngjeiaaGreat
set_option linter.unusedVariables false
set_option linter.unusedSimpArgs false
open Go.RowKit Go.SL Go.Sort
/-- A row of uint32, and what lies behind it. -/
def uA (g : Nat) (d : Array Int) (tl : List Value) : Assn := pt g (.cells (d.toList.map (Value.int .u32) ++ tl).toArray 31 (0, 0))
section
variable {w : World} {g : Nat} {d : Array Int} {tl : List Value} {F : Assn}
theorem uA_cell (h : Sat w (uA g d tl * F)) {k : Nat} (hk : k < d.size) : w.cell? ⟨g, k, none⟩ = some (.int .u32 d[k]!) := by
  have := Sat.cell (show Sat w (pt g (.cells (d.toList.map (Value.int .u32) ++ tl).toArray 31 (0, 0)) * F) from h) k
  rw [this]
  have h1 : k < (d.toList.map (Value.int .u32)).length := by simpa using hk
  rw [List.getElem?_toArray, List.getElem?_append_left h1, List.getElem?_map]
  simp [hk]
theorem uA_frozen (h : Sat w (uA g d tl * F)) (k : Nat) : w.frozen? ⟨g, k, none⟩ = false :=
  Sat.frozen (show Sat w (pt g (.cells (d.toList.map (Value.int .u32) ++ tl).toArray 31 (0, 0)) * F) from h) k
theorem uA_set (h : Sat w (uA g d tl * F)) {k : Nat} (hk : k < d.size) (x : Int) : Sat (w.setCell ⟨g, k, none⟩ (.int .u32 x)) (uA g (d.setIfInBounds k x) tl * F) := by
  have := Sat.setCell (show Sat w (pt g (.cells (d.toList.map (Value.int .u32) ++ tl).toArray 31 (0, 0)) * F) from h) k (.int .u32 x)
  refine this.to ?_
  unfold uA
  congr 3
  have h1 : k < (d.toList.map (Value.int .u32)).length := by simpa using hk
  rw [List.setIfInBounds_toArray, List.set_append_left _ _ h1, Array.toList_setIfInBounds, List.map_set]
/-- What a swap leaves. -/
theorem uA_swp (h : Sat w (uA g d tl * F)) {i j : Nat} (hi : i < d.size) (hj : j < d.size) :
    w.cell? ⟨g, i, none⟩ = some (.int .u32 d[i]!) ∧ w.cell? ⟨g, j, none⟩ = some (.int .u32 d[j]!) ∧ w.frozen? ⟨g, i, none⟩ = false ∧ w.frozen? ⟨g, j, none⟩ = false ∧
    (∃ v, (w.setCell ⟨g, i, none⟩ (.int .u32 d[j]!)).cell? ⟨g, j, none⟩ = some v) ∧ (w.setCell ⟨g, i, none⟩ (.int .u32 d[j]!)).frozen? ⟨g, j, none⟩ = false ∧
    Sat ((w.setCell ⟨g, i, none⟩ (.int .u32 d[j]!)).setCell ⟨g, j, none⟩ (.int .u32 d[i]!)) (uA g (swp d i j) tl * F) := by
  have h1 := uA_set h hi d[j]!
  have h2 := uA_set h1 (k := j) (by simpa using hj) d[i]!
  exact ⟨uA_cell h hi, uA_cell h hj, uA_frozen h i, uA_frozen h j, ⟨_, uA_cell h1 (by simpa using hj)⟩, uA_frozen h1 j, h2⟩
end
def ArrQ (g : Nat) (d : Array Int) (tl : List Value) (F : Assn) (w : World) (e : Ending) (w' : World) : Prop := e = .returned (.tuple #[]) ∧ Sat w' (uA g d tl * F) ∧ Side w w'
theorem isNaN_any (x : Int) (w : World) : Calls Tryz.prog 112 #[.int .u32 x] w fun e w' => e = .returned (.bool false) ∧ w' = w := by
  go_enter Tryz.func112, Tryz.ntmps112
  go_wp2
  go_ret
  exact ⟨by simp, rfl⟩
theorem less_any (x y : Int) (w : World) : Calls Tryz.prog 102 #[.int .u32 x, .int .u32 y] w fun e w' => e = .returned (.bool (ltInt x y)) ∧ w' = w := by
  go_enter Tryz.func102, Tryz.ntmps102
  go_wp2_with (refine (isNaN_any _ _).mono ?_; rintro e w1 ⟨rfl, rfl⟩)
  go_ret
  exact ⟨rfl, rfl⟩
end Go.Proofs.YtlfooilcngjeiaaGreat

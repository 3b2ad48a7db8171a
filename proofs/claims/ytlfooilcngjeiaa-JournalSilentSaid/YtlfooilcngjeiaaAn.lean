/- An answer: bytes, or an error. -/
import Derived.Test.YtlfooilcngjeiaaBp
namespace Go.SL
set_option linter.unusedVariables false
set_option linter.unusedSimpArgs false
open Go.RowKit
/-- What a reader answers: a number, and bytes where it is 0. -/
def ansA (T : TypeId) (A : Int × List UInt8) (dv : Value) : Assn := fun h => (A.1 = 0 ∧ bs T dv A.2 h) ∨ (A.1 ≠ 0 ∧ dv = .slice none 0 0 ∧ h = fun _ => none)
theorem Sat.ansSlice {w : World} {T : TypeId} {A : Int × List UInt8} {dv : Value} {F : Assn} (h : Sat w (ansA T A dv * F)) : ∃ a k c, dv = .slice a k c := by
  obtain ⟨m, _, h1, h2, p, _, _, _⟩ := h
  rcases p with ⟨_, p⟩ | ⟨_, rfl, _⟩
  · rcases p with ⟨rfl, _⟩ | ⟨g, cap, cur, rfl, _⟩
    · exact ⟨_, _, _, rfl⟩
    · exact ⟨_, _, _, rfl⟩
  · exact ⟨_, _, _, rfl⟩
theorem Sat.ansYes {w : World} {T : TypeId} {l : List UInt8} {dv : Value} {F : Assn} (h : Sat w (ansA T (0, l) dv * F)) : Sat w (bs T dv l * F) :=
  h.weak fun _ hk => by rcases hk with ⟨_, h⟩ | ⟨h, _⟩; exact h; exact absurd rfl h
theorem Sat.ansOf {w : World} {T : TypeId} {l : List UInt8} {dv : Value} {F : Assn} (h : Sat w (bs T dv l * F)) : Sat w (ansA T (0, l) dv * F) := h.weak fun _ hk => .inl ⟨rfl, hk⟩
theorem Sat.ansNo {w : World} {T : TypeId} {A : Int × List UInt8} {dv : Value} {F : Assn} (h : Sat w (ansA T A dv * F)) (hA : A.1 ≠ 0) : dv = .slice none 0 0 ∧ Sat w F := by
  refine ⟨?_, h.right⟩
  obtain ⟨m, _, h1, h2, p, _, _, _⟩ := h
  rcases p with ⟨e, _⟩ | ⟨_, e, _⟩
  · exact absurd e hA
  · exact e
theorem Sat.ansNil {w : World} {T : TypeId} {A : Int × List UInt8} {F : Assn} (h : Sat w F) (hA : A.1 ≠ 0) : Sat w (ansA T A (.slice none 0 0) * F) :=
  (h.to (emp_star F).symm).weak fun _ hk => .inr ⟨hA, rfl, hk⟩
theorem Sat.bsRd {w : World} {T : TypeId} {l : List UInt8} {dv : Value} {F : Assn} (h : Sat w (bs T dv l * F)) : Rd w dv l := Sat.rds h
end Go.SL

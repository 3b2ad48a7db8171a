/- A pool of blocks that nobody writes any more. An answer: bytes, or an error. -/
import Derived.Test.YtlfooilcngjeiaaGreatMp
namespace Go.SL
set_option linter.unusedVariables false
set_option linter.unusedSimpArgs false
open Go.RowKit
/-- Blocks that stay as they are. -/
def pool (S : Hp) : Assn := fun h => h = S
def Ext (S S' : Hp) : Prop := ∀ k x, S k = some x → S' k = some x
theorem Ext.refl (S : Hp) : Ext S S := fun _ _ h => h
theorem Ext.trans {a b c : Hp} (h : Ext a b) (k : Ext b c) : Ext a c := fun i x hx => k i x (h i x hx)
theorem ext_join (S : Hp) (g : Nat) (o : Obj) : Ext S (join S (one g o)) := fun k x h => by simp [join, h]
section
variable {w : World} {S S' F : Assn} {g : Nat} {o : Obj}
theorem Sat.poolGet {S : Hp} (h : Sat w (pool S * F)) (hg : S g = some o) : w.heap[g]? = some o := by
  obtain ⟨m, a, rfl⟩ := h.left
  exact a g o hg
theorem Sat.poolAdd {S : Hp} (h : Sat w (pool S * (pt g o * F))) : Sat w (pool (join S (one g o)) * F) ∧ join S (one g o) g = some o := by
  obtain ⟨m, a, h1, h2, rfl, ⟨h3, h4, rfl, f, d', rfl⟩, d, rfl⟩ := h
  obtain ⟨d1, d2⟩ := apart_join_right.1 d
  refine ⟨⟨join (join h1 (one g o)) h4, ?_, join h1 (one g o), h4, rfl, f, apart_join_left.2 ⟨d2, d'⟩, rfl⟩, ?_⟩
  · rw [join_assoc]; exact a
  · rcases d1 g with e | e
    · simp [join, one, e]
    · simp [one] at e
theorem Sat.poolEmp (h : Sat w F) : Sat w (pool (fun _ => none) * F) := h.to (emp_star F).symm
end
/-- not too long -/
def small (l : List UInt8) : Prop := l.length ≤ 1000000
/-- A slice of bytes that lie in the pool. -/
def Val (T : TypeId) (S : Hp) (v : Value) (l : List UInt8) : Prop := small l ∧ ((v = .slice none 0 0 ∧ l = []) ∨
  ∃ g cap cur, v = .slice (some ⟨g, 0, none⟩) l.length cap ∧ S g = some (.cells cur T (0, 0)) ∧ cur.toList.take l.length = l.map u8)
theorem Val.mono {T : TypeId} {S S' : Hp} {v : Value} {l : List UInt8} (h : Val T S v l) (e : Ext S S') : Val T S' v l := by
  refine ⟨h.1, ?_⟩
  rcases h.2 with h | ⟨g, cap, cur, h1, h2, h3⟩
  · exact .inl h
  · exact .inr ⟨g, cap, cur, h1, e _ _ h2, h3⟩
theorem At_of_take {w : World} {g n : Nat} {cur : Array Value} {T : TypeId} {fr : Nat × Nat} (h : w.heap[g]? = some (.cells cur T fr)) : At w ⟨g, 0, none⟩ (cur.toList.take n) := by
  intro j u hu
  rw [Addr.add_lit, Nat.zero_add]
  rw [List.getElem?_take] at hu
  split at hu
  · simp only [World.cell?, h]; simpa using hu
  · cases hu
theorem Val.rd {T : TypeId} {S : Hp} {v : Value} {l : List UInt8} {w : World} {F : Assn} (h : Val T S v l) (s : Sat w (pool S * F)) : Rd w v l := by
  refine ⟨by simp, ?_⟩
  rcases h.2 with ⟨rfl, rfl⟩ | ⟨g, cap, cur, rfl, h2, h3⟩
  · exact .inl ⟨rfl, rfl⟩
  · exact .inr ⟨_, _, rfl, h3 ▸ At_of_take (s.poolGet h2)⟩
/-- Bytes of one's own go into the pool. -/
theorem Sat.poolBs {w : World} {S : Hp} {F : Assn} {T : TypeId} {v : Value} {l : List UInt8} (h : Sat w (pool S * (bs T v l * F))) (hl : small l) :
    ∃ S', Ext S S' ∧ Val T S' v l ∧ Sat w (pool S' * F) := by
  rcases (h.to (star_left_comm _ _ _)).slCases with ⟨rfl, h1, _, hs⟩ | ⟨g, cap, cur, rfl, h3, h4, h5, h6, hs⟩
  · exact ⟨S, Ext.refl S, ⟨hl, .inl ⟨rfl, List.eq_nil_of_length_eq_zero h1⟩⟩, hs⟩
  · obtain ⟨h7, h8⟩ := (hs.to (star_left_comm _ _ _)).poolAdd
    exact ⟨_, ext_join _ _ _, ⟨hl, .inr ⟨g, cap, cur, rfl, h8, by simpa using h6⟩⟩, h7⟩
end Go.SL
namespace Go.SL
set_option linter.unusedVariables false
set_option linter.unusedSimpArgs false
open Go.RowKit
/-- What a reader answers: a number, and bytes where it is 0. -/
def ansA (T : TypeId) (A : Int × List UInt8) (dv : Value) : Assn := fun h => (A.1 = 0 ∧ bs T dv A.2 h) ∨ (A.1 ≠ 0 ∧ dv = .slice none 0 0 ∧ h = fun _ => none)
theorem Sat.ansSlice {w : World} {T : TypeId} {A : Int × List UInt8} {dv : Value} {F : Assn} (h : Sat w (ansA T A dv * F)) : ∃ a k c, dv = .slice a k c := by
  obtain ⟨m, _, h1, h2, p, _, _, _⟩ := h
  rcases p with ⟨_, p⟩ | ⟨_, rfl, _⟩
  · rcases p with ⟨rfl, _⟩ | ⟨g, cap, cur, rfl, _⟩
    · exact ⟨_, _, _, rfl⟩
    · exact ⟨_, _, _, rfl⟩
  · exact ⟨_, _, _, rfl⟩
theorem Sat.ansYes {w : World} {T : TypeId} {l : List UInt8} {dv : Value} {F : Assn} (h : Sat w (ansA T (0, l) dv * F)) : Sat w (bs T dv l * F) :=
  h.weak fun _ hk => by rcases hk with ⟨_, h⟩ | ⟨h, _⟩; exact h; exact absurd rfl h
theorem Sat.ansOf {w : World} {T : TypeId} {l : List UInt8} {dv : Value} {F : Assn} (h : Sat w (bs T dv l * F)) : Sat w (ansA T (0, l) dv * F) := h.weak fun _ hk => .inl ⟨rfl, hk⟩
theorem Sat.ansNo {w : World} {T : TypeId} {A : Int × List UInt8} {dv : Value} {F : Assn} (h : Sat w (ansA T A dv * F)) (hA : A.1 ≠ 0) : dv = .slice none 0 0 ∧ Sat w F := by
  refine ⟨?_, h.right⟩
  obtain ⟨m, _, h1, h2, p, _, _, _⟩ := h
  rcases p with ⟨e, _⟩ | ⟨_, e, _⟩
  · exact absurd e hA
  · exact e
theorem Sat.ansNil {w : World} {T : TypeId} {A : Int × List UInt8} {F : Assn} (h : Sat w F) (hA : A.1 ≠ 0) : Sat w (ansA T A (.slice none 0 0) * F) :=
  (h.to (emp_star F).symm).weak fun _ hk => .inr ⟨hA, rfl, hk⟩
theorem Sat.bsRd {w : World} {T : TypeId} {l : List UInt8} {dv : Value} {F : Assn} (h : Sat w (bs T dv l * F)) : Rd w dv l := Sat.rds h
end Go.SL

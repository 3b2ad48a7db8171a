/- Assertions over heaps, block by block, with a separating product. Plain definitions and lemmas; no program in sight. -/
import Derived.WalkKit
import Derived.WalkSpells
import Derived.WalkLawsBesides
namespace Go.SL
set_option linter.unusedVariables false
set_option linter.unusedSimpArgs false
open Go.RowKit

theorem hid {p : Prop} (h : p) : Hid p := h
/-- A part of a heap. -/
abbrev Hp := Nat → Option Obj
/-- An assertion on a part of a heap. -/
def Assn : Type := Hp → Prop
def join (h k : Hp) : Hp := fun b => (h b).or (k b)
def apart (h k : Hp) : Prop := ∀ b, h b = none ∨ k b = none
def star (P Q : Assn) : Assn := fun h => ∃ h1 h2 : Hp, P h1 ∧ Q h2 ∧ apart h1 h2 ∧ h = join h1 h2
instance : Mul Assn := ⟨star⟩
def one (b : Nat) (o : Obj) : Hp := fun k => if k = b then some o else none
/-- Block b holds o. -/
def pt (b : Nat) (o : Obj) : Assn := fun h => h = one b o
def emp : Assn := fun h => h = fun _ => none
def fact (p : Prop) : Assn := fun h => p ∧ h = fun _ => none
def ex {α : Type} (P : α → Assn) : Assn := fun h => ∃ x, P x h
/-- All of a world's heap, as it is. -/
def whole (W : World) : Assn := fun h => h = fun b => W.heap[b]?
/-- w has a part of which P holds. -/
def Sat (w : World) (P : Assn) : Prop := ∃ h : Hp, (∀ b o, h b = some o → w.heap[b]? = some o) ∧ P h

theorem apart_comm {h k : Hp} (d : apart h k) : apart k h := fun b => (d b).symm
theorem join_comm {h k : Hp} (d : apart h k) : join h k = join k h := by
  funext b; rcases d b with e | e <;> simp [join, e]
theorem join_assoc (h k l : Hp) : join (join h k) l = join h (join k l) := by
  funext b; simp [join, Option.or_assoc]
theorem apart_join_left {h k l : Hp} : apart (join h k) l ↔ apart h l ∧ apart k l := by
  constructor
  · intro d
    refine ⟨fun b => ?_, fun b => ?_⟩
    · rcases d b with e | e
      · simp [join, Option.or_eq_none_iff] at e; exact .inl e.1
      · exact .inr e
    · rcases d b with e | e
      · simp [join, Option.or_eq_none_iff] at e; exact .inl e.2
      · exact .inr e
  · rintro ⟨d1, d2⟩ b
    rcases d1 b with e | e
    · rcases d2 b with e' | e'
      · exact .inl (by simp [join, e, e'])
      · exact .inr e'
    · exact .inr e
theorem apart_join_right {h k l : Hp} : apart h (join k l) ↔ apart h k ∧ apart h l :=
  ⟨fun d => let ⟨a, b⟩ := apart_join_left.1 (apart_comm d); ⟨apart_comm a, apart_comm b⟩,
   fun ⟨a, b⟩ => apart_comm (apart_join_left.2 ⟨apart_comm a, apart_comm b⟩)⟩

theorem star_def (P Q : Assn) : P * Q = star P Q := rfl
theorem star_comm (P Q : Assn) : P * Q = Q * P := by
  funext h
  apply propext
  constructor
  · rintro ⟨h1, h2, p, q, d, rfl⟩; exact ⟨h2, h1, q, p, apart_comm d, join_comm d⟩
  · rintro ⟨h1, h2, p, q, d, rfl⟩; exact ⟨h2, h1, q, p, apart_comm d, join_comm d⟩
theorem star_assoc (P Q R : Assn) : P * Q * R = P * (Q * R) := by
  funext h
  apply propext
  constructor
  · rintro ⟨_, h3, ⟨h1, h2, p, q, d, rfl⟩, r, d', rfl⟩
    obtain ⟨d1, d2⟩ := apart_join_left.1 d'
    exact ⟨h1, join h2 h3, p, ⟨h2, h3, q, r, d2, rfl⟩, apart_join_right.2 ⟨d, d1⟩, join_assoc _ _ _⟩
  · rintro ⟨h1, _, p, ⟨h2, h3, q, r, d, rfl⟩, d', rfl⟩
    obtain ⟨d1, d2⟩ := apart_join_right.1 d'
    exact ⟨join h1 h2, h3, ⟨h1, h2, p, q, d1, rfl⟩, r, apart_join_left.2 ⟨d2, d⟩, (join_assoc _ _ _).symm⟩
instance : Std.Commutative (α := Assn) (· * ·) := ⟨star_comm⟩
instance : Std.Associative (α := Assn) (· * ·) := ⟨star_assoc⟩
theorem star_left_comm (P Q R : Assn) : P * (Q * R) = Q * (P * R) := by rw [← star_assoc, star_comm P Q, star_assoc]
theorem star_emp (P : Assn) : P * emp = P := by
  funext h
  apply propext
  constructor
  · rintro ⟨h1, h2, p, rfl, d, rfl⟩
    have : join h1 (fun _ => none) = h1 := by funext b; simp [join]
    rw [this]; exact p
  · intro p
    exact ⟨h, fun _ => none, p, rfl, fun b => .inr rfl, by funext b; simp [join]⟩
theorem emp_star (P : Assn) : emp * P = P := by rw [star_comm, star_emp]
theorem ex_star {α : Type} (P : α → Assn) (Q : Assn) : ex P * Q = ex fun x => P x * Q := by
  funext h
  apply propext
  constructor
  · rintro ⟨h1, h2, ⟨x, p⟩, q, d, rfl⟩; exact ⟨x, h1, h2, p, q, d, rfl⟩
  · rintro ⟨x, h1, h2, p, q, d, rfl⟩; exact ⟨h1, h2, ⟨x, p⟩, q, d, rfl⟩

section
variable {w w' : World} {P Q R F : Assn} {b c : Nat} {o o' : Obj}
theorem Sat.to (h : Sat w P) (e : P = Q) : Sat w Q := e ▸ h
theorem Sat.imp (h : Sat w P) (e : ∀ k, P k → Q k) : Sat w Q := let ⟨k, a, p⟩ := h; ⟨k, a, e k p⟩
theorem Sat.left (h : Sat w (P * Q)) : Sat w P :=
  let ⟨_, a, h1, h2, p, _, _, e⟩ := h; ⟨h1, fun b o hb => a b o (by rw [e]; simp [join, hb]), p⟩
theorem Sat.right (h : Sat w (P * Q)) : Sat w Q := Sat.left (h.to (star_comm _ _))
/-- The first part implies another one. -/
theorem Sat.weak (h : Sat w (P * F)) (e : ∀ k, P k → Q k) : Sat w (Q * F) :=
  h.imp fun _ ⟨h1, h2, p, f, d, j⟩ => ⟨h1, h2, e _ p, f, d, j⟩
theorem Sat.ex_iff {α : Type} {P : α → Assn} : Sat w (ex P) ↔ ∃ x, Sat w (P x) :=
  ⟨fun ⟨h, a, x, p⟩ => ⟨x, h, a, p⟩, fun ⟨x, h, a, p⟩ => ⟨h, a, x, p⟩⟩
theorem Sat.ex_star_iff {α : Type} {P : α → Assn} : Sat w (ex P * F) ↔ ∃ x, Sat w (P x * F) := by
  rw [ex_star, Sat.ex_iff]
theorem Sat.fact_iff {p : Prop} : Sat w (fact p * F) ↔ p ∧ Sat w F := by
  constructor
  · rintro ⟨_, a, h1, h2, ⟨hp, rfl⟩, f, d, rfl⟩
    exact ⟨hp, h2, fun b o hb => a b o (by simp [join, hb]), f⟩
  · rintro ⟨hp, h2, a, f⟩
    exact ⟨h2, a, fun _ => none, h2, ⟨hp, rfl⟩, f, fun _ => .inl rfl, by funext b; simp [join]⟩
theorem Sat.emp_iff : Sat w emp := ⟨fun _ => none, fun _ _ h => by simp at h, rfl⟩
theorem Sat.addEmp (h : Sat w P) : Sat w (P * emp) := h.to (star_emp P).symm
theorem Sat.whole (w : World) : Sat w (whole w) := ⟨_, fun _ _ h => h, rfl⟩
theorem Sat.heap (h : Sat w (pt b o * F)) : w.heap[b]? = some o := by
  obtain ⟨h, a, rfl⟩ := h.left
  exact a b o (by simp [one])
theorem Sat.heap1 (h : Sat w (pt b o)) : w.heap[b]? = some o := by
  obtain ⟨h, a, rfl⟩ := h
  exact a b o (by simp [one])
theorem Sat.lt (h : Sat w (pt b o * F)) : b < w.heap.size := (Array.getElem?_eq_some_iff.1 h.heap).1
theorem Sat.ne (h : Sat w (pt b o * (pt c o' * F))) : b ≠ c := by
  obtain ⟨_, _, h1, h2, rfl, ⟨h3, h4, rfl, _, _, rfl⟩, d, rfl⟩ := h
  rintro rfl
  rcases d b with e | e <;> simp [one, join] at e
/-- What is left alone, block by block, stays. -/
theorem Sat.carry (h : Sat w P) (k : ∀ (b : Nat) (o : Obj), w.heap[b]? = some o → w'.heap[b]? = some o) : Sat w' P :=
  let ⟨m, a, p⟩ := h; ⟨m, fun b o hb => k b o (a b o hb), p⟩
theorem Sat.of_heap (h : Sat w P) (e : w'.heap = w.heap) : Sat w' P := h.carry fun b o hb => by rw [e]; exact hb
theorem Sat.drew (h : Sat w P) : Sat w.drew P := h
/-- One block is another one now. -/
theorem Sat.upd (h : Sat w (pt b o * F)) (e : w'.heap[b]? = some o') (k : ∀ c, c ≠ b → w'.heap[c]? = w.heap[c]?) : Sat w' (pt b o' * F) := by
  obtain ⟨_, a, h1, h2, rfl, f, d, rfl⟩ := h
  refine ⟨join (one b o') h2, fun c x hc => ?_, one b o', h2, rfl, f, fun c => ?_, rfl⟩
  · by_cases hcb : c = b
    · subst hcb
      have h2n : h2 c = none := by rcases d c with e' | e' <;> simp_all [one]
      simp [join, one] at hc; subst hc; exact e
    · have : h2 c = some x := by simpa [join, one, hcb] using hc
      rw [k c hcb]
      exact a c x (by simp [join, one, hcb, this])
  · by_cases hcb : c = b
    · subst hcb
      rcases d c with e' | e'
      · simp [one] at e'
      · exact .inr e'
    · exact .inl (by simp [one, hcb])
/-- A new block. -/
theorem Sat.new (h : Sat w P) (e : w'.heap = w.heap.push o) : Sat w' (pt w.heap.size o * P) := by
  obtain ⟨m, a, p⟩ := h
  have hm : ∀ c x, m c = some x → c < w.heap.size := fun c x hc => (Array.getElem?_eq_some_iff.1 (a c x hc)).1
  refine ⟨join (one w.heap.size o) m, fun c x hc => ?_, one w.heap.size o, m, rfl, p, fun c => ?_, rfl⟩
  · rw [e, Array.getElem?_push]
    by_cases hcb : c = w.heap.size
    · subst hcb
      simpa [join, one] using hc
    · have : m c = some x := by simpa [join, one, hcb] using hc
      rw [if_neg hcb]
      exact a c x this
  · by_cases hcb : c = w.heap.size
    · right
      match hmc : m c with
      | none => rfl
      | some x => exact absurd (hm c x hmc) (by omega)
    · exact .inl (by simp [one, hcb])
theorem heap_keep {k : Nat} (h : w.heap[k]? = some o) (x : Obj) : (w.alloc x).heap[k]? = some o := by
  rw [heap_alloc_old w x (Array.getElem?_eq_some_iff.1 h).1]; exact h
theorem Sat.alloc (h : Sat w P) (o : Obj) : Sat (w.alloc o) (pt w.heap.size o * P) := h.new rfl
theorem heap_setCell_at {cs : Array Value} {T : TypeId} {fr : Nat × Nat} (h : w.heap[b]? = some (.cells cs T fr)) (i : Nat) (v : Value) :
    (w.setCell ⟨b, i, none⟩ v).heap[b]? = some (.cells (cs.setIfInBounds i v) T fr) := by
  simp [World.setCell, Array.getElem?_modify, h]
theorem Sat.setCell {cs : Array Value} {T : TypeId} {fr : Nat × Nat} (h : Sat w (pt b (.cells cs T fr) * F)) (i : Nat) (v : Value) :
    Sat (w.setCell ⟨b, i, none⟩ v) (pt b (.cells (cs.setIfInBounds i v) T fr) * F) :=
  h.upd (heap_setCell_at h.heap i v) fun c hc => Below.heap_setCell w ⟨b, i, none⟩ v c hc
theorem Sat.cell {cs : Array Value} {T : TypeId} {fr : Nat × Nat} (h : Sat w (pt b (.cells cs T fr) * F)) (i : Nat) : w.cell? ⟨b, i, none⟩ = cs[i]? := by
  simp [World.cell?, h.heap]
theorem Sat.frozen {cs : Array Value} {T : TypeId} (h : Sat w (pt b (.cells cs T (0, 0)) * F)) (i : Nat) : w.frozen? ⟨b, i, none⟩ = false := by
  simp [World.frozen?, h.heap]
/-- What the whole heap was, it is. -/
theorem Sat.whole_get {W : World} (h : Sat w (SL.whole W * F)) (k : Nat) (hk : k < W.heap.size) : w.heap[k]? = W.heap[k]? := by
  obtain ⟨m, a, rfl⟩ := h.left
  have : W.heap[k]? = some W.heap[k] := Array.getElem?_eq_getElem hk
  rw [this]; exact a k _ this
/-- What held of the old heap holds beside what is new. -/
theorem Sat.under {W : World} (h : Sat w (P * SL.whole W)) (g : Sat W Q) : Sat w (P * Q) := by
  obtain ⟨_, a, h1, h2, p, rfl, d, rfl⟩ := h
  obtain ⟨k, b, q⟩ := g
  refine ⟨join h1 k, fun c o hc => ?_, h1, k, p, q, fun c => ?_, rfl⟩
  · match h1c : h1 c with
    | some x => exact a c o (by simpa [join, h1c] using hc)
    | none =>
      have hk : k c = some o := by simpa [join, h1c] using hc
      exact a c o (by simp [join, h1c, b c o hk])
  · match hkc : k c with
    | none => exact .inr rfl
    | some x =>
      rcases d c with e | e
      · exact .inl e
      · exact absurd ((b c x hkc).symm.trans e) (by simp)
theorem Sat.old {W : World} (h : Sat w (P * SL.whole W)) (k : Nat) (hk : k < W.heap.size) : w.heap[k]? = W.heap[k]? := Sat.whole_get (h.to (star_comm _ _)) k hk
theorem Sat.cellOld {W : World} (h : Sat w (P * SL.whole W)) {a : Addr} {u : Value} (hc : W.cell? a = some u) : w.cell? a = some u := by
  rw [World.cell?_of_block (h.old _ (World.block_lt_of_cell? W a hc))]; exact hc
theorem Sat.heapOld {W : World} (h : Sat w (P * SL.whole W)) {b : Nat} {o : Obj} (hc : W.heap[b]? = some o) : w.heap[b]? = some o := by
  rw [h.old _ (Array.getElem?_eq_some_iff.1 hc).1]; exact hc
theorem Sat.frozenOld {W : World} (h : Sat w (P * SL.whole W)) {a : Addr} (ha : a.block < W.heap.size) : w.frozen? a = W.frozen? a := World.frozen?_of_block (h.old _ ha)
theorem Sat.wholeOf (w : World) : Sat w (emp * SL.whole w) := (Sat.whole w).to (emp_star _).symm
end

/-- The k-th part comes to the front. -/
theorem Sat.front2 {X1 X2 F : Assn} {w : World} (h : Sat w (X1 * (X2 * F))) : Sat w (X2 * (X1 * F)) := h.to (star_left_comm _ _ _)
theorem Sat.back2 {X1 X2 F : Assn} {w : World} (h : Sat w (X2 * (X1 * F))) : Sat w (X1 * (X2 * F)) := h.to (by ac_rfl)
theorem Sat.drop2 {X1 X2 F : Assn} {w : World} (h : Sat w (X1 * (X2 * F))) : Sat w (X1 * F) := h.front2.right
theorem Sat.front3 {X1 X2 X3 F : Assn} {w : World} (h : Sat w (X1 * (X2 * (X3 * F)))) : Sat w (X3 * (X1 * (X2 * F))) := h.to (by ac_rfl)
theorem Sat.back3 {X1 X2 X3 F : Assn} {w : World} (h : Sat w (X3 * (X1 * (X2 * F)))) : Sat w (X1 * (X2 * (X3 * F))) := h.to (by ac_rfl)
theorem Sat.drop3 {X1 X2 X3 F : Assn} {w : World} (h : Sat w (X1 * (X2 * (X3 * F)))) : Sat w (X1 * (X2 * F)) := h.front3.right
theorem Sat.front4 {X1 X2 X3 X4 F : Assn} {w : World} (h : Sat w (X1 * (X2 * (X3 * (X4 * F))))) : Sat w (X4 * (X1 * (X2 * (X3 * F)))) := h.to (by ac_rfl)
theorem Sat.back4 {X1 X2 X3 X4 F : Assn} {w : World} (h : Sat w (X4 * (X1 * (X2 * (X3 * F))))) : Sat w (X1 * (X2 * (X3 * (X4 * F)))) := h.to (by ac_rfl)
theorem Sat.drop4 {X1 X2 X3 X4 F : Assn} {w : World} (h : Sat w (X1 * (X2 * (X3 * (X4 * F))))) : Sat w (X1 * (X2 * (X3 * F))) := h.front4.right
theorem Sat.front5 {X1 X2 X3 X4 X5 F : Assn} {w : World} (h : Sat w (X1 * (X2 * (X3 * (X4 * (X5 * F)))))) : Sat w (X5 * (X1 * (X2 * (X3 * (X4 * F))))) := h.to (by ac_rfl)
theorem Sat.back5 {X1 X2 X3 X4 X5 F : Assn} {w : World} (h : Sat w (X5 * (X1 * (X2 * (X3 * (X4 * F)))))) : Sat w (X1 * (X2 * (X3 * (X4 * (X5 * F))))) := h.to (by ac_rfl)
theorem Sat.drop5 {X1 X2 X3 X4 X5 F : Assn} {w : World} (h : Sat w (X1 * (X2 * (X3 * (X4 * (X5 * F)))))) : Sat w (X1 * (X2 * (X3 * (X4 * F)))) := h.front5.right
theorem Sat.front6 {X1 X2 X3 X4 X5 X6 F : Assn} {w : World} (h : Sat w (X1 * (X2 * (X3 * (X4 * (X5 * (X6 * F))))))) : Sat w (X6 * (X1 * (X2 * (X3 * (X4 * (X5 * F)))))) := h.to (by ac_rfl)
theorem Sat.back6 {X1 X2 X3 X4 X5 X6 F : Assn} {w : World} (h : Sat w (X6 * (X1 * (X2 * (X3 * (X4 * (X5 * F))))))) : Sat w (X1 * (X2 * (X3 * (X4 * (X5 * (X6 * F)))))) := h.to (by ac_rfl)
theorem Sat.drop6 {X1 X2 X3 X4 X5 X6 F : Assn} {w : World} (h : Sat w (X1 * (X2 * (X3 * (X4 * (X5 * (X6 * F))))))) : Sat w (X1 * (X2 * (X3 * (X4 * (X5 * F))))) := h.front6.right
theorem Sat.front7 {X1 X2 X3 X4 X5 X6 X7 F : Assn} {w : World} (h : Sat w (X1 * (X2 * (X3 * (X4 * (X5 * (X6 * (X7 * F)))))))) : Sat w (X7 * (X1 * (X2 * (X3 * (X4 * (X5 * (X6 * F))))))) := h.to (by ac_rfl)
theorem Sat.back7 {X1 X2 X3 X4 X5 X6 X7 F : Assn} {w : World} (h : Sat w (X7 * (X1 * (X2 * (X3 * (X4 * (X5 * (X6 * F)))))))) : Sat w (X1 * (X2 * (X3 * (X4 * (X5 * (X6 * (X7 * F))))))) := h.to (by ac_rfl)
theorem Sat.drop7 {X1 X2 X3 X4 X5 X6 X7 F : Assn} {w : World} (h : Sat w (X1 * (X2 * (X3 * (X4 * (X5 * (X6 * (X7 * F)))))))) : Sat w (X1 * (X2 * (X3 * (X4 * (X5 * (X6 * F)))))) := h.front7.right
theorem Sat.front8 {X1 X2 X3 X4 X5 X6 X7 X8 F : Assn} {w : World} (h : Sat w (X1 * (X2 * (X3 * (X4 * (X5 * (X6 * (X7 * (X8 * F))))))))) : Sat w (X8 * (X1 * (X2 * (X3 * (X4 * (X5 * (X6 * (X7 * F)))))))) := h.to (by ac_rfl)
theorem Sat.back8 {X1 X2 X3 X4 X5 X6 X7 X8 F : Assn} {w : World} (h : Sat w (X8 * (X1 * (X2 * (X3 * (X4 * (X5 * (X6 * (X7 * F))))))))) : Sat w (X1 * (X2 * (X3 * (X4 * (X5 * (X6 * (X7 * (X8 * F)))))))) := h.to (by ac_rfl)
theorem Sat.drop8 {X1 X2 X3 X4 X5 X6 X7 X8 F : Assn} {w : World} (h : Sat w (X1 * (X2 * (X3 * (X4 * (X5 * (X6 * (X7 * (X8 * F))))))))) : Sat w (X1 * (X2 * (X3 * (X4 * (X5 * (X6 * (X7 * F))))))) := h.front8.right
theorem Sat.front9 {X1 X2 X3 X4 X5 X6 X7 X8 X9 F : Assn} {w : World} (h : Sat w (X1 * (X2 * (X3 * (X4 * (X5 * (X6 * (X7 * (X8 * (X9 * F)))))))))) : Sat w (X9 * (X1 * (X2 * (X3 * (X4 * (X5 * (X6 * (X7 * (X8 * F))))))))) := h.to (by ac_rfl)
theorem Sat.back9 {X1 X2 X3 X4 X5 X6 X7 X8 X9 F : Assn} {w : World} (h : Sat w (X9 * (X1 * (X2 * (X3 * (X4 * (X5 * (X6 * (X7 * (X8 * F)))))))))) : Sat w (X1 * (X2 * (X3 * (X4 * (X5 * (X6 * (X7 * (X8 * (X9 * F))))))))) := h.to (by ac_rfl)
theorem Sat.drop9 {X1 X2 X3 X4 X5 X6 X7 X8 X9 F : Assn} {w : World} (h : Sat w (X1 * (X2 * (X3 * (X4 * (X5 * (X6 * (X7 * (X8 * (X9 * F)))))))))) : Sat w (X1 * (X2 * (X3 * (X4 * (X5 * (X6 * (X7 * (X8 * F)))))))) := h.front9.right
theorem Sat.front10 {X1 X2 X3 X4 X5 X6 X7 X8 X9 X10 F : Assn} {w : World} (h : Sat w (X1 * (X2 * (X3 * (X4 * (X5 * (X6 * (X7 * (X8 * (X9 * (X10 * F))))))))))) : Sat w (X10 * (X1 * (X2 * (X3 * (X4 * (X5 * (X6 * (X7 * (X8 * (X9 * F)))))))))) := h.to (by ac_rfl)
theorem Sat.back10 {X1 X2 X3 X4 X5 X6 X7 X8 X9 X10 F : Assn} {w : World} (h : Sat w (X10 * (X1 * (X2 * (X3 * (X4 * (X5 * (X6 * (X7 * (X8 * (X9 * F))))))))))) : Sat w (X1 * (X2 * (X3 * (X4 * (X5 * (X6 * (X7 * (X8 * (X9 * (X10 * F)))))))))) := h.to (by ac_rfl)
theorem Sat.drop10 {X1 X2 X3 X4 X5 X6 X7 X8 X9 X10 F : Assn} {w : World} (h : Sat w (X1 * (X2 * (X3 * (X4 * (X5 * (X6 * (X7 * (X8 * (X9 * (X10 * F))))))))))) : Sat w (X1 * (X2 * (X3 * (X4 * (X5 * (X6 * (X7 * (X8 * (X9 * F))))))))) := h.front10.right
theorem Sat.front11 {X1 X2 X3 X4 X5 X6 X7 X8 X9 X10 X11 F : Assn} {w : World} (h : Sat w (X1 * (X2 * (X3 * (X4 * (X5 * (X6 * (X7 * (X8 * (X9 * (X10 * (X11 * F)))))))))))) : Sat w (X11 * (X1 * (X2 * (X3 * (X4 * (X5 * (X6 * (X7 * (X8 * (X9 * (X10 * F))))))))))) := h.to (by ac_rfl)
theorem Sat.back11 {X1 X2 X3 X4 X5 X6 X7 X8 X9 X10 X11 F : Assn} {w : World} (h : Sat w (X11 * (X1 * (X2 * (X3 * (X4 * (X5 * (X6 * (X7 * (X8 * (X9 * (X10 * F)))))))))))) : Sat w (X1 * (X2 * (X3 * (X4 * (X5 * (X6 * (X7 * (X8 * (X9 * (X10 * (X11 * F))))))))))) := h.to (by ac_rfl)
theorem Sat.drop11 {X1 X2 X3 X4 X5 X6 X7 X8 X9 X10 X11 F : Assn} {w : World} (h : Sat w (X1 * (X2 * (X3 * (X4 * (X5 * (X6 * (X7 * (X8 * (X9 * (X10 * (X11 * F)))))))))))) : Sat w (X1 * (X2 * (X3 * (X4 * (X5 * (X6 * (X7 * (X8 * (X9 * (X10 * F)))))))))) := h.front11.right
theorem Sat.front12 {X1 X2 X3 X4 X5 X6 X7 X8 X9 X10 X11 X12 F : Assn} {w : World} (h : Sat w (X1 * (X2 * (X3 * (X4 * (X5 * (X6 * (X7 * (X8 * (X9 * (X10 * (X11 * (X12 * F))))))))))))) : Sat w (X12 * (X1 * (X2 * (X3 * (X4 * (X5 * (X6 * (X7 * (X8 * (X9 * (X10 * (X11 * F)))))))))))) := h.to (by ac_rfl)
theorem Sat.back12 {X1 X2 X3 X4 X5 X6 X7 X8 X9 X10 X11 X12 F : Assn} {w : World} (h : Sat w (X12 * (X1 * (X2 * (X3 * (X4 * (X5 * (X6 * (X7 * (X8 * (X9 * (X10 * (X11 * F))))))))))))) : Sat w (X1 * (X2 * (X3 * (X4 * (X5 * (X6 * (X7 * (X8 * (X9 * (X10 * (X11 * (X12 * F)))))))))))) := h.to (by ac_rfl)
theorem Sat.drop12 {X1 X2 X3 X4 X5 X6 X7 X8 X9 X10 X11 X12 F : Assn} {w : World} (h : Sat w (X1 * (X2 * (X3 * (X4 * (X5 * (X6 * (X7 * (X8 * (X9 * (X10 * (X11 * (X12 * F))))))))))))) : Sat w (X1 * (X2 * (X3 * (X4 * (X5 * (X6 * (X7 * (X8 * (X9 * (X10 * (X11 * F))))))))))) := h.front12.right
theorem Sat.front13 {X1 X2 X3 X4 X5 X6 X7 X8 X9 X10 X11 X12 X13 F : Assn} {w : World} (h : Sat w (X1 * (X2 * (X3 * (X4 * (X5 * (X6 * (X7 * (X8 * (X9 * (X10 * (X11 * (X12 * (X13 * F)))))))))))))) : Sat w (X13 * (X1 * (X2 * (X3 * (X4 * (X5 * (X6 * (X7 * (X8 * (X9 * (X10 * (X11 * (X12 * F))))))))))))) := h.to (by ac_rfl)
theorem Sat.back13 {X1 X2 X3 X4 X5 X6 X7 X8 X9 X10 X11 X12 X13 F : Assn} {w : World} (h : Sat w (X13 * (X1 * (X2 * (X3 * (X4 * (X5 * (X6 * (X7 * (X8 * (X9 * (X10 * (X11 * (X12 * F)))))))))))))) : Sat w (X1 * (X2 * (X3 * (X4 * (X5 * (X6 * (X7 * (X8 * (X9 * (X10 * (X11 * (X12 * (X13 * F))))))))))))) := h.to (by ac_rfl)
theorem Sat.drop13 {X1 X2 X3 X4 X5 X6 X7 X8 X9 X10 X11 X12 X13 F : Assn} {w : World} (h : Sat w (X1 * (X2 * (X3 * (X4 * (X5 * (X6 * (X7 * (X8 * (X9 * (X10 * (X11 * (X12 * (X13 * F)))))))))))))) : Sat w (X1 * (X2 * (X3 * (X4 * (X5 * (X6 * (X7 * (X8 * (X9 * (X10 * (X11 * (X12 * F)))))))))))) := h.front13.right
theorem Sat.front14 {X1 X2 X3 X4 X5 X6 X7 X8 X9 X10 X11 X12 X13 X14 F : Assn} {w : World} (h : Sat w (X1 * (X2 * (X3 * (X4 * (X5 * (X6 * (X7 * (X8 * (X9 * (X10 * (X11 * (X12 * (X13 * (X14 * F))))))))))))))) : Sat w (X14 * (X1 * (X2 * (X3 * (X4 * (X5 * (X6 * (X7 * (X8 * (X9 * (X10 * (X11 * (X12 * (X13 * F)))))))))))))) := h.to (by ac_rfl)
theorem Sat.back14 {X1 X2 X3 X4 X5 X6 X7 X8 X9 X10 X11 X12 X13 X14 F : Assn} {w : World} (h : Sat w (X14 * (X1 * (X2 * (X3 * (X4 * (X5 * (X6 * (X7 * (X8 * (X9 * (X10 * (X11 * (X12 * (X13 * F))))))))))))))) : Sat w (X1 * (X2 * (X3 * (X4 * (X5 * (X6 * (X7 * (X8 * (X9 * (X10 * (X11 * (X12 * (X13 * (X14 * F)))))))))))))) := h.to (by ac_rfl)
theorem Sat.drop14 {X1 X2 X3 X4 X5 X6 X7 X8 X9 X10 X11 X12 X13 X14 F : Assn} {w : World} (h : Sat w (X1 * (X2 * (X3 * (X4 * (X5 * (X6 * (X7 * (X8 * (X9 * (X10 * (X11 * (X12 * (X13 * (X14 * F))))))))))))))) : Sat w (X1 * (X2 * (X3 * (X4 * (X5 * (X6 * (X7 * (X8 * (X9 * (X10 * (X11 * (X12 * (X13 * F))))))))))))) := h.front14.right
/-- What a call leaves besides the heap. -/
structure Side (w w' : World) : Prop where
  os : w'.os = w.os
  tape : w'.tape = w.tape
  output : w'.output = w.output
  size : w.heap.size ≤ w'.heap.size
theorem Side.refl (w : World) : Side w w := ⟨rfl, rfl, rfl, Nat.le_refl _⟩
theorem Side.trans {a b c : World} (h : Side a b) (k : Side b c) : Side a c := ⟨k.os.trans h.os, k.tape.trans h.tape, k.output.trans h.output, Nat.le_trans h.size k.size⟩
theorem Side.alloc {a b : World} (h : Side a b) (o : Obj) : Side a (b.alloc o) := h.trans ⟨rfl, rfl, rfl, by simp⟩
theorem Side.setCell {a b : World} (h : Side a b) (p : Addr) (v : Value) : Side a (b.setCell p v) := h.trans ⟨rfl, rfl, rfl, by simp [World.setCell]⟩
theorem Side.drew {a b : World} (h : Side a b) : Side a b.drew := ⟨h.os, h.tape, h.output, h.size⟩
theorem Side.drewN {a b : World} (h : Side a b) (n : Nat) : Side a (b.drewN n) := ⟨h.os, h.tape, h.output, h.size⟩
/-- All of the old heap is as it was. -/
theorem Side.below {W w' : World} {F : Assn} (h : Side W w') (s : Sat w' (SL.whole W * F)) : Below W.heap.size W w' :=
  ⟨h.os, h.tape, h.output, h.size, fun k hk => s.whole_get k hk⟩
end Go.SL

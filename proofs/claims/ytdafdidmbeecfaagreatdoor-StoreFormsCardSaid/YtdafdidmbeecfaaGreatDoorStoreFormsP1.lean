/- Steps towards the statement StoreForms. -/
import Derived.WalkKit
import Derived.WalkSpells
import Derived.WalkLawsBesides
import Derived.Laws.BytesString
import Derived.Maps.RangeRun
section
namespace Go.SL
set_option linter.unusedVariables false
set_option linter.unusedSimpArgs false
open Go.RowKit
theorem hid {p : Prop} (h : p) : Hid p := h
abbrev Hp := Nat → Option Obj
def Assn : Type := Hp → Prop
def join (h k : Hp) : Hp := fun b => (h b).or (k b)
def apart (h k : Hp) : Prop := ∀ b, h b = none ∨ k b = none
def star (P Q : Assn) : Assn := fun h => ∃ h1 h2 : Hp, P h1 ∧ Q h2 ∧ apart h1 h2 ∧ h = join h1 h2
instance : Mul Assn := ⟨star⟩
def one (b : Nat) (o : Obj) : Hp := fun k => if k = b then some o else none
def pt (b : Nat) (o : Obj) : Assn := fun h => h = one b o
def emp : Assn := fun h => h = fun _ => none
def fact (p : Prop) : Assn := fun h => p ∧ h = fun _ => none
def ex {α : Type} (P : α → Assn) : Assn := fun h => ∃ x, P x h
def whole (W : World) : Assn := fun h => h = fun b => W.heap[b]?
def Sat (w : World) (P : Assn) : Prop := ∃ h : Hp, (∀ b o, h b = some o → w.heap[b]? = some o) ∧ P h
theorem apart_comm {h k : Hp} (d : apart h k) : apart k h := fun b => (d b).symm
theorem join_comm {h k : Hp} (d : apart h k) : join h k = join k h := by
  funext b; rcases d b with e | e <;> simp [join, e]
theorem join_assoc (h k l : Hp) : join (join h k) l = join h (join k l) := by
  funext b; simp [join, Option.or_assoc]
theorem apart_join_left {h k l : Hp} : apart (join h k) l ↔ apart h l ∧ apart k l := by
  constructor
  · intro d
    refine ⟨fun b => ?_, fun b => ?_⟩
    · rcases d b with e | e
      · simp [join, Option.or_eq_none_iff] at e; exact .inl e.1
      · exact .inr e
    · rcases d b with e | e
      · simp [join, Option.or_eq_none_iff] at e; exact .inl e.2
      · exact .inr e
  · rintro ⟨d1, d2⟩ b
    rcases d1 b with e | e
    · rcases d2 b with e' | e'
      · exact .inl (by simp [join, e, e'])
      · exact .inr e'
    · exact .inr e
theorem apart_join_right {h k l : Hp} : apart h (join k l) ↔ apart h k ∧ apart h l :=
  ⟨fun d => let ⟨a, b⟩ := apart_join_left.1 (apart_comm d); ⟨apart_comm a, apart_comm b⟩,
   fun ⟨a, b⟩ => apart_comm (apart_join_left.2 ⟨apart_comm a, apart_comm b⟩)⟩
theorem star_comm (P Q : Assn) : P * Q = Q * P := by
  funext h
  apply propext
  constructor
  · rintro ⟨h1, h2, p, q, d, rfl⟩; exact ⟨h2, h1, q, p, apart_comm d, join_comm d⟩
  · rintro ⟨h1, h2, p, q, d, rfl⟩; exact ⟨h2, h1, q, p, apart_comm d, join_comm d⟩
theorem star_assoc (P Q R : Assn) : P * Q * R = P * (Q * R) := by
  funext h
  apply propext
  constructor
  · rintro ⟨_, h3, ⟨h1, h2, p, q, d, rfl⟩, r, d', rfl⟩
    obtain ⟨d1, d2⟩ := apart_join_left.1 d'
    exact ⟨h1, join h2 h3, p, ⟨h2, h3, q, r, d2, rfl⟩, apart_join_right.2 ⟨d, d1⟩, join_assoc _ _ _⟩
  · rintro ⟨h1, _, p, ⟨h2, h3, q, r, d, rfl⟩, d', rfl⟩
    obtain ⟨d1, d2⟩ := apart_join_right.1 d'
    exact ⟨join h1 h2, h3, ⟨h1, h2, p, q, d1, rfl⟩, r, apart_join_left.2 ⟨d2, d⟩, (join_assoc _ _ _).symm⟩
instance : Std.Commutative (α := Assn) (· * ·) := ⟨star_comm⟩
instance : Std.Associative (α := Assn) (· * ·) := ⟨star_assoc⟩
theorem star_left_comm (P Q R : Assn) : P * (Q * R) = Q * (P * R) := by rw [← star_assoc, star_comm P Q, star_assoc]
theorem star_emp (P : Assn) : P * emp = P := by
  funext h
  apply propext
  constructor
  · rintro ⟨h1, h2, p, rfl, d, rfl⟩
    have : join h1 (fun _ => none) = h1 := by funext b; simp [join]
    rw [this]; exact p
  · intro p
    exact ⟨h, fun _ => none, p, rfl, fun b => .inr rfl, by funext b; simp [join]⟩
theorem emp_star (P : Assn) : emp * P = P := by rw [star_comm, star_emp]
theorem ex_star {α : Type} (P : α → Assn) (Q : Assn) : ex P * Q = ex fun x => P x * Q := by
  funext h
  apply propext
  constructor
  · rintro ⟨h1, h2, ⟨x, p⟩, q, d, rfl⟩; exact ⟨x, h1, h2, p, q, d, rfl⟩
  · rintro ⟨x, h1, h2, p, q, d, rfl⟩; exact ⟨h1, h2, ⟨x, p⟩, q, d, rfl⟩
section
variable {w w' : World} {P Q R F : Assn} {b c : Nat} {o o' : Obj}
theorem Sat.to (h : Sat w P) (e : P = Q) : Sat w Q := e ▸ h
theorem Sat.imp (h : Sat w P) (e : ∀ k, P k → Q k) : Sat w Q := let ⟨k, a, p⟩ := h; ⟨k, a, e k p⟩
theorem Sat.left (h : Sat w (P * Q)) : Sat w P :=
  let ⟨_, a, h1, h2, p, _, _, e⟩ := h; ⟨h1, fun b o hb => a b o (by rw [e]; simp [join, hb]), p⟩
theorem Sat.right (h : Sat w (P * Q)) : Sat w Q := Sat.left (h.to (star_comm _ _))
theorem Sat.weak (h : Sat w (P * F)) (e : ∀ k, P k → Q k) : Sat w (Q * F) :=
  h.imp fun _ ⟨h1, h2, p, f, d, j⟩ => ⟨h1, h2, e _ p, f, d, j⟩
theorem Sat.ex_iff {α : Type} {P : α → Assn} : Sat w (ex P) ↔ ∃ x, Sat w (P x) :=
  ⟨fun ⟨h, a, x, p⟩ => ⟨x, h, a, p⟩, fun ⟨x, h, a, p⟩ => ⟨h, a, x, p⟩⟩
theorem Sat.ex_star_iff {α : Type} {P : α → Assn} : Sat w (ex P * F) ↔ ∃ x, Sat w (P x * F) := by
  rw [ex_star, Sat.ex_iff]
theorem Sat.fact_iff {p : Prop} : Sat w (fact p * F) ↔ p ∧ Sat w F := by
  constructor
  · rintro ⟨_, a, h1, h2, ⟨hp, rfl⟩, f, d, rfl⟩
    exact ⟨hp, h2, fun b o hb => a b o (by simp [join, hb]), f⟩
  · rintro ⟨hp, h2, a, f⟩
    exact ⟨h2, a, fun _ => none, h2, ⟨hp, rfl⟩, f, fun _ => .inl rfl, by funext b; simp [join]⟩
theorem Sat.addEmp (h : Sat w P) : Sat w (P * emp) := h.to (star_emp P).symm
theorem Sat.whole (w : World) : Sat w (whole w) := ⟨_, fun _ _ h => h, rfl⟩
theorem Sat.heap (h : Sat w (pt b o * F)) : w.heap[b]? = some o := by
  obtain ⟨h, a, rfl⟩ := h.left
  exact a b o (by simp [one])
theorem Sat.lt (h : Sat w (pt b o * F)) : b < w.heap.size := (Array.getElem?_eq_some_iff.1 h.heap).1
theorem Sat.ne (h : Sat w (pt b o * (pt c o' * F))) : b ≠ c := by
  obtain ⟨_, _, h1, h2, rfl, ⟨h3, h4, rfl, _, _, rfl⟩, d, rfl⟩ := h
  rintro rfl
  rcases d b with e | e <;> simp [one, join] at e
theorem Sat.carry (h : Sat w P) (k : ∀ (b : Nat) (o : Obj), w.heap[b]? = some o → w'.heap[b]? = some o) : Sat w' P :=
  let ⟨m, a, p⟩ := h; ⟨m, fun b o hb => k b o (a b o hb), p⟩
theorem Sat.of_heap (h : Sat w P) (e : w'.heap = w.heap) : Sat w' P := h.carry fun b o hb => by rw [e]; exact hb
theorem Sat.drew (h : Sat w P) : Sat w.drew P := h
theorem Sat.upd (h : Sat w (pt b o * F)) (e : w'.heap[b]? = some o') (k : ∀ c, c ≠ b → w'.heap[c]? = w.heap[c]?) : Sat w' (pt b o' * F) := by
  obtain ⟨_, a, h1, h2, rfl, f, d, rfl⟩ := h
  refine ⟨join (one b o') h2, fun c x hc => ?_, one b o', h2, rfl, f, fun c => ?_, rfl⟩
  · by_cases hcb : c = b
    · subst hcb
      have h2n : h2 c = none := by rcases d c with e' | e' <;> simp_all [one]
      simp [join, one] at hc; subst hc; exact e
    · have : h2 c = some x := by simpa [join, one, hcb] using hc
      rw [k c hcb]
      exact a c x (by simp [join, one, hcb, this])
  · by_cases hcb : c = b
    · subst hcb
      rcases d c with e' | e'
      · simp [one] at e'
      · exact .inr e'
    · exact .inl (by simp [one, hcb])
theorem Sat.new (h : Sat w P) (e : w'.heap = w.heap.push o) : Sat w' (pt w.heap.size o * P) := by
  obtain ⟨m, a, p⟩ := h
  have hm : ∀ c x, m c = some x → c < w.heap.size := fun c x hc => (Array.getElem?_eq_some_iff.1 (a c x hc)).1
  refine ⟨join (one w.heap.size o) m, fun c x hc => ?_, one w.heap.size o, m, rfl, p, fun c => ?_, rfl⟩
  · rw [e, Array.getElem?_push]
    by_cases hcb : c = w.heap.size
    · subst hcb
      simpa [join, one] using hc
    · have : m c = some x := by simpa [join, one, hcb] using hc
      rw [if_neg hcb]
      exact a c x this
  · by_cases hcb : c = w.heap.size
    · right
      match hmc : m c with
      | none => rfl
      | some x => exact absurd (hm c x hmc) (by omega)
    · exact .inl (by simp [one, hcb])
theorem Sat.alloc (h : Sat w P) (o : Obj) : Sat (w.alloc o) (pt w.heap.size o * P) := h.new rfl
theorem heap_setCell_at {cs : Array Value} {T : TypeId} {fr : Nat × Nat} (h : w.heap[b]? = some (.cells cs T fr)) (i : Nat) (v : Value) :
    (w.setCell ⟨b, i, none⟩ v).heap[b]? = some (.cells (cs.setIfInBounds i v) T fr) := by
  simp [World.setCell, Array.getElem?_modify, h]
theorem Sat.setCell {cs : Array Value} {T : TypeId} {fr : Nat × Nat} (h : Sat w (pt b (.cells cs T fr) * F)) (i : Nat) (v : Value) :
    Sat (w.setCell ⟨b, i, none⟩ v) (pt b (.cells (cs.setIfInBounds i v) T fr) * F) :=
  h.upd (heap_setCell_at h.heap i v) fun c hc => Below.heap_setCell w ⟨b, i, none⟩ v c hc
theorem Sat.cell {cs : Array Value} {T : TypeId} {fr : Nat × Nat} (h : Sat w (pt b (.cells cs T fr) * F)) (i : Nat) : w.cell? ⟨b, i, none⟩ = cs[i]? := by
  simp [World.cell?, h.heap]
theorem Sat.frozen {cs : Array Value} {T : TypeId} (h : Sat w (pt b (.cells cs T (0, 0)) * F)) (i : Nat) : w.frozen? ⟨b, i, none⟩ = false := by
  simp [World.frozen?, h.heap]
theorem Sat.whole_get {W : World} (h : Sat w (SL.whole W * F)) (k : Nat) (hk : k < W.heap.size) : w.heap[k]? = W.heap[k]? := by
  obtain ⟨m, a, rfl⟩ := h.left
  have : W.heap[k]? = some W.heap[k] := Array.getElem?_eq_getElem hk
  rw [this]; exact a k _ this
theorem Sat.under {W : World} (h : Sat w (P * SL.whole W)) (g : Sat W Q) : Sat w (P * Q) := by
  obtain ⟨_, a, h1, h2, p, rfl, d, rfl⟩ := h
  obtain ⟨k, b, q⟩ := g
  refine ⟨join h1 k, fun c o hc => ?_, h1, k, p, q, fun c => ?_, rfl⟩
  · match h1c : h1 c with
    | some x => exact a c o (by simpa [join, h1c] using hc)
    | none =>
      have hk : k c = some o := by simpa [join, h1c] using hc
      exact a c o (by simp [join, h1c, b c o hk])
  · match hkc : k c with
    | none => exact .inr rfl
    | some x =>
      rcases d c with e | e
      · exact .inl e
      · exact absurd ((b c x hkc).symm.trans e) (by simp)
theorem Sat.old {W : World} (h : Sat w (P * SL.whole W)) (k : Nat) (hk : k < W.heap.size) : w.heap[k]? = W.heap[k]? := Sat.whole_get (h.to (star_comm _ _)) k hk
theorem Sat.cellOld {W : World} (h : Sat w (P * SL.whole W)) {a : Addr} {u : Value} (hc : W.cell? a = some u) : w.cell? a = some u := by
  rw [World.cell?_of_block (h.old _ (World.block_lt_of_cell? W a hc))]; exact hc
end
theorem Sat.front2 {X1 X2 F : Assn} {w : World} (h : Sat w (X1 * (X2 * F))) : Sat w (X2 * (X1 * F)) := h.to (star_left_comm _ _ _)
theorem Sat.back2 {X1 X2 F : Assn} {w : World} (h : Sat w (X2 * (X1 * F))) : Sat w (X1 * (X2 * F)) := h.to (by ac_rfl)
theorem Sat.drop2 {X1 X2 F : Assn} {w : World} (h : Sat w (X1 * (X2 * F))) : Sat w (X1 * F) := h.front2.right
theorem Sat.front3 {X1 X2 X3 F : Assn} {w : World} (h : Sat w (X1 * (X2 * (X3 * F)))) : Sat w (X3 * (X1 * (X2 * F))) := h.to (by ac_rfl)
theorem Sat.back3 {X1 X2 X3 F : Assn} {w : World} (h : Sat w (X3 * (X1 * (X2 * F)))) : Sat w (X1 * (X2 * (X3 * F))) := h.to (by ac_rfl)
theorem Sat.drop3 {X1 X2 X3 F : Assn} {w : World} (h : Sat w (X1 * (X2 * (X3 * F)))) : Sat w (X1 * (X2 * F)) := h.front3.right
theorem Sat.front4 {X1 X2 X3 X4 F : Assn} {w : World} (h : Sat w (X1 * (X2 * (X3 * (X4 * F))))) : Sat w (X4 * (X1 * (X2 * (X3 * F)))) := h.to (by ac_rfl)
theorem Sat.back4 {X1 X2 X3 X4 F : Assn} {w : World} (h : Sat w (X4 * (X1 * (X2 * (X3 * F))))) : Sat w (X1 * (X2 * (X3 * (X4 * F)))) := h.to (by ac_rfl)
theorem Sat.drop4 {X1 X2 X3 X4 F : Assn} {w : World} (h : Sat w (X1 * (X2 * (X3 * (X4 * F))))) : Sat w (X1 * (X2 * (X3 * F))) := h.front4.right
theorem Sat.front5 {X1 X2 X3 X4 X5 F : Assn} {w : World} (h : Sat w (X1 * (X2 * (X3 * (X4 * (X5 * F)))))) : Sat w (X5 * (X1 * (X2 * (X3 * (X4 * F))))) := h.to (by ac_rfl)
theorem Sat.back5 {X1 X2 X3 X4 X5 F : Assn} {w : World} (h : Sat w (X5 * (X1 * (X2 * (X3 * (X4 * F)))))) : Sat w (X1 * (X2 * (X3 * (X4 * (X5 * F))))) := h.to (by ac_rfl)
theorem Sat.drop5 {X1 X2 X3 X4 X5 F : Assn} {w : World} (h : Sat w (X1 * (X2 * (X3 * (X4 * (X5 * F)))))) : Sat w (X1 * (X2 * (X3 * (X4 * F)))) := h.front5.right
theorem Sat.front6 {X1 X2 X3 X4 X5 X6 F : Assn} {w : World} (h : Sat w (X1 * (X2 * (X3 * (X4 * (X5 * (X6 * F))))))) : Sat w (X6 * (X1 * (X2 * (X3 * (X4 * (X5 * F)))))) := h.to (by ac_rfl)
theorem Sat.drop6 {X1 X2 X3 X4 X5 X6 F : Assn} {w : World} (h : Sat w (X1 * (X2 * (X3 * (X4 * (X5 * (X6 * F))))))) : Sat w (X1 * (X2 * (X3 * (X4 * (X5 * F))))) := h.front6.right
theorem Sat.front7 {X1 X2 X3 X4 X5 X6 X7 F : Assn} {w : World} (h : Sat w (X1 * (X2 * (X3 * (X4 * (X5 * (X6 * (X7 * F)))))))) : Sat w (X7 * (X1 * (X2 * (X3 * (X4 * (X5 * (X6 * F))))))) := h.to (by ac_rfl)
theorem Sat.front8 {X1 X2 X3 X4 X5 X6 X7 X8 F : Assn} {w : World} (h : Sat w (X1 * (X2 * (X3 * (X4 * (X5 * (X6 * (X7 * (X8 * F))))))))) : Sat w (X8 * (X1 * (X2 * (X3 * (X4 * (X5 * (X6 * (X7 * F)))))))) := h.to (by ac_rfl)
theorem Sat.front9 {X1 X2 X3 X4 X5 X6 X7 X8 X9 F : Assn} {w : World} (h : Sat w (X1 * (X2 * (X3 * (X4 * (X5 * (X6 * (X7 * (X8 * (X9 * F)))))))))) : Sat w (X9 * (X1 * (X2 * (X3 * (X4 * (X5 * (X6 * (X7 * (X8 * F))))))))) := h.to (by ac_rfl)
structure Side (w w' : World) : Prop where
  os : w'.os = w.os
  tape : w'.tape = w.tape
  output : w'.output = w.output
  size : w.heap.size ≤ w'.heap.size
theorem Side.refl (w : World) : Side w w := ⟨rfl, rfl, rfl, Nat.le_refl _⟩
theorem Side.trans {a b c : World} (h : Side a b) (k : Side b c) : Side a c := ⟨k.os.trans h.os, k.tape.trans h.tape, k.output.trans h.output, Nat.le_trans h.size k.size⟩
theorem Side.alloc {a b : World} (h : Side a b) (o : Obj) : Side a (b.alloc o) := h.trans ⟨rfl, rfl, rfl, by simp⟩
theorem Side.setCell {a b : World} (h : Side a b) (p : Addr) (v : Value) : Side a (b.setCell p v) := h.trans ⟨rfl, rfl, rfl, by simp [World.setCell]⟩
theorem Side.drew {a b : World} (h : Side a b) : Side a b.drew := ⟨h.os, h.tape, h.output, h.size⟩
theorem Side.drewN {a b : World} (h : Side a b) (n : Nat) : Side a (b.drewN n) := ⟨h.os, h.tape, h.output, h.size⟩
theorem Side.below {W w' : World} {F : Assn} (h : Side W w') (s : Sat w' (SL.whole W * F)) : Below W.heap.size W w' :=
  ⟨h.os, h.tape, h.output, h.size, fun k hk => s.whole_get k hk⟩
end Go.SL
namespace Go.SL
set_option linter.unusedVariables false
set_option linter.unusedSimpArgs false
open Go.RowKit
def u8 (x : UInt8) : Value := .int .u8 (x.toNat : Int)
def u8s (l : List UInt8) : Array Value := (l.map u8).toArray
def str (l : List UInt8) : ByteArray := ⟨l.toArray⟩
def zs (n : Nat) : List UInt8 := List.replicate n 0
theorem size_u8s (l : List UInt8) : (u8s l).size = l.length := by simp [u8s]
theorem get_u8s (l : List UInt8) (i : Nat) : (u8s l)[i]? = l[i]?.map u8 := by simp [u8s]
theorem set_u8s (l : List UInt8) (i : Nat) (x : UInt8) : (u8s l).setIfInBounds i (u8 x) = u8s (l.set i x) := by
  simp [u8s, List.map_set]
theorem length_zs (n : Nat) : (zs n).length = n := by simp [zs]
theorem u8_wrap (n : Int) : Value.int .u8 (IntKind.u8.wrap n) = u8 (UInt8.ofInt n) := by
  simp [u8, IntKind.wrap_u8]
  have : (UInt8.ofInt n).toNat = (n % 256).toNat := by
    simp [UInt8.ofInt, UInt8.toNat_ofNat']
    omega
  rw [this]; omega
theorem madeCells_u8 (n : Nat) : madeCells (Value.int .u8 0).cells (n * 1) = u8s (zs n) := by
  apply Array.ext
  · simp [size_madeCells, size_u8s, length_zs]
  · intro i h1 h2
    simp [madeCells, u8s, zs, Value.cells, u8, Nat.mod_one]
theorem and_mask (k : Nat) (hk : k ≤ 62) (n c : Int) (hc : c = ((2 ^ k - 1 : Nat) : Int)) : bits .and .i64 n c = n % ((2 ^ k : Nat) : Int) := by
  subst hc
  have hp : (2 : Nat) ^ k ≤ 2 ^ 62 := Nat.pow_le_pow_right (by decide) hk
  have hpos : 0 < (2 : Nat) ^ k := Nat.pow_pos (by decide)
  have hm : (BitVec.ofInt 64 ((2 ^ k - 1 : Nat) : Int)).toNat = 2 ^ k - 1 := by
    rw [BitVec.toNat_ofInt]
    omega
  have key : (BitVec.ofInt 64 n &&& BitVec.ofInt 64 ((2 ^ k - 1 : Nat) : Int)).toNat = (n % ((2 ^ 64 : Nat) : Int)).toNat % 2 ^ k := by
    rw [BitVec.toNat_and, BitVec.toNat_ofInt, hm, Nat.and_two_pow_sub_one_eq_mod]
  show IntKind.i64.wrap ((BitVec.ofInt 64 n &&& BitVec.ofInt 64 ((2 ^ k - 1 : Nat) : Int)).toNat : Nat) = _
  have hd : (2 : Nat) ^ k ∣ 2 ^ 64 := Nat.pow_dvd_pow 2 (by omega)
  have h1 : (((n % ((2 ^ 64 : Nat) : Int)).toNat % 2 ^ k : Nat) : Int) = n % ((2 ^ k : Nat) : Int) := by
    rw [Int.natCast_emod, Int.toNat_of_nonneg (Int.emod_nonneg _ (by decide))]
    exact Int.emod_emod_of_dvd n (by exact_mod_cast hd)
  rw [key, h1, IntKind.wrap_i64]
  have h2 : 0 ≤ n % ((2 ^ k : Nat) : Int) := Int.emod_nonneg _ (by omega)
  have h3 : n % ((2 ^ k : Nat) : Int) < ((2 ^ k : Nat) : Int) := Int.emod_lt_of_pos _ (by omega)
  omega
theorem and16 (n : Int) : bits .and .i64 n 65535 = n % 65536 := and_mask 16 (by decide) n 65535 rfl
end Go.SL
namespace Go.SL
set_option linter.unusedVariables false
set_option linter.unusedSimpArgs false
open Go.RowKit
def sl (T : TypeId) (sz : Nat) (v : Value) (n : Nat) (xs : List Value) : Assn := fun h =>
  (v = .slice none 0 0 ∧ n = 0 ∧ xs = [] ∧ h = fun _ => none) ∨
  ∃ g cap cur, v = .slice (some ⟨g, 0, none⟩) n cap ∧ n ≤ cap ∧ cap ≤ maxLen ∧ cur.size = cap * sz ∧ cur.toList.take (n * sz) = xs ∧ h = one g (.cells cur T (0, 0))
def bs (T : TypeId) (v : Value) (l : List UInt8) : Assn := sl T 1 v l.length (l.map u8)
section
variable {w w' : World} {F : Assn} {T : TypeId} {sz n cap g : Nat} {v : Value} {xs : List Value}
theorem sl_nil (T : TypeId) (sz : Nat) : sl T sz (.slice none 0 0) 0 [] (fun _ => none) := .inl ⟨rfl, rfl, rfl, rfl⟩
theorem Sat.slNil (h : Sat w F) (T : TypeId) (sz : Nat) : Sat w (sl T sz (.slice none 0 0) 0 [] * F) :=
  (h.to (emp_star F).symm).weak fun k hk => by rw [hk]; exact sl_nil T sz
theorem Sat.slCases (h : Sat w (sl T sz v n xs * F)) : (v = .slice none 0 0 ∧ n = 0 ∧ xs = [] ∧ Sat w F) ∨
    ∃ g cap cur, v = .slice (some ⟨g, 0, none⟩) n cap ∧ n ≤ cap ∧ cap ≤ maxLen ∧ cur.size = cap * sz ∧ cur.toList.take (n * sz) = xs ∧ Sat w (pt g (.cells cur T (0, 0)) * F) := by
  obtain ⟨m, a, h1, h2, p, f, d, rfl⟩ := h
  rcases p with ⟨rfl, rfl, rfl, rfl⟩ | ⟨g, cap, cur, rfl, h3, h4, h5, h6, rfl⟩
  · exact .inl ⟨rfl, rfl, rfl, h2, fun b o hb => a b o (by simp [join, hb]), f⟩
  · exact .inr ⟨g, cap, cur, rfl, h3, h4, h5, h6, _, a, _, h2, rfl, f, d, rfl⟩
theorem Sat.slOf {cur : Array Value} (h : Sat w (pt g (.cells cur T (0, 0)) * F)) (h3 : n ≤ cap) (h4 : cap ≤ maxLen) (h5 : cur.size = cap * sz) :
    Sat w (sl T sz (.slice (some ⟨g, 0, none⟩) n cap) n (cur.toList.take (n * sz)) * F) :=
  h.weak fun _ hk => .inr ⟨g, cap, cur, rfl, h3, h4, h5, rfl, hk⟩
theorem sl_len (h : Sat w (sl T sz v n xs * F)) : xs.length = n * sz := by
  rcases h.slCases with ⟨_, rfl, rfl, _⟩ | ⟨g, cap, cur, _, h3, _, h5, h6, _⟩
  · simp
  · rw [← h6, List.length_take, Array.length_toList, h5]
    exact Nat.min_eq_left (Nat.mul_le_mul_right _ h3)
theorem Sat.setRow {cs cs' : Array Value} {fr : Nat × Nat} (h : Sat w (pt g (.cells cs T fr) * F)) : Sat (w.setRow g cs') (pt g (.cells cs' T fr) * F) := by
  refine h.upd ?_ fun c hc => ?_
  · simp [World.setRow, Array.getElem?_modify, h.heap]
  · simp only [World.setRow, Array.getElem?_modify]; rw [if_neg (by omega)]
theorem Side.setRow {a b : World} (h : Side a b) (g : Nat) (cs : Array Value) : Side a (b.setRow g cs) := h.trans ⟨rfl, rfl, rfl, by simp [World.setRow]⟩
def At (w : World) (a : Addr) (xs : List Value) : Prop := ∀ j u, xs[j]? = some u → w.cell? (a.add j) = some u
def Rds (w : World) (sz : Nat) (v : Value) (n : Nat) (xs : List Value) : Prop :=
  xs.length = n * sz ∧ ((v = .slice none 0 0 ∧ n = 0) ∨ ∃ a c, v = .slice (some a) n c ∧ At w a xs)
def Rd (w : World) (v : Value) (l : List UInt8) : Prop := Rds w 1 v l.length (l.map u8)
theorem Sat.rds (h : Sat w (sl T sz v n xs * F)) : Rds w sz v n xs := by
  refine ⟨sl_len h, ?_⟩
  rcases h.slCases with ⟨rfl, rfl, rfl, _⟩ | ⟨g, cap, cur, rfl, h3, _, h5, rfl, hs⟩
  · exact .inl ⟨rfl, rfl⟩
  · refine .inr ⟨_, _, rfl, fun j u hu => ?_⟩
    rw [Addr.add_lit, Nat.zero_add, hs.cell]
    rw [List.getElem?_take] at hu
    split at hu
    · simpa using hu
    · cases hu
theorem Rds.carry (h : Rds w sz v n xs) (k : ∀ a u, w.cell? a = some u → w'.cell? a = some u) : Rds w' sz v n xs := by
  refine ⟨h.1, ?_⟩
  rcases h.2 with h | ⟨a, c, hv, ha⟩
  · exact .inl h
  · exact .inr ⟨a, c, hv, fun j u hu => k _ _ (ha j u hu)⟩
theorem cell_alloc (w : World) (o : Obj) (a : Addr) (u : Value) (h : w.cell? a = some u) : (w.alloc o).cell? a = some u := by
  have : a.block < w.heap.size := World.block_lt_of_cell? w a h
  rw [World.cell?_of_block (heap_alloc_old w o this)]; exact h
theorem Rds.alloc (h : Rds w sz v n xs) (o : Obj) : Rds (w.alloc o) sz v n xs := h.carry fun a u hu => cell_alloc w o a u hu
theorem Rds.drew (h : Rds w sz v n xs) : Rds w.drew sz v n xs := h
end
section
variable {P : Program} {w : World} {F : Assn}
theorem Sat.append {t ty e : TypeId} {i : TypeInfo} {z : Value} {sz bytes : Nat} (ht : P.underlying t = some (.slice e)) (hi : P.info? e = some i) (hz : i.zero = some z)
    (hsize : i.size = sz) (hby : i.bytes = bytes) (hzs : z.cells.size = sz)
    {v x : Value} {n m : Nat} {xs news : List Value} (h : Sat w (sl e sz v n xs * F)) (hx : Rds w sz x m news) (h1 : ∀ u ∈ news, u.oneCell' = true)
    (h63 : n + m ≤ maxLen) (hbytes : (n + m) * bytes ≤ 140737488355328) :
    ∃ v' w', (Builtin.append_ #[t, t] ty #[v, x]).run P w = .ok v' w' ∧ Sat w' (sl e sz v' (n + m) (xs ++ news) * F) ∧ Side w w' := by
  subst hsize; subst hby
  have hsmall : n + m ≤ 9223372036854775807 := by simp only [maxLen] at h63; omega
  obtain ⟨hl, hx⟩ := hx
  have hxs := sl_len h
  have fin : ∀ (old : Nat) (F' : Assn), Sat w F' →
      Sat (w.drew.alloc (.cells (xs.toArray ++ news.toArray ++ Builtin.zeroCells z.cells (grownCap w (n + m) old e - (n + m))) e))
        (sl e i.size (.slice (some ⟨w.heap.size, 0, none⟩) (n + m) (grownCap w (n + m) old e)) (n + m) (xs ++ news) * F') := by
    intro old F' hF
    have hge := grownCap_ge w (n + m) old e
    have hcm : grownCap w (n + m) old e ≤ maxLen := grownCap_le_maxLen w (n + m) old e h63
    have hA := hF.drew.alloc (.cells (xs.toArray ++ news.toArray ++ Builtin.zeroCells z.cells (grownCap w (n + m) old e - (n + m))) e)
    have := Sat.slOf (sz := i.size) (n := n + m) hA hge hcm (by
      simp only [Array.size_append, List.size_toArray, size_zeroCells, hzs, hxs, hl, ← Nat.add_mul]; congr 1; omega)
    refine this.to ?_
    congr 2
    simp only [Array.toList_append, List.append_assoc]
    rw [← List.append_assoc]
    exact List.take_left' (by rw [List.length_append, hxs, hl, Nat.add_mul])
  rcases h.slCases with ⟨rfl, rfl, rfl, hF⟩ | ⟨g, cap, cur, rfl, h3, h4, h5, h6, hF⟩
  · rcases hx with ⟨rfl, rfl⟩ | ⟨a, c, rfl, ha⟩
    · have : news = [] := List.eq_nil_of_length_eq_zero (by simpa using hl)
      subst this
      refine ⟨.slice none 0 0, w, ?_, hF.slNil _ _, Side.refl w⟩
      simp [Builtin.append_, run_underlying ht, sizeOf, typeInfo, hi, Builtin.lenOf, Builtin.firstCells]
    · by_cases hm : m = 0
      · subst hm
        have : news = [] := List.eq_nil_of_length_eq_zero (by simpa using hl)
        subst this
        refine ⟨.slice none 0 0, w, ?_, hF.slNil _ _, Side.refl w⟩
        simp [Builtin.append_, run_underlying ht, sizeOf, typeInfo, hi, Builtin.lenOf, Builtin.firstCells, loadCells, loadCellsFrom]
      · have hr := run_append_nil (P := P) w t ty e i z ht hi hz a m c news hl ha (by omega) (by omega) (by have hb := hbytes; simp only [Nat.zero_add] at hb; omega)
        have := fin 0 F hF
        simp only [Nat.zero_add, List.nil_append] at this ⊢
        exact ⟨_, _, hr, by simpa using this, ((Side.refl w).drew).alloc _⟩
  · rcases hx with ⟨rfl, rfl⟩ | ⟨a, c, rfl, ha⟩
    · have : news = [] := List.eq_nil_of_length_eq_zero (by simpa using hl)
      subst this
      refine ⟨.slice (some ⟨g, 0, none⟩) n cap, w, ?_, by simpa using h, Side.refl w⟩
      simp [Builtin.append_, run_underlying ht, sizeOf, typeInfo, hi, Builtin.lenOf, Builtin.firstCells, h3, storeCells]
    · by_cases hroom : n + m ≤ cap
      · have hfit : n * i.size + news.length ≤ cur.size := by
          rw [hl, h5, ← Nat.add_mul]; exact Nat.mul_le_mul_right _ hroom
        have hr := run_append_room (P := P) w t ty e i ht hi g n cap cur hF.heap a m c news hl ha h1 hroom hfit
        refine ⟨_, _, hr, ?_, (Side.refl w).setRow _ _⟩
        have hlen : (List.take (n * i.size) cur.toList).length = n * i.size := by simp; omega
        have hS := Sat.slOf (sz := i.size) (n := n + m) (cap := cap) (hF.setRow (cs' := (cur.toList.take (n * i.size) ++ news ++ cur.toList.drop (n * i.size + news.length)).toArray)) hroom h4 (by
          simp; omega)
        refine hS.to ?_
        congr 2
        simp only []
        rw [h6, List.take_left' (by rw [List.length_append, hxs, hl, Nat.add_mul])]
      · have holds : At w ⟨g, 0, none⟩ xs := by
          have := h.rds.2
          rcases this with ⟨h, _⟩ | ⟨a', c', h, h'⟩
          · cases h
          · cases h; exact h'
        have hfit : Builtin.nextslicecap (n + m) cap * i.bytes ≤ 281474976710656 := growslice_fits (by omega) hbytes
        have hr := run_append_grow (P := P) w t ty e i z ht hi hz ⟨g, 0, none⟩ n cap xs hxs holds a m c news hl ha (by omega) (by omega) hfit
        exact ⟨_, _, hr, fin cap F hF.right, ((Side.refl w).drew).alloc _⟩
end
theorem wpList_append_run {P : Program} {w w' : World} {ops : Array Oper} {rest : List Oper} {o : Oper} {a : Act} {Q : Exit → Act → World → Prop} {v xv v' : Value} {t ty : TypeId}
    (hrun : (Builtin.append_ #[t, t] ty #[v, xv]).run P w = .ok v' w') (s x : Operand)
    (hg : o.guard = none) (hty : o.type = ty) (hop : o.op = Op.call { callee := Callee.builtin Builtin.append, args := #[s, x], argTypes := #[t, t] })
    (hs : a.eval s = v) (hx : a.eval x = xv)
    (hK : wpList P ops Q rest (a.put o.dst v') w') : wpList P ops Q (o :: rest) a w := by
  refine wpList_plain hg fun K hK' => ?_
  subst hty hs hx
  unfold Oper.wp
  simp [execOp, hop, resolve, invoke, builtin, hrun, Result.andThen]
  exact hK' _ _ hK
end Go.SL
end
section
namespace Go.SL
set_option linter.unusedVariables false
set_option linter.unusedSimpArgs false
open Go.RowKit
abbrev KV := List (Int × Value)
def kget {α : Type} (M : List (Int × α)) (x : Int) : Option α := (M.find? fun p => p.1 == x).map Prod.snd
def upd {α : Type} (M : List (Int × α)) (x : Int) (v : α) : List (Int × α) := if (kget M x).isSome then M.map (fun p => if p.1 == x then (x, v) else p) else M ++ [(x, v)]
def del {α : Type} (M : List (Int × α)) (x : Int) : List (Int × α) := M.filter fun p => !(p.1 == x)
def raw (M : KV) : List (Value × Value) := M.map fun p => (.int .i64 p.1, p.2)
def IsMap (o : Obj) (M : KV) : Prop := ∃ es clock, o = .map es clock ∧ es.toList.map (fun e => (e.key, e.val)) = raw M ∧ (M.map Prod.fst).Nodup ∧
  (∀ x ∈ es.toList, x.born < clock) ∧ (es.toList.map (·.born)).Nodup
def mp (b : Nat) (M : KV) : Assn := fun h => ∃ o, IsMap o M ∧ h = one b o
theorem isMap_empty : IsMap (.map #[] 0) [] := ⟨#[], 0, rfl, rfl, List.nodup_nil, by simp, by simp⟩
section
variable {P : Program} {w : World}
theorem findNow_int (k : IntKind) (x : Int) : ∀ (es : List MapEntry) (M : KV) (i : Nat), es.map (fun e => (e.key, e.val)) = raw M →
    Instr.findNow (.int k) (.int .i64 x) es i = some (((M.findIdx? fun p => p.1 == x).bind fun j => (M[j]?).map fun p => (i + j, p.2))) := by
  intro es
  induction es with
  | nil => intro M i h; cases M with
    | nil => rfl
    | cons p M => simp [raw] at h
  | cons e es ih => intro M i h; cases M with
    | nil => simp [raw] at h
    | cons p M =>
      simp only [raw, List.map_cons, List.cons.injEq, Prod.mk.injEq] at h
      obtain ⟨⟨hk, hv⟩, hr⟩ := h
      have ih' := ih M (i + 1) hr
      unfold Instr.findNow
      rw [hk]
      by_cases hx : x = p.1
      · subst hx
        simp [Instr.sameNow, List.findIdx?_cons, hv]
      · have : (p.1 == x) = false := by simp; omega
        have hxp : (x == p.1) = false := by simp; omega
        simp only [Instr.sameNow, if_true, hxp, ih', List.findIdx?_cons, this]
        cases hf : M.findIdx? (fun p => p.1 == x) with
        | none => simp
        | some j => simp [Nat.add_assoc, Nat.add_comm 1 j]
theorem look_eq (M : KV) (x : Int) : kget M x = (M.findIdx? fun p => p.1 == x).bind fun j => (M[j]?).map Prod.snd := by
  unfold kget
  induction M with
  | nil => rfl
  | cons p M ih =>
    simp only [List.find?_cons, List.findIdx?_cons]
    by_cases hx : (p.1 == x) = true
    · simp [hx]
    · simp only [Bool.not_eq_true] at hx
      simp only [hx, ih]
      cases hf : M.findIdx? (fun p => p.1 == x) with
      | none => simp
      | some j => simp
theorem run_checkKey_int (em : Bool) (n : Nat) {t : TypeId} {k : IntKind} (ht : P.underlying t = some (.int k)) (v : Value) : (Instr.checkKey em (n + 1) t v).run P w = .ok () w := by
  unfold Instr.checkKey
  simp [run_underlying ht]
theorem run_findKey_int {t : TypeId} {k : IntKind} (ht : P.underlying t = some (.int k)) (x : Int) {es : List MapEntry} {M : KV} (h : es.map (fun e => (e.key, e.val)) = raw M) :
    (Instr.findKey t (.int .i64 x) es).run P w = .ok ((M.findIdx? fun p => p.1 == x).bind fun j => (M[j]?).map fun p => (j, p.2)) w := by
  unfold Instr.findKey
  simp [run_underlying ht, findNow_int k x es M 0 h]
theorem run_getObj_map {b : Nat} {es : Array MapEntry} {clock : Nat} (h : w.heap[b]? = some (.map es clock)) : (getObj b).run P w = .ok (.map es clock) w := by
  simp [getObj, Sem.run, h]
theorem run_lookup_int {t kt e : TypeId} {k : IntKind} (ht : P.underlying t = some (.map kt e)) (hk : P.underlying kt = some (.int k)) {z : Value} (hz : (zeroValue e).run P w = .ok z w)
    {b : Nat} {o : Obj} {M : KV} (hb : w.heap[b]? = some o) (hm : IsMap o M) (x : Int) (ok : Bool) :
    (Instr.lookup t (.map (some b)) (.int .i64 x) ok).run P w = .ok (if ok then .tuple #[(kget M x).getD z, .bool (kget M x).isSome] else (kget M x).getD z) w := by
  obtain ⟨es, clock, rfl, hes, hnd, _⟩ := hm
  simp only [Instr.lookup, Sem.run_bind, run_underlying ht, run_getObj_map hb, Sem.run_pure, Result.andThen, run_checkKey_int _ _ hk, run_findKey_int hk x hes]
  rw [look_eq]
  cases hf : M.findIdx? (fun p => p.1 == x) with
  | none => simp [hz]
  | some j =>
    have hj : j < M.length := by
      have := List.findIdx?_eq_some_iff_findIdx_eq.1 hf
      exact this.1
    simp [List.getElem?_eq_getElem hj]
theorem keys_upd {α : Type} (M : List (Int × α)) (x : Int) (v : α) : (upd M x v).map Prod.fst = if (kget M x).isSome then M.map Prod.fst else M.map Prod.fst ++ [x] := by
  unfold upd
  split
  · rw [List.map_map]
    apply List.map_congr_left
    intro p _
    show (if (p.1 == x) = true then (x, v) else p).1 = p.1
    split
    · rename_i h; exact (by simpa using h : p.1 = x).symm
    · rfl
  · simp
theorem look_none {α : Type} {M : List (Int × α)} {x : Int} : kget M x = none ↔ x ∉ M.map Prod.fst := by
  unfold kget
  simp only [Option.map_eq_none_iff, List.find?_eq_none, List.mem_map, beq_iff_eq, not_exists, not_and]
theorem getElem?_modify' {α : Type} (l : List α) (j i : Nat) (f : α → α) : (l.modify j f)[i]? = if j = i then l[i]?.map f else l[i]? := by
  rw [List.getElem?_modify]
  by_cases h : j = i
  · simp [h]
  · simp [h]
theorem nodup_upd {α : Type} {M : List (Int × α)} (h : (M.map Prod.fst).Nodup) (x : Int) (v : α) : ((upd M x v).map Prod.fst).Nodup := by
  rw [keys_upd]
  split
  · exact h
  · rename_i hn
    have : kget M x = none := by simpa using hn
    rw [look_none] at this
    rw [List.nodup_append]
    exact ⟨h, by simp, by intro a ha b hb; simp at hb; subst hb; exact fun e => this (e ▸ ha)⟩
theorem raw_modify {M : KV} (hnd : (M.map Prod.fst).Nodup) {x : Int} {j : Nat} (hj : M.findIdx? (fun p => p.1 == x) = some j) (v : Value) : upd M x v = M.modify j fun _ => (x, v) := by
  have hl : (kget M x).isSome = true := by
    rw [look_eq, hj]
    have hj' := (List.findIdx?_eq_some_iff_findIdx_eq.1 hj).1
    simp [List.getElem?_eq_getElem hj']
  unfold upd
  rw [if_pos hl]
  apply List.ext_getElem?
  intro i
  rw [List.getElem?_map, getElem?_modify']
  have hj2 := List.findIdx?_eq_some_iff_getElem.1 hj
  obtain ⟨hjl, hjx, hjm⟩ := hj2
  by_cases hi : i < M.length
  · rw [List.getElem?_eq_getElem hi]
    by_cases hij : j = i
    · subst hij
      simp only [Option.map_some, hjx, if_true]
    · have : (M[i].1 == x) = false := by
        rw [Bool.eq_false_iff]
        intro hx
        apply hij
        have h1 : M[i].1 = x := by simpa using hx
        have h2 : M[j].1 = x := by simpa using hjx
        exact (List.getElem?_inj (l := M.map Prod.fst) (by simpa using hjl) hnd).1 (by simp [List.getElem?_eq_getElem hjl, List.getElem?_eq_getElem hi, h1, h2])
      simp only [Option.map_some, this, if_neg hij, Bool.false_eq_true, if_false]
  · simp [List.getElem?_eq_none (Nat.le_of_not_lt hi)]
theorem run_mapUpdate_int {t kt e : TypeId} {k : IntKind} (ht : P.underlying t = some (.map kt e)) (hk : P.underlying kt = some (.int k))
    {b : Nat} {o : Obj} {M : KV} (hb : w.heap[b]? = some o) (hm : IsMap o M) (x : Int) (v : Value) :
    ∃ o', (Instr.mapUpdate t (.map (some b)) (.int .i64 x) v).run P w = .ok () { w with heap := w.heap.setIfInBounds b o' } ∧ IsMap o' (upd M x v) := by
  obtain ⟨es, clock, rfl, hes, hnd, hborn, hbn⟩ := hm
  have hset : ∀ o', (setObj b o').run P w = .ok () { w with heap := w.heap.setIfInBounds b o' } := fun o' => by simp [setObj, Sem.run, hb]
  simp only [Instr.mapUpdate, Sem.run_bind, run_underlying ht, run_getObj_map hb, Result.andThen, run_checkKey_int _ _ hk, run_findKey_int hk x hes]
  have hlen : es.toList.length = M.length := by have := congrArg List.length hes; simpa [raw] using this
  cases hf : M.findIdx? (fun p => p.1 == x) with
  | none =>
    refine ⟨_, by simp only [Option.bind]; exact hset _, es.push _, _, rfl, ?_, nodup_upd hnd x v, ?_, ?_⟩
    · have hln : kget M x = none := by rw [look_eq, hf]; rfl
      simp [upd, hln, raw, hes]
    · intro y hy
      simp only [Array.toList_push, List.mem_append, List.mem_singleton] at hy
      rcases hy with hy | rfl
      · have := hborn y hy; omega
      · simp
    · simp only [Array.toList_push, List.map_append, List.map_cons, List.map_nil]
      rw [List.nodup_append]
      refine ⟨hbn, by simp, ?_⟩
      intro a ha c hc
      simp at hc
      obtain ⟨y, hy, rfl⟩ := List.mem_map.1 ha
      have := hborn y hy
      omega
  | some j =>
    have hj := (List.findIdx?_eq_some_iff_findIdx_eq.1 hf).1
    have hjx := (List.findIdx?_eq_some_iff_getElem.1 hf).2.1
    have hje : j < es.size := by rw [← Array.length_toList, hlen]; exact hj
    have hkey : es[j].key = .int .i64 x := by
      have := congrArg (fun l => l[j]?) hes
      simp only [raw, List.getElem?_map, Array.getElem?_toList, Array.getElem?_eq_getElem hje, List.getElem?_eq_getElem hj, Option.map_some, Option.some.injEq, Prod.mk.injEq] at this
      rw [this.1]
      have : M[j].1 = x := by simpa using hjx
      rw [this]
    have hstay : (Instr.keyThatStays (.int .i64 x) (.int .i64 x)).run P w = .ok (.int .i64 x) w := by
      simp [Instr.keyThatStays, Instr.sameBits]
    refine ⟨_, by
      simp only [Option.bind, List.getElem?_eq_getElem hj, Option.map_some, Array.getElem?_eq_getElem hje, Option.getD_some, hkey, Sem.run_bind, hstay, Result.andThen]
      exact hset _, es.modify j _, clock, rfl, ?_, nodup_upd hnd x v, ?_, ?_⟩
    · rw [raw_modify hnd hf]
      simp only [Array.toList_modify]
      apply List.ext_getElem?
      intro i
      have hi := congrArg (fun l => l[i]?) hes
      simp only [raw, List.getElem?_map] at hi
      simp only [List.getElem?_map, getElem?_modify', raw]
      by_cases hij : j = i
      · subst hij
        simp only [Array.getElem?_toList, Array.getElem?_eq_getElem hje, List.getElem?_eq_getElem hj]
        simp
      · simp only [hij, if_false]
        exact hi
    · intro y hy
      rw [Array.toList_modify] at hy
      obtain ⟨i, hi⟩ := List.mem_iff_getElem?.1 hy
      rw [getElem?_modify'] at hi
      cases hei : es.toList[i]? with
      | none => rw [hei] at hi; simp at hi
      | some z =>
        rw [hei] at hi
        have hz := hborn z (List.mem_iff_getElem?.2 ⟨i, hei⟩)
        split at hi
        · simp only [Option.map_some, Option.some.injEq] at hi
          subst hi; exact hz
        · simp only [Option.some.injEq] at hi
          subst hi; exact hz
    · have : (es.modify j fun e => { e with key := Value.int .i64 x, val := v }).toList.map (·.born) = es.toList.map (·.born) := by
        rw [Array.toList_modify]
        apply List.ext_getElem?
        intro i
        simp only [List.getElem?_map, getElem?_modify']
        cases es.toList[i]? with
        | none => simp
        | some z => by_cases hij : j = i <;> simp [hij]
      rw [this]; exact hbn
theorem Sat.mpHeap {b : Nat} {M : KV} {F : Assn} (h : Sat w (mp b M * F)) : ∃ o, IsMap o M ∧ w.heap[b]? = some o ∧ Sat w (pt b o * F) := by
  obtain ⟨m, a, h1, h2, ⟨o, ho, rfl⟩, f, d, rfl⟩ := h
  exact ⟨o, ho, a b o (by simp [join, one]), _, a, one b o, h2, rfl, f, d, rfl⟩
theorem Sat.mpOf {b : Nat} {M : KV} {F : Assn} {o : Obj} (h : Sat w (pt b o * F)) (ho : IsMap o M) : Sat w (mp b M * F) := h.weak fun _ hk => ⟨o, ho, hk⟩
theorem Sat.setObj {b : Nat} {o : Obj} {F : Assn} (h : Sat w (pt b o * F)) (o' : Obj) : Sat { w with heap := w.heap.setIfInBounds b o' } (pt b o' * F) :=
  h.upd (by simp [h.lt]) fun c hc => by simp only [Array.getElem?_setIfInBounds]; rw [if_neg (by omega)]
def CellsSame (w w' : World) : Prop := (∀ a, w'.cell? a = w.cell? a) ∧ ∀ a, w'.frozen? a = w.frozen? a
theorem cellsSame_setObj {w : World} {b : Nat} {o o' : Obj} {M M' : KV} (hb : w.heap[b]? = some o) (hm : IsMap o M) (hm' : IsMap o' M') : CellsSame w { w with heap := w.heap.setIfInBounds b o' } := by
  obtain ⟨es, clock, rfl, _⟩ := hm
  obtain ⟨es', clock', rfl, _⟩ := hm'
  have hlt : b < w.heap.size := (Array.getElem?_eq_some_iff.1 hb).1
  have hg : ∀ c, (w.heap.setIfInBounds b (.map es' clock'))[c]? = if b = c then some (.map es' clock') else w.heap[c]? := by
    intro c
    rw [Array.getElem?_setIfInBounds]
    by_cases hc : b = c
    · subst hc; simp [hlt]
    · simp [hc]
  constructor <;> intro a <;> by_cases h : b = a.block
  · subst h; simp only [World.cell?, hb, hg, if_true]
  · simp only [World.cell?, hg, if_neg h]
  · subst h; simp only [World.frozen?, hb, hg, if_true]
  · simp only [World.frozen?, hg, if_neg h]
theorem side_setObj (w : World) (b : Nat) (o : Obj) : Side w { w with heap := w.heap.setIfInBounds b o } := ⟨rfl, rfl, rfl, by simp⟩
theorem Sat.lookup {t kt e : TypeId} {k : IntKind} (ht : P.underlying t = some (.map kt e)) (hk : P.underlying kt = some (.int k)) {z : Value} (hz : (zeroValue e).run P w = .ok z w)
    {b : Nat} {M : KV} {F : Assn} (h : Sat w (mp b M * F)) (x : Int) (ok : Bool) :
    (Instr.lookup t (.map (some b)) (.int .i64 x) ok).run P w = .ok (if ok then .tuple #[(kget M x).getD z, .bool (kget M x).isSome] else (kget M x).getD z) w := by
  obtain ⟨o, ho, hb, _⟩ := h.mpHeap
  exact run_lookup_int ht hk hz hb ho x ok
theorem Sat.mapUpdate {t kt e : TypeId} {k : IntKind} (ht : P.underlying t = some (.map kt e)) (hk : P.underlying kt = some (.int k))
    {b : Nat} {M : KV} {F : Assn} (h : Sat w (mp b M * F)) (x : Int) (v : Value) :
    ∃ w', (Instr.mapUpdate t (.map (some b)) (.int .i64 x) v).run P w = .ok () w' ∧ Sat w' (mp b (SL.upd M x v) * F) ∧ Side w w' ∧ CellsSame w w' := by
  obtain ⟨o, ho, hb, hp⟩ := h.mpHeap
  obtain ⟨o', hr, ho'⟩ := run_mapUpdate_int ht hk hb ho x v
  exact ⟨_, hr, (hp.setObj o').mpOf ho', side_setObj _ _ _, cellsSame_setObj hb ho ho'⟩
theorem del_eq {M : KV} (hnd : (M.map Prod.fst).Nodup) {x : Int} {j : Nat} (hj : M.findIdx? (fun p => p.1 == x) = some j) : del M x = M.eraseIdx j := by
  induction M generalizing j with
  | nil => simp at hj
  | cons p M ih =>
    rw [List.findIdx?_cons] at hj
    by_cases h : (p.1 == x) = true
    · simp only [h, if_true, Option.some.injEq] at hj
      subst hj
      have hx : p.1 = x := by simpa using h
      unfold del
      simp only [List.filter_cons, h, Bool.not_true, Bool.false_eq_true, if_false, List.eraseIdx_cons_zero]
      rw [List.filter_eq_self]
      intro q hq
      simp only [List.map_cons, List.nodup_cons] at hnd
      have : q.1 ≠ x := fun e => hnd.1 (hx ▸ e ▸ List.mem_map_of_mem hq)
      simpa using this
    · simp only [h, Bool.false_eq_true, if_false, Option.map_eq_some_iff] at hj
      obtain ⟨i, hi, rfl⟩ := hj
      simp only [List.map_cons, List.nodup_cons] at hnd
      have := ih hnd.2 hi
      unfold del at this ⊢
      simp only [List.filter_cons, h, Bool.not_false, if_true, List.eraseIdx_cons_succ, this]
theorem del_none {M : KV} {x : Int} (hj : M.findIdx? (fun p => p.1 == x) = none) : del M x = M := by
  unfold del
  rw [List.filter_eq_self]
  intro p hp
  have := List.findIdx?_eq_none_iff.1 hj p hp
  simpa using this
theorem run_delete_int {t kt e : TypeId} {k : IntKind} (ht : P.underlying t = some (.map kt e)) (hk : P.underlying kt = some (.int k)) (ty u : TypeId)
    {b : Nat} {o : Obj} {M : KV} (hb : w.heap[b]? = some o) (hm : IsMap o M) (x : Int) :
    ∃ o', (Builtin.delete_ #[t, u] ty #[.map (some b), .int .i64 x]).run P w = .ok (.tuple #[]) { w with heap := w.heap.setIfInBounds b o' } ∧ IsMap o' (del M x) := by
  obtain ⟨es, clock, rfl, hes, hnd, hborn, hbn⟩ := hm
  have hset : ∀ o', (setObj b o').run P w = .ok () { w with heap := w.heap.setIfInBounds b o' } := fun o' => by simp [setObj, Sem.run, hb]
  have hlen : es.toList.length = M.length := by have := congrArg List.length hes; simpa [raw] using this
  simp only [Builtin.delete_, Sem.run_bind, run_underlying ht, run_getObj_map hb, Result.andThen, run_checkKey_int _ _ hk, run_findKey_int hk x hes, List.getElem?_toArray, List.getElem?_cons_zero, List.getElem?_cons_succ]
  cases hf : M.findIdx? (fun p => p.1 == x) with
  | none =>
    refine ⟨_, by simp only [Option.bind, Sem.run_bind, hset, Result.andThen, Sem.run_pure], es, clock, rfl, ?_, ?_, hborn, hbn⟩
    · rw [del_none hf]; exact hes
    · rw [del_none hf]; exact hnd
  | some j =>
    have hj := (List.findIdx?_eq_some_iff_findIdx_eq.1 hf).1
    have hsub : (es.eraseIdxIfInBounds j).toList = es.toList.eraseIdx j := by
      have hje : j < es.size := by rw [← Array.length_toList, hlen]; exact hj
      simp [Array.eraseIdxIfInBounds, hje]
    refine ⟨_, by simp only [Option.bind, List.getElem?_eq_getElem hj, Option.map_some, Sem.run_bind, hset, Result.andThen, Sem.run_pure], es.eraseIdxIfInBounds j, clock, rfl, ?_, ?_, ?_, ?_⟩
    · rw [del_eq hnd hf, hsub]
      unfold raw at hes ⊢
      have em : ∀ {α β : Type} (f : α → β) (l : List α) (i : Nat), (l.eraseIdx i).map f = (l.map f).eraseIdx i := by
        intro α β f l
        induction l with
        | nil => intro i; simp
        | cons a l ih => intro i; cases i with
          | zero => rfl
          | succ i => simp [ih]
      rw [em, em, hes]
    · exact hnd.sublist (List.filter_sublist.map _)
    · intro y hy
      rw [hsub] at hy
      exact hborn y (List.mem_of_mem_eraseIdx hy)
    · rw [hsub]
      exact hbn.sublist ((List.eraseIdx_sublist _ _).map _)
theorem Sat.delete {t kt e : TypeId} {k : IntKind} (ht : P.underlying t = some (.map kt e)) (hk : P.underlying kt = some (.int k)) (ty u : TypeId)
    {b : Nat} {M : KV} {F : Assn} (h : Sat w (mp b M * F)) (x : Int) :
    ∃ w', (Builtin.delete_ #[t, u] ty #[.map (some b), .int .i64 x]).run P w = .ok (.tuple #[]) w' ∧ Sat w' (mp b (del M x) * F) ∧ Side w w' ∧ CellsSame w w' := by
  obtain ⟨o, ho, hb, hp⟩ := h.mpHeap
  obtain ⟨o', hr, ho'⟩ := run_delete_int ht hk ty u hb ho x
  exact ⟨_, hr, (hp.setObj o').mpOf ho', side_setObj _ _ _, cellsSame_setObj hb ho ho'⟩
def Iter (b : Nat) (o : Obj) (M D : KV) (it : Obj) : Prop := ∃ es clock, ∃ ds : List MapEntry, o = .map es clock ∧ es.toList.map (fun e => (e.key, e.val)) = raw M ∧ (M.map Prod.fst).Nodup ∧
  (∀ x ∈ es.toList, x.born < clock) ∧ (es.toList.map (·.born)).Nodup ∧ it = .mapIter (some b) clock (ds.map (·.born)).toArray clock ∧
  (∀ x ∈ ds, x ∈ es.toList) ∧ (ds.map (·.born)).Nodup ∧ ds.map (fun e => (e.key, e.val)) = raw D
theorem run_range_int {t kt e : TypeId} (ht : P.underlying t = some (.map kt e)) {b : Nat} {o : Obj} {M : KV} (hb : w.heap[b]? = some o) (hm : IsMap o M) :
    ∃ it, (Instr.range t (.map (some b))).run P w = .ok (.pointer (some ⟨w.heap.size, 0, none⟩)) (w.alloc it) ∧ Iter b o M [] it := by
  obtain ⟨es, clock, rfl, hes, hnd, hborn, hbn⟩ := hm
  refine ⟨.mapIter (some b) clock #[] clock, ?_, es, clock, [], rfl, hes, hnd, hborn, hbn, rfl, by simp, List.nodup_nil, rfl⟩
  simp [Instr.range, run_underlying ht, run_getObj_map hb]
theorem iter_nodup {b : Nat} {o : Obj} {M D : KV} {it : Obj} (h : Iter b o M D it) : (D.map Prod.fst).Nodup ∧ (∀ p ∈ D, p ∈ M) := by
  obtain ⟨es, clock, ds, rfl, hes, hnd, hborn, hbn, rfl, hsub, hdn, hD⟩ := h
  have hsubM : ∀ p ∈ D, p ∈ M := by
    intro p hp
    have h1 : (Value.int .i64 p.1, p.2) ∈ raw D := List.mem_map.2 ⟨p, hp, rfl⟩
    rw [← hD] at h1
    obtain ⟨e, he, hep⟩ := List.mem_map.1 h1
    have h2 : (e.key, e.val) ∈ raw M := by rw [← hes]; exact List.mem_map.2 ⟨e, hsub e he, rfl⟩
    rw [hep] at h2
    obtain ⟨q, hq, hqp⟩ := List.mem_map.1 h2
    simp at hqp
    have : q = p := Prod.ext hqp.1 hqp.2
    exact this ▸ hq
  refine ⟨?_, hsubM⟩
  have hkeys : (es.toList.map (·.key)).Nodup := by
    have e1 : es.toList.map (·.key) = (M.map Prod.fst).map (Value.int .i64) := by
      have := congrArg (List.map Prod.fst) hes
      simpa [raw, List.map_map, Function.comp_def] using this
    rw [e1]
    exact List.Pairwise.map _ (fun a b hab e => hab (by simpa using e)) hnd
  have e2 : ds.map (·.key) = (D.map Prod.fst).map (Value.int .i64) := by
    have := congrArg (List.map Prod.fst) hD
    simpa [raw, List.map_map, Function.comp_def] using this
  have hdk : (ds.map (·.key)).Nodup := by
    have hds : ds.Nodup := by
      have : ds.Pairwise (fun a b => a.born ≠ b.born) := List.pairwise_map.1 hdn
      exact this.imp fun h e => h (by rw [e])
    have hinj : ∀ a ∈ es.toList, ∀ c ∈ es.toList, a.key = c.key → a = c := by
      intro a ha c hc hk
      obtain ⟨i, hi, rfl⟩ := List.getElem_of_mem ha
      obtain ⟨j, hj, rfl⟩ := List.getElem_of_mem hc
      have := (List.getElem?_inj (l := es.toList.map (·.key)) (i := i) (j := j) (by simpa using hi) hkeys).1 (by
        simp only [List.getElem?_map, List.getElem?_eq_getElem hi, List.getElem?_eq_getElem hj, Option.map_some, hk])
      subst this; rfl
    rw [List.nodup_iff_pairwise_ne, List.pairwise_map]
    exact hds.imp_of_mem fun ha hb hab e => hab (hinj _ (hsub _ ha) _ (hsub _ hb) e)
  rw [e2] at hdk
  exact (List.pairwise_map.1 hdk).imp (fun h e => h (by rw [e]))
theorem Sat.next {b r : Nat} {o it : Obj} {M D : KV} {F : Assn} (h : Sat w (pt r it * F)) (hb : w.heap[b]? = some o) (hi : Iter b o M D it) :
    (D.Perm M ∧ ∀ ty, (Instr.next (.pointer (some ⟨r, 0, none⟩)) false ty).run P w = .ok (.tuple #[.bool false]) w) ∨
    ∃ p it' w', p ∈ M ∧ p.1 ∉ D.map Prod.fst ∧ (∀ ty, (Instr.next (.pointer (some ⟨r, 0, none⟩)) false ty).run P w = .ok (.tuple #[.bool true, .int .i64 p.1, p.2]) w') ∧
      Sat w' (pt r it' * F) ∧ Iter b o M (D ++ [p]) it' ∧ Side w w' ∧ w'.heap[b]? = some o ∧
      (Instr.entry (.pointer (some ⟨r, 0, none⟩))).run P w' = .ok (.tuple #[.int .i64 p.1, p.2]) w' := by
  have hnd0 := iter_nodup hi
  obtain ⟨es, clock, ds, rfl, hes, hnd, hborn, hbn, rfl, hsub, hdn, hD⟩ := hi
  have hr := h.heap
  have hrb : r ≠ b := by rintro rfl; rw [hr] at hb; cases hb
  rcases run_next_at (P := P) w 0 r b clock clock _ es clock hr hb hborn (Nat.le_refl _) with ⟨hz, hrun⟩ | ⟨e, he, w1, hw1, hrun⟩
  · left
    refine ⟨?_, fun ty => hrun⟩
    have hMn : M.Nodup := (List.pairwise_map.1 hnd).imp (fun h e => h (by rw [e]))
    have hDn : D.Nodup := (List.pairwise_map.1 hnd0.1).imp (fun h e => h (by rw [e]))
    rw [List.perm_ext_iff_of_nodup hDn hMn]
    intro p
    refine ⟨hnd0.2 p, fun hp => ?_⟩
    have h1 : (Value.int .i64 p.1, p.2) ∈ raw M := List.mem_map.2 ⟨p, hp, rfl⟩
    rw [← hes] at h1
    obtain ⟨e, he, hep⟩ := List.mem_map.1 h1
    have hsz : leftOf es (ds.map (·.born)).toArray = #[] := Array.eq_empty_of_size_eq_zero hz
    have hin : e.born ∈ ds.map (·.born) := by
      apply Classical.byContradiction
      intro hn
      have : e ∈ leftOf es (ds.map (·.born)).toArray := by
        unfold leftOf
        rw [Array.mem_filter]
        exact ⟨by simpa using he, by simpa using hn⟩
      rw [hsz] at this
      simp at this
    obtain ⟨d, hd, hdb⟩ := List.mem_map.1 hin
    have hde : d = e := by
      obtain ⟨i, hi, rfl⟩ := List.getElem_of_mem (hsub d hd)
      obtain ⟨j, hj, rfl⟩ := List.getElem_of_mem he
      have := (List.getElem?_inj (l := es.toList.map (·.born)) (i := i) (j := j) (by simpa using hi) hbn).1 (by
        simp only [List.getElem?_map, List.getElem?_eq_getElem hi, List.getElem?_eq_getElem hj, Option.map_some, hdb])
      subst this; rfl
    have h2 : (Value.int .i64 p.1, p.2) ∈ raw D := by rw [← hD, ← hep, ← hde]; exact List.mem_map.2 ⟨d, hd, rfl⟩
    obtain ⟨q, hq, hqp⟩ := List.mem_map.1 h2
    simp at hqp
    have : q = p := Prod.ext hqp.1 hqp.2
    exact this ▸ hq
  · right
    have he' : e ∈ es.toList ∧ e.born ∉ ds.map (·.born) := by
      unfold leftOf at he
      simpa using he
    have h1 : (e.key, e.val) ∈ raw M := by rw [← hes]; exact List.mem_map.2 ⟨e, he'.1, rfl⟩
    obtain ⟨p, hp, hpe⟩ := List.mem_map.1 h1
    simp only [Prod.mk.injEq] at hpe
    have hS : Sat (Go.ChangeMaps.setBlock w1 r (.mapIter (some b) clock (((ds.map (·.born)).toArray).push e.born) clock)) (pt r (.mapIter (some b) clock (((ds.map (·.born)).toArray).push e.born) clock) * F) := by
      refine h.upd ?_ fun c hc => ?_
      · rcases hw1 with rfl | rfl <;> simp [Go.ChangeMaps.setBlock, h.lt]
      · rcases hw1 with rfl | rfl <;> (simp only [Go.ChangeMaps.setBlock, Array.getElem?_setIfInBounds, World.drew]; rw [if_neg (by omega)])
    have hI : Iter b (.map es clock) M (D ++ [p]) (.mapIter (some b) clock (((ds.map (·.born)).toArray).push e.born) clock) := by
      refine ⟨es, clock, ds ++ [e], rfl, hes, hnd, hborn, hbn, by simp, ?_, ?_, ?_⟩
      · intro x hx
        rcases List.mem_append.1 hx with hx | hx
        · exact hsub x hx
        · simp at hx; exact hx ▸ he'.1
      · rw [List.map_append, List.nodup_append]
        refine ⟨hdn, by simp, ?_⟩
        intro a ha c hc
        simp at hc
        exact fun e' => he'.2 (hc ▸ e' ▸ ha)
      · rw [List.map_append, hD]
        simp [raw, hpe.1, hpe.2]
    have hbb : (Go.ChangeMaps.setBlock w1 r (.mapIter (some b) clock (((ds.map (·.born)).toArray).push e.born) clock)).heap[b]? = some (.map es clock) := by
      rcases hw1 with rfl | rfl <;> (simp only [Go.ChangeMaps.setBlock, Array.getElem?_setIfInBounds, World.drew]; rw [if_neg (by omega)]; exact hb)
    refine ⟨p, _, _, hp, ?_, fun ty => by rw [hpe.1, hpe.2]; exact hrun, hS, hI, ?_, hbb, ?_⟩
    · have := (iter_nodup hI).1
      rw [List.map_append, List.nodup_append] at this
      intro hin
      exact this.2.2 _ hin p.1 (by simp) rfl
    · rcases hw1 with rfl | rfl <;> exact ⟨rfl, rfl, rfl, by simp [Go.ChangeMaps.setBlock]⟩
    · rw [hpe.1, hpe.2]
      exact run_entry_at _ r b clock _ es clock e hS.heap hbb he'.1 hbn
theorem run_makeMap_some {t k e : TypeId} (ht : P.underlying t = some (.map k e)) (kd : IntKind) (n : Int) (w : World) : (Instr.makeMap t (some (.int kd n))).run P w = .ok (.map (some w.heap.size)) (w.alloc (.map #[] 0)) := by
  simp [Instr.makeMap, run_underlying ht, asInt, asIntOf]
theorem nodup_le {l m : List Int} (h : l.Nodup) (hs : ∀ x ∈ l, x ∈ m) : l.length ≤ m.length := by
  induction l generalizing m with
  | nil => simp
  | cons a l ih =>
    rw [List.nodup_cons] at h
    have ha := hs a (by simp)
    have := ih (m := m.erase a) h.2 (fun x hx => (List.mem_erase_of_ne (by rintro rfl; exact h.1 hx)).2 (hs x (by simp [hx])))
    rw [List.length_erase_of_mem ha] at this
    have := List.length_pos_of_mem ha
    simp; omega
theorem iter_le {b : Nat} {o : Obj} {M D : KV} {it : Obj} (h : Iter b o M D it) : D.length ≤ M.length := by
  obtain ⟨h1, h2⟩ := iter_nodup h
  have := nodup_le (m := M.map Prod.fst) h1 (fun x hx => by obtain ⟨p, hp, rfl⟩ := List.mem_map.1 hx; exact List.mem_map_of_mem (h2 p hp))
  simpa using this
theorem look_map {α β : Type} (f : α → β) (M : List (Int × α)) (x : Int) : kget (M.map fun p => (p.1, f p.2)) x = (kget M x).map f := by
  unfold kget
  rw [List.find?_map]
  simp only [Function.comp_def, Option.map_map]
theorem upd_map {α β : Type} (f : α → β) (M : List (Int × α)) (x : Int) (v : α) : SL.upd (M.map fun p => (p.1, f p.2)) x (f v) = (SL.upd M x v).map fun p => (p.1, f p.2) := by
  unfold SL.upd
  rw [look_map]
  simp only [Option.isSome_map]
  split
  · rw [List.map_map, List.map_map]
    apply List.map_congr_left
    intro p _
    simp only [Function.comp_def]
    split <;> rfl
  · simp
theorem look_mem {α : Type} {M : List (Int × α)} {x : Int} {v : α} (h : kget M x = some v) : (x, v) ∈ M := by
  unfold kget at h
  obtain ⟨p, hp, rfl⟩ := Option.map_eq_some_iff.1 h
  have h1 := List.mem_of_find?_eq_some hp
  have h2 := List.find?_some hp
  have : p.1 = x := by simpa using h2
  exact this ▸ h1
theorem look_map_upd {α : Type} (M : List (Int × α)) (x y : Int) (v : α) : kget (M.map fun p => if p.1 == x then (x, v) else p) y = if y = x then (kget M x).map fun _ => v else kget M y := by
  induction M with
  | nil => simp [kget]
  | cons p M ih =>
    have hc : ∀ (q : Int × α) (L : List (Int × α)) (z : Int), kget (q :: L) z = if q.1 = z then some q.2 else kget L z := by
      intro q L z
      unfold kget
      simp only [List.find?_cons]
      by_cases h : q.1 = z
      · simp [h]
      · have : (q.1 == z) = false := by simpa using h
        simp [this, h]
    rw [List.map_cons, hc, hc, hc, ih]
    by_cases h1 : p.1 = x
    · simp only [h1, beq_self_eq_true, if_true]
      by_cases h2 : x = y
      · subst h2; simp
      · have : ¬ y = x := fun e => h2 e.symm
        simp [h2, this]
    · have h1' : (p.1 == x) = false := by simpa using h1
      simp only [h1', Bool.false_eq_true, if_false, h1]
      by_cases h2 : p.1 = y
      · have : ¬ y = x := fun e => h1 (h2.trans e)
        simp [h2, this]
      · simp [h2]
theorem kget_upd {α : Type} (M : List (Int × α)) (x y : Int) (v : α) : kget (SL.upd M x v) y = if y = x then some v else kget M y := by
  unfold SL.upd
  split
  · rename_i hs
    rw [look_map_upd]
    split
    · obtain ⟨z, hz⟩ := Option.isSome_iff_exists.1 hs
      rw [hz]; rfl
    · rfl
  · rename_i hs
    have hn : kget M x = none := by simpa using hs
    unfold kget at hn ⊢
    rw [List.find?_append]
    by_cases hyx : y = x
    · subst hyx
      have : List.find? (fun p => p.1 == y) M = none := by simpa using hn
      simp [this]
    · have h1 : (x == y) = false := by simp; omega
      simp [h1, hyx]
theorem length_upd {α : Type} (M : List (Int × α)) (x : Int) (v : α) : (SL.upd M x v).length = if (kget M x).isSome then M.length else M.length + 1 := by
  unfold SL.upd; split <;> simp
end
end Go.SL
end

/- file, plainly: what a node's block tells is what was written; who has which block; how many are free. -/
import Derived.Test.YtaoohjeaaccnfaaYa
namespace Go.SL
set_option linter.unusedVariables false
set_option linter.unusedSimpArgs false
open Go.RowKit
/-! The bytes of a node, of a row. -/
theorem leP_cons (x : Int) (xs : List Int) : leP (x :: xs) = leN x 2 ++ leP xs := rfl
theorem ptrsOf_cons (l : List UInt8) (o m : Nat) : ptrsOf l o (m + 1) = leV (l.drop o) 2 :: ptrsOf l (o + 2) m := by
  simp only [ptrsOf, List.range_succ_eq_map, List.map_cons, List.map_map]
  congr 1
  apply List.map_congr_left
  intro i _
  simp only [Function.comp, Nat.mul_succ]
  congr 2; omega
theorem ptrsOf_leP (xs : List Int) : ∀ (pre rest : List UInt8), xs.all ptrOk = true → ptrsOf (pre ++ (leP xs ++ rest)) pre.length xs.length = xs := by
  induction xs with
  | nil => intro pre rest _; rfl
  | cons x xs ih =>
    intro pre rest h
    simp only [List.all_cons, Bool.and_eq_true] at h
    rw [List.length_cons, ptrsOf_cons, List.drop_left, leP_cons, List.append_assoc, leV_leN x 2 _ 2 (Nat.le_refl _)]
    have hx := ptrOk_range h.1
    have e : x % (256 : Int) ^ 2 = x := by rw [show (256 : Int) ^ 2 = 65536 by decide]; omega
    rw [e]
    congr 1
    have := ih (pre ++ leN x 2) rest h.2
    rw [List.length_append, leN_length, List.append_assoc] at this
    exact this
theorem encNd_eq {n : Nd} (h16 : n.dr.length = 16) : encNd n = leN n.kd 1 ++ (leN n.lk 2 ++ (leN n.sz 4 ++ (leP n.dr ++ (leN n.rw 2 ++ zs 439)))) := by
  unfold encNd encN0 padTo
  have hl : (leP [n.rw]) = leN n.rw 2 := by simp [leP]
  rw [hl]
  have hlen : (leN n.kd 1 ++ leN n.lk 2 ++ leN n.sz 4 ++ leP n.dr ++ leN n.rw 2).length = 41 := by simp [leN_length, leP_length, h16]
  rw [List.take_append, hlen, List.take_of_length_le (by omega)]
  have hz : (zs 480).take (480 - 41) = zs 439 := by unfold zs; rw [List.take_replicate]; exact congrArg (fun m => List.replicate m 0) (by decide)
  rw [hz]
  simp only [List.append_assoc]
theorem decP_enc {n : Nd} (h16 : n.dr.length = 16) (hok : n.ok = true) : decP (encNd n) = (n, 0) := by
  have hf := Nd.ok_facts hok
  obtain ⟨hk, l0, l1, s0, s1, hd, hr, -, -⟩ := hf
  have hrr := ptrOk_range hr
  rw [encNd_eq h16]
  obtain ⟨kd, lk, sz, dr, rw'⟩ := n
  dsimp only at *
  have e1 : leV (leN kd 1 ++ (leN lk 2 ++ (leN sz 4 ++ (leP dr ++ (leN rw' 2 ++ zs 439))))) 1 = kd := by
    rw [leV_leN kd 1 _ 1 (Nat.le_refl _), show (256 : Int) ^ 1 = 256 by decide]; omega
  have d1 : (leN kd 1 ++ (leN lk 2 ++ (leN sz 4 ++ (leP dr ++ (leN rw' 2 ++ zs 439))))).drop 1 = leN lk 2 ++ (leN sz 4 ++ (leP dr ++ (leN rw' 2 ++ zs 439))) := List.drop_left' (leN_length _ _)
  have d3 : (leN kd 1 ++ (leN lk 2 ++ (leN sz 4 ++ (leP dr ++ (leN rw' 2 ++ zs 439))))).drop 3 = leN sz 4 ++ (leP dr ++ (leN rw' 2 ++ zs 439)) := by
    rw [show 3 = 1 + 2 from rfl, ← List.drop_drop, d1]; exact List.drop_left' (leN_length _ _)
  have d7 : (leN kd 1 ++ (leN lk 2 ++ (leN sz 4 ++ (leP dr ++ (leN rw' 2 ++ zs 439))))).drop 7 = leP dr ++ (leN rw' 2 ++ zs 439) := by
    rw [show 7 = 3 + 4 from rfl, ← List.drop_drop, d3]; exact List.drop_left' (leN_length _ _)
  have d39 : (leN kd 1 ++ (leN lk 2 ++ (leN sz 4 ++ (leP dr ++ (leN rw' 2 ++ zs 439))))).drop 39 = leN rw' 2 ++ zs 439 := by
    rw [show 39 = 7 + 32 from rfl, ← List.drop_drop, d7]; exact List.drop_left' (by rw [leP_length, h16])
  have d41 : (leN kd 1 ++ (leN lk 2 ++ (leN sz 4 ++ (leP dr ++ (leN rw' 2 ++ zs 439))))).drop 41 = zs 439 := by
    rw [show 41 = 39 + 2 from rfl, ← List.drop_drop, d39]; exact List.drop_left' (leN_length _ _)
  have hp : ptrsOf (leN kd 1 ++ (leN lk 2 ++ (leN sz 4 ++ (leP dr ++ (leN rw' 2 ++ zs 439))))) 7 16 = dr := by
    have := ptrsOf_leP dr (leN kd 1 ++ (leN lk 2 ++ leN sz 4)) (leN rw' 2 ++ zs 439) hd
    rw [h16] at this
    have e : (leN kd 1 ++ (leN lk 2 ++ leN sz 4)).length = 7 := by simp [leN_length]
    rw [e] at this
    simpa only [List.append_assoc] using this
  have hn : ndOf (leN kd 1 ++ (leN lk 2 ++ (leN sz 4 ++ (leP dr ++ (leN rw' 2 ++ zs 439))))) = ⟨kd, lk, sz, dr, rw'⟩ := by
    unfold ndOf
    rw [e1, d1, d3, d39, hp, leV_leN lk 2 _ 2 (Nat.le_refl _), leV_leN sz 4 _ 4 (Nat.le_refl _), leV_leN rw' 2 _ 2 (Nat.le_refl _)]
    have a1 : lk % (256 : Int) ^ 2 = lk := by rw [show (256 : Int) ^ 2 = 65536 by decide]; omega
    have a2 : sz % (256 : Int) ^ 4 = sz := by rw [show (256 : Int) ^ 4 = 4294967296 by decide]; omega
    have a3 : rw' % (256 : Int) ^ 2 = rw' := by rw [show (256 : Int) ^ 2 = 65536 by decide]; omega
    rw [a1, a2, a3]
  unfold decP
  rw [hn, d41, hok]
  have hz : (zs 439).all (· == 0) = true := List.all_eq_true.2 fun x hx => by rw [List.eq_of_mem_replicate hx]; rfl
  rw [hz]
  rfl
theorem rowP_enc {l : List Int} (h : l.length = 240) (hok : l.all ptrOk = true) : rowP (leP l) = (l, 0) := by
  have := ptrsOf_leP l [] [] hok
  simp only [List.nil_append, List.append_nil, List.length_nil, h] at this
  unfold rowP
  rw [this, hok]
  rfl
/-! Who has a block. -/
abbrev Own := Nat × Nat × Nat
abbrev frO : Own := (0, 0, 0)
abbrev bmO : Own := (1, 0, 0)
abbrev ndO : Own := (2, 0, 0)
abbrev rwO (id : Nat) : Own := (3, id, 0)
abbrev pgO (id i : Nat) : Own := (4, id, i)
def upO {α : Type} (f : Nat → α) (k : Nat) (x : α) : Nat → α := fun b => if b = k then x else f b
theorem upO_same {α : Type} (f : Nat → α) (k : Nat) (x : α) : upO f k x k = x := if_pos rfl
theorem upO_other {α : Type} (f : Nat → α) {k b : Nat} (x : α) (h : b ≠ k) : upO f k x b = f b := if_neg h
/-- How many are free. -/
def frN (own : Nat → Own) (n : Nat) : Nat := (List.range n).countP fun b => own b == frO
theorem frN_succ (own : Nat → Own) (n : Nat) : frN own (n + 1) = frN own n + if own n = frO then 1 else 0 := by
  unfold frN
  rw [List.range_succ, List.countP_append]
  simp [List.countP_cons]
theorem frN_congr {own own' : Nat → Own} {n : Nat} (h : ∀ b, b < n → own b = own' b) : frN own n = frN own' n := by
  unfold frN
  apply List.countP_congr
  intro b hb
  rw [h b (List.mem_range.1 hb)]
theorem frN_upd {own : Nat → Own} {k : Nat} {x : Own} : ∀ {n : Nat}, k < n → frN (upO own k x) n + (if own k = frO then 1 else 0) = frN own n + if x = frO then 1 else 0
  | n + 1, h => by
    rw [frN_succ, frN_succ]
    by_cases hk : k = n
    · subst hk
      rw [upO_same, frN_congr (own := upO own k x) (own' := own) fun b hb => upO_other _ _ (by omega)]
      omega
    · have := frN_upd (own := own) (x := x) (show k < n by omega)
      rw [upO_other _ _ (by omega : n ≠ k)]
      omega
/-- A bitmap tells just these. -/
structure Bm (n : Nat) (own : Nat → Own) (B : List UInt8) : Prop where
  len : B.length = 480
  bit : ∀ b, b < n → (bitAt B b = true ↔ own b ≠ frO)
theorem Bm.set {n : Nat} {own : Nat → Own} {B : List UInt8} (h : Bm n own B) (hn : n ≤ 3840) {k : Nat} (hk : k < n) (x : Own) (t : Bool) (ht : t = true ↔ x ≠ frO) : Bm n (upO own k x) (setTo B k t) := by
  refine ⟨by rw [setTo_length]; exact h.len, fun b hb => ?_⟩
  rw [bitAt_set (by rw [h.len]; omega)]
  by_cases hbk : b = k
  · subst hbk; rw [if_pos rfl, upO_same]; exact ht
  · rw [if_neg hbk, upO_other _ _ hbk]; exact h.bit b hb
theorem Bm.free_some {n : Nat} {own : Nat → Own} {B : List UInt8} (h : Bm n own B) {k : Nat} (hf : freeOf B n = some k) : k < n ∧ own k = frO := by
  unfold freeOf at hf
  have h1 := List.mem_of_find?_eq_some hf
  have h2 := List.find?_some hf
  have hk := List.mem_range.1 h1
  refine ⟨hk, ?_⟩
  have := (h.bit k hk)
  by_cases h9 : own k = frO
  · exact h9
  · have h10 := this.2 h9
    rw [h10] at h2; simp at h2
theorem Bm.free_none {n : Nat} {own : Nat → Own} {B : List UInt8} (h : Bm n own B) (hf : freeOf B n = none) : frN own n = 0 := by
  unfold freeOf at hf
  rw [List.find?_eq_none] at hf
  unfold frN
  rw [List.countP_eq_zero]
  intro b hb h9
  have hbn := List.mem_range.1 hb
  have h1 := hf b hb
  have h2 : own b = frO := by simpa using h9
  have h3 := (h.bit b hbn)
  have h4 : bitAt B b = true := by
    cases hbb : bitAt B b with
    | true => rfl
    | false => rw [hbb] at h1; simp at h1
  exact h3.1 h4 h2
theorem Bm.left {n : Nat} {own : Nat → Own} {B : List UInt8} (h : Bm n own B) : n - (takenL B n).length = frN own n := by
  have h1 : ∀ m, m ≤ n → (takenL B m).length + frN own m = m := by
    intro m
    induction m with
    | zero => intro _; rfl
    | succ m ih =>
      intro hm
      have := ih (by omega)
      rw [takenL_succ, frN_succ]
      have hb := h.bit m (by omega)
      by_cases h9 : own m = frO
      · rw [if_neg (fun h10 => hb.1 h10 h9), if_pos h9]; omega
      · rw [if_pos (hb.2 h9), if_neg h9, List.length_append]; simp; omega
  have := h1 n (Nat.le_refl _)
  omega
end Go.SL

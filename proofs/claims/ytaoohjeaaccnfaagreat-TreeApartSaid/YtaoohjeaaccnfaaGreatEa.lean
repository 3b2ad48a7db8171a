/- slices.SortStableFunc of entries, plainly: the order of names; sorted lists; merges. -/
import Derived.Test.YtaoohjeaaccnfaaGreatNh
import Derived.Lib.Bytealg
namespace Go.SL
set_option linter.unusedVariables false
set_option linter.unusedSimpArgs false
open Go.RowKit
/-- A strict order by which a list may be sorted. -/
structure Ord {α : Type} (lt : α → α → Bool) : Prop where
  asy : ∀ x y, lt x y = true → lt y x = false
  tr : ∀ x y z, lt y x = false → lt z y = false → lt z x = false
def Srt {α : Type} (lt : α → α → Bool) (L : List α) : Prop := L.Pairwise fun x y => lt y x = false
section
variable {α : Type} {lt : α → α → Bool}
theorem Srt.nil : Srt lt [] := List.Pairwise.nil
theorem Srt.one (x : α) : Srt lt [x] := List.pairwise_singleton _ _
theorem Srt.app {A B : List α} : Srt lt (A ++ B) ↔ Srt lt A ∧ Srt lt B ∧ ∀ x ∈ A, ∀ y ∈ B, lt y x = false := List.pairwise_append
theorem Srt.cons {x : α} {B : List α} : Srt lt (x :: B) ↔ (∀ y ∈ B, lt y x = false) ∧ Srt lt B := List.pairwise_cons
/-- All of a sorted list are at most its last one. -/
theorem Srt.last (O : Ord lt) {A : List α} {z x : α} (h : Srt lt (A ++ [z])) (hx : x ∈ A ++ [z]) : lt z x = false := by
  rcases List.mem_append.1 hx with h1 | h1
  · exact (Srt.app.1 h).2.2 x h1 z (List.mem_singleton_self z)
  · rw [List.mem_singleton.1 h1]
    cases hz : lt z z with
    | false => rfl
    | true => have h9 := O.asy z z hz; rw [hz] at h9; cases h9
theorem Srt.head (O : Ord lt) {B : List α} {z x : α} (h : Srt lt (z :: B)) (hx : x ∈ z :: B) : lt x z = false := by
  rcases List.mem_cons.1 hx with h1 | h1
  · rw [h1]
    cases hz : lt z z with
    | false => rfl
    | true => have h9 := O.asy z z hz; rw [hz] at h9; cases h9
  · exact (Srt.cons.1 h).1 x h1
/-- The last of one list is at most the first of the other: so are all. -/
theorem Srt.cross (O : Ord lt) {A B : List α} (hA : Srt lt A) (hB : Srt lt B) (h : ∀ A' z y B', A = A' ++ [z] → B = y :: B' → lt y z = false) : ∀ x ∈ A, ∀ y ∈ B, lt y x = false := by
  intro x hx y hy
  rcases List.eq_nil_or_concat A with rfl | ⟨A', z, rfl⟩
  · cases hx
  · cases B with
    | nil => cases hy
    | cons b B' =>
      rw [List.concat_eq_append] at hx hA
      have h1 := hA.last O hx
      have h2 := hB.head O hy
      have h3 := h A' z b B' (List.concat_eq_append ..) rfl
      exact O.tr x b y (O.tr x z b h1 h3) h2
theorem Srt.join (O : Ord lt) {A B : List α} (hA : Srt lt A) (hB : Srt lt B) (h : ∀ A' z y B', A = A' ++ [z] → B = y :: B' → lt y z = false) : Srt lt (A ++ B) :=
  Srt.app.2 ⟨hA, hB, Srt.cross O hA hB h⟩
/-- One more, put where it belongs. -/
theorem Srt.insert (O : Ord lt) {A B : List α} {u : α} (h : Srt lt (A ++ B)) (h1 : ∀ A' z, A = A' ++ [z] → lt u z = false) (h2 : ∀ y B', B = y :: B' → lt y u = false) : Srt lt (A ++ u :: B) := by
  obtain ⟨hA, hB, hx⟩ := Srt.app.1 h
  refine Srt.join O hA (Srt.cons.2 ⟨fun y hy => ?_, hB⟩) fun A' z y B' e1 e2 => ?_
  · cases B with
    | nil => cases hy
    | cons b B' => exact O.tr u b y (h2 b B' rfl) (hB.head O hy)
  · simp only [List.cons.injEq] at e2
    rw [← e2.1]; exact h1 A' z e1
theorem Srt.perm_mem {A W : List α} (h : W.Perm A) {P : α → Prop} (hA : ∀ x ∈ A, P x) : ∀ x ∈ W, P x := fun x hx => hA x (h.mem_iff.1 hx)
/-- The halves of a merge that are merged themselves. -/
theorem Srt.halves (O : Ord lt) {U1 U2 V1 V2 W1 W2 : List α} (hU : Srt lt (U1 ++ U2)) (hV : Srt lt (V1 ++ V2)) (h1 : ∀ A' z y B', U1 = A' ++ [z] → V2 = y :: B' → lt y z = false)
    (h2 : ∀ A' z y B', V1 = A' ++ [z] → U2 = y :: B' → lt z y = true) (s1 : Srt lt W1) (s2 : Srt lt W2) (p1 : W1.Perm (U1 ++ V1)) (p2 : W2.Perm (U2 ++ V2)) : Srt lt (W1 ++ W2) := by
  obtain ⟨hU1, hU2, hUx⟩ := Srt.app.1 hU
  obtain ⟨hV1, hV2, hVx⟩ := Srt.app.1 hV
  have c1 := Srt.cross O hU1 hV2 h1
  have c2 := Srt.cross O hV1 hU2 fun A' z y B' e1 e2 => O.asy _ _ (h2 A' z y B' e1 e2)
  refine Srt.app.2 ⟨s1, s2, fun x hx y hy => ?_⟩
  rcases List.mem_append.1 (p1.mem_iff.1 hx) with hx | hx <;> rcases List.mem_append.1 (p2.mem_iff.1 hy) with hy | hy
  · exact hUx x hx y hy
  · exact c1 x hx y hy
  · exact c2 x hx y hy
  · exact hVx x hx y hy
end
/-- The order of names. -/
def ltE (x y : Ent) : Bool := decide (Lib.compareBytes x.nm y.nm < 0)
theorem cmpB_swap : ∀ a b : List UInt8, Lib.compareBytes a b = - Lib.compareBytes b a
  | [], [] => rfl
  | [], _ :: _ => rfl
  | _ :: _, [] => rfl
  | a :: aa, b :: bs => by
    unfold Lib.compareBytes
    by_cases h : a < b
    · have h2 : ¬ b < a := fun h3 => absurd (UInt8.lt_trans h h3) (UInt8.lt_irrefl a)
      rw [if_pos h, if_neg h2, if_pos h]
    · rw [if_neg h]
      by_cases h2 : b < a
      · rw [if_pos h2, if_pos h2]; rfl
      · rw [if_neg h2, if_neg h2, if_neg h]; exact cmpB_swap aa bs
theorem cmpB_range : ∀ a b : List UInt8, Lib.compareBytes a b = -1 ∨ Lib.compareBytes a b = 0 ∨ Lib.compareBytes a b = 1
  | [], [] => .inr (.inl rfl)
  | [], _ :: _ => .inl rfl
  | _ :: _, [] => .inr (.inr rfl)
  | a :: aa, b :: bs => by
    unfold Lib.compareBytes
    split
    · exact .inl rfl
    · split
      · exact .inr (.inr rfl)
      · exact cmpB_range aa bs
theorem cmpB_eq : ∀ a b : List UInt8, Lib.compareBytes a b = 0 → a = b
  | [], [], _ => rfl
  | [], _ :: _, h => by cases h
  | _ :: _, [], h => by cases h
  | a :: aa, b :: bs, h => by
    unfold Lib.compareBytes at h
    by_cases h1 : a < b
    · rw [if_pos h1] at h; cases h
    · by_cases h2 : b < a
      · rw [if_neg h1, if_pos h2] at h; cases h
      · rw [if_neg h1, if_neg h2] at h
        have e : a = b := UInt8.le_antisymm (UInt8.not_lt.1 h2) (UInt8.not_lt.1 h1)
        rw [e, cmpB_eq aa bs h]
theorem cmpB_trans : ∀ a b c : List UInt8, 0 ≤ Lib.compareBytes b a → 0 ≤ Lib.compareBytes c b → 0 ≤ Lib.compareBytes c a
  | [], _, [], _, _ => by simp [Lib.compareBytes]
  | [], _, _ :: _, _, _ => by simp [Lib.compareBytes]
  | a :: aa, [], _, h, _ => by simp [Lib.compareBytes] at h
  | a :: aa, b :: bs, [], _, h => by simp [Lib.compareBytes] at h
  | a :: aa, b :: bs, c :: cs, h1, h2 => by
    unfold Lib.compareBytes at h1 h2 ⊢
    by_cases x1 : b < a
    · rw [if_pos x1] at h1; omega
    · by_cases x2 : c < b
      · rw [if_pos x2] at h2; omega
      · rw [if_neg x1] at h1
        rw [if_neg x2] at h2
        have hab : a ≤ b := UInt8.not_lt.1 x1
        have hbc : b ≤ c := UInt8.not_lt.1 x2
        have x3 : ¬ c < a := UInt8.not_lt.2 (UInt8.le_trans hab hbc)
        rw [if_neg x3]
        by_cases y3 : a < c
        · rw [if_pos y3]; decide
        · rw [if_neg y3]
          have hac : a = c := UInt8.le_antisymm (UInt8.le_trans hab hbc) (UInt8.not_lt.1 y3)
          subst hac
          have y1 : ¬ a < b := UInt8.not_lt.2 hbc
          have y2 : ¬ b < a := x1
          rw [if_neg y1] at h1
          rw [if_neg y2] at h2
          exact cmpB_trans aa bs cs h1 h2
theorem ordE : Ord ltE where
  asy := fun x y h => by
    unfold ltE at h ⊢
    have := of_decide_eq_true h
    have e := cmpB_swap x.nm y.nm
    exact decide_eq_false (by omega)
  tr := fun x y z h1 h2 => by
    unfold ltE at h1 h2 ⊢
    have e1 := of_decide_eq_false h1
    have e2 := of_decide_eq_false h2
    have := cmpB_trans x.nm y.nm z.nm (by omega) (by omega)
    exact decide_eq_false (by omega)
/-- Two elements that change their places. -/
def swpL {α : Type} (L : List α) (i j : Nat) (x y : α) : List α := (L.set i y).set j x
theorem swpL_mid {α : Type} (S T R : List α) (x y : α) : swpL (S ++ x :: (T ++ y :: R)) S.length (S.length + 1 + T.length) x y = S ++ y :: (T ++ x :: R) := by
  unfold swpL
  rw [List.set_append_right _ _ (Nat.le_refl _), Nat.sub_self, List.set_cons_zero, List.set_append_right _ _ (by omega), show S.length + 1 + T.length - S.length = T.length + 1 by omega, List.set_cons_succ, List.set_append_right _ _ (Nat.le_refl _), Nat.sub_self, List.set_cons_zero]
end Go.SL

/- TreeApart, plainly: three directories, each with its own numbers. -/
import Derived.Test.YtaoohjeaaccnfaaGreatNu
namespace Go.SL
set_option linter.unusedVariables false
set_option linter.unusedSimpArgs false
open Go.RowKit
/-- The entry of a number. -/
def entA (k : Nat) : Ent := ⟨k + 1, nmb (k / 3)⟩
/-- Which entries a directory has, rising. -/
def eA (T : Nat → Bool) (j : Nat) : Nat → List Ent
  | 0 => []
  | m + 1 => eA T j m ++ if T (3 * m + j) = true then [entA (3 * m + j)] else []
theorem eA_mem {T : Nat → Bool} {j : Nat} (hj : j < 3) : ∀ {m : Nat} {e : Ent}, e ∈ eA T j m ↔ ∃ i, i < m ∧ T (3 * i + j) = true ∧ e = entA (3 * i + j)
  | 0, e => by simp [eA]
  | m + 1, e => by
    unfold eA
    rw [List.mem_append, eA_mem hj]
    constructor
    · rintro (⟨i, h1, h2, h3⟩ | h)
      · exact ⟨i, by omega, h2, h3⟩
      · split at h
        · rename_i ht
          exact ⟨m, by omega, ht, List.mem_singleton.1 h⟩
        · cases h
    · rintro ⟨i, h1, h2, h3⟩
      by_cases h : i = m
      · subst h; rw [if_pos h2]; exact .inr (by rw [h3]; simp)
      · exact .inl ⟨i, by omega, h2, h3⟩
theorem entA_nm {i j : Nat} (hj : j < 3) : (entA (3 * i + j)).nm = nmb i := by unfold entA; rw [show (3 * i + j) / 3 = i by omega]
theorem nmb_cmp : ∀ a b : Fin 20, a < b → Lib.compareBytes (nmb a) (nmb b) = -1 := by decide +kernel
theorem eA_pw {T : Nat → Bool} {j : Nat} (hj : j < 3) : ∀ {m : Nat}, m ≤ 20 → (eA T j m).Pairwise fun x y => Lib.compareBytes x.nm y.nm = -1
  | 0, _ => List.Pairwise.nil
  | m + 1, hm => by
    unfold eA
    rw [List.pairwise_append]
    refine ⟨eA_pw hj (by omega), ?_, fun x hx y hy => ?_⟩
    · split
      · exact List.pairwise_singleton _ _
      · exact List.Pairwise.nil
    · obtain ⟨i, h1, h2, rfl⟩ := (eA_mem hj).1 hx
      split at hy
      · rw [List.mem_singleton.1 hy, entA_nm hj, entA_nm hj]
        exact nmb_cmp ⟨i, by omega⟩ ⟨m, by omega⟩ h1
      · cases hy
theorem eA_srt {T : Nat → Bool} {j m : Nat} (hj : j < 3) (hm : m ≤ 20) : Srt ltE (eA T j m) := by
  refine (eA_pw hj hm).imp fun {x y} h => ?_
  unfold ltE
  rw [cmpB_swap, h]; decide
theorem eA_nd {T : Nat → Bool} {j m : Nat} (hj : j < 3) (hm : m ≤ 20) : ((eA T j m).map Ent.nm).Nodup := by
  rw [List.nodup_iff_pairwise_ne, List.pairwise_map]
  refine (eA_pw hj hm).imp fun {x y} h h2 => ?_
  rw [h2] at h
  have := cmpB_swap y.nm y.nm
  omega
/-- Sorted lists of the same entries, whose names differ, are one. -/
theorem srt_unique {W E : List Ent} (hP : W.Perm E) (hW : Srt ltE W) (hE : Srt ltE E) (hn : (E.map Ent.nm).Nodup) : W = E := by
  refine List.Perm.eq_of_pairwise (le := fun x y => ltE y x = false) (fun x y hx hy h1 h2 => ?_) hW hE hP
  unfold ltE at h1 h2
  have h3 := of_decide_eq_false h1
  have h4 := of_decide_eq_false h2
  have h5 := cmpB_swap x.nm y.nm
  have h6 := cmpB_eq x.nm y.nm (by omega)
  obtain ⟨i, hi, rfl⟩ := List.getElem_of_mem (hP.mem_iff.1 hx)
  obtain ⟨k, hk, rfl⟩ := List.getElem_of_mem hy
  have h7 := List.nodup_iff_pairwise_ne.1 hn
  rw [List.pairwise_iff_getElem] at h7
  rcases Nat.lt_trichotomy i k with h | h | h
  · exact absurd (by rw [List.getElem_map, List.getElem_map]; exact h6) (h7 i k (by simpa using hi) (by simpa using hk) h)
  · subst h; rfl
  · exact absurd (by rw [List.getElem_map, List.getElem_map]; exact h6.symm) (h7 k i (by simpa using hk) (by simpa using hi) h)
theorem nodup_of_names {L : List Ent} (h : (L.map Ent.nm).Nodup) : L.Nodup := by
  rw [List.nodup_iff_pairwise_ne] at h ⊢
  rw [List.pairwise_map] at h
  exact h.imp fun {x y} h1 h2 => h1 (by rw [h2])
/-- One of the three directories. -/
structure Da (T : Nat → Bool) (j : Nat) (L : List Ent) : Prop where
  per : L.Perm (eA T j 20)
section
variable {T : Nat → Bool} {j k : Nat} {L : List Ent}
theorem Da.nd (D : Da T j L) (hj : j < 3) : (L.map Ent.nm).Nodup := (D.per.map Ent.nm).nodup_iff.2 (eA_nd hj (Nat.le_refl _))
theorem Da.nil {j : Nat} : Da (fun _ => false) j [] := ⟨by
  have : ∀ m, eA (fun _ => false) j m = [] := fun m => by induction m with
    | zero => rfl
    | succ m ih => unfold eA; rw [ih]; rfl
  rw [this]⟩
theorem eA_le : ∀ m, (eA T j m).length ≤ m
  | 0 => Nat.le_refl _
  | m + 1 => by unfold eA; rw [List.length_append]; have := eA_le m; split <;> simp <;> omega
theorem Da.le (D : Da T j L) : L.length ≤ 20 := by rw [D.per.length_eq]; exact eA_le 20
theorem Da.ok (D : Da T j L) (hj : j < 3) : okL L := fun e he => by
  obtain ⟨i, h1, h2, rfl⟩ := (eA_mem hj).1 (D.per.mem_iff.1 he)
  exact Ent.ok_iff.2 ⟨by unfold entA; simp, by unfold entA; show 3 * i + j + 1 ≤ 3839; omega, nameOk_nm (by unfold entA; exact nmb_ok (by omega))⟩
theorem Da.there (D : Da T j L) (hj : j < 3) (hk : k < 60) (hkj : k % 3 = j) (h : T k = true) : ∃ i, plc L (nmb (k / 3)) = some i := by
  obtain ⟨i, h1, -⟩ := plc_of (e := entA k) (D.nd hj) (D.per.mem_iff.2 ((eA_mem hj).2 ⟨k / 3, by omega, by rw [show 3 * (k / 3) + j = k by omega]; exact h, by rw [show 3 * (k / 3) + j = k by omega]⟩))
  exact ⟨i, h1⟩
theorem Da.gone (D : Da T j L) (hj : j < 3) (hk : k < 60) (hkj : k % 3 = j) (h : T k = false) : plc L (nmb (k / 3)) = none := plc_no fun e he h2 => by
  obtain ⟨i, h3, h4, rfl⟩ := (eA_mem hj).1 (D.per.mem_iff.1 he)
  rw [entA_nm hj] at h2
  have := nmb_inj (by omega) (by omega) h2
  rw [show 3 * i + j = k by omega, h] at h4; cases h4
theorem eA_congr {T' : Nat → Bool} : ∀ m, (∀ i, i < m → T' (3 * i + j) = T (3 * i + j)) → eA T' j m = eA T j m
  | 0, _ => rfl
  | m + 1, h => by unfold eA; rw [eA_congr m fun i hi => h i (by omega), h m (by omega)]
theorem Da.other (D : Da T j L) (hkj : k % 3 ≠ j) (hj : j < 3) : Da (upB T k true) j L := ⟨by
  rw [eA_congr 20 fun i _ => if_neg (by omega)]; exact D.per⟩
theorem Da.same (D : Da T j L) (h : T k = true) : Da (upB T k true) j L := ⟨by
  have e : eA (upB T k true) j 20 = eA T j 20 := eA_congr 20 fun i _ => by
    unfold upB; split
    · rename_i e; rw [e, h]
    · rfl
  rw [e]; exact D.per⟩
theorem Da.add (D : Da T j L) (hj : j < 3) (hk : k < 60) (hkj : k % 3 = j) (h : T k = false) : Da (upB T k true) j (L ++ [entA k]) := ⟨by
  have hnd : ((L ++ [entA k]).map Ent.nm).Nodup := by
    rw [List.map_append, List.map_singleton, List.nodup_append]
    refine ⟨D.nd hj, by simp, fun a ha b hb => ?_⟩
    rw [List.mem_singleton.1 hb]
    obtain ⟨e, he, rfl⟩ := List.mem_map.1 ha
    obtain ⟨i, h3, h4, rfl⟩ := (eA_mem hj).1 (D.per.mem_iff.1 he)
    rw [entA_nm hj]
    unfold entA
    intro h5
    have := nmb_inj (by omega) (by omega) h5
    rw [show 3 * i + j = k by omega, h] at h4; cases h4
  refine (List.perm_ext_iff_of_nodup (nodup_of_names hnd) (nodup_of_names (eA_nd hj (Nat.le_refl _)))).2 fun e => ?_
  rw [List.mem_append, D.per.mem_iff, eA_mem hj, eA_mem hj, List.mem_singleton]
  constructor
  · rintro (⟨i, h1, h2, h3⟩ | rfl)
    · exact ⟨i, h1, by unfold upB; split; rfl; exact h2, h3⟩
    · exact ⟨k / 3, by omega, by unfold upB; rw [if_pos (by omega)], by rw [show 3 * (k / 3) + j = k by omega]⟩
  · rintro ⟨i, h1, h2, h3⟩
    unfold upB at h2
    split at h2
    · rename_i e; rw [e] at h3; exact .inr h3
    · exact .inl ⟨i, h1, h2, h3⟩⟩
theorem Da.sorted (D : Da T j L) (hj : j < 3) {W : List Ent} (hP : W.Perm L) (hW : Srt ltE W) : W = eA T j 20 :=
  srt_unique (hP.trans D.per) hW (eA_srt hj (Nat.le_refl _)) (eA_nd hj (Nat.le_refl _))
end
theorem eA_pre {T : Nat → Bool} {j : Nat} : ∀ {m n : Nat}, m ≤ n → eA T j m <+: eA T j n
  | m, n, h => by
    induction n with
    | zero => obtain rfl : m = 0 := by omega
              exact List.prefix_refl _
    | succ n ih =>
      by_cases e : m = n + 1
      · subst e; exact List.prefix_refl _
      · refine (ih (by omega)).trans ?_
        conv => rhs; unfold eA
        exact List.prefix_append _ _
/-- What stands at the next place. -/
theorem eA_at {T : Nat → Bool} {j m : Nat} (hm : m < 20) (h : T (3 * m + j) = true) : (eA T j 20)[(eA T j m).length]? = some (entA (3 * m + j)) ∧ (eA T j (m + 1)).length = (eA T j m).length + 1 := by
  have e : eA T j (m + 1) = eA T j m ++ [entA (3 * m + j)] := by
    show eA T j m ++ (if T (3 * m + j) = true then [entA (3 * m + j)] else []) = _
    rw [if_pos h]
  refine ⟨?_, by rw [e, List.length_append]; rfl⟩
  obtain ⟨r, hr⟩ := eA_pre (T := T) (j := j) (show m + 1 ≤ 20 by omega)
  rw [← hr, e, List.append_assoc, List.getElem?_append_right (Nat.le_refl _), Nat.sub_self]; rfl
theorem eA_skip {T : Nat → Bool} {j m : Nat} (h : T (3 * m + j) = false) : eA T j (m + 1) = eA T j m := by
  show eA T j m ++ (if T (3 * m + j) = true then [entA (3 * m + j)] else []) = _
  rw [h]; simp
end Go.SL

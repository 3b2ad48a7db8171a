/- tree's laws, plainly: names that are counted, which of them are there; what is taken away. -/
import Derived.Test.YtaoohjeaaccnfaaGreatNm
namespace Go.SL
set_option linter.unusedVariables false
set_option linter.unusedSimpArgs false
open Go.RowKit
theorem set_permE {α : Type} (z : α) : ∀ (L : List α) (i : Nat), i < L.length → (L.set i z).Perm (z :: L.eraseIdx i)
  | [], i, h => absurd h (Nat.not_lt_zero _)
  | a :: L, 0, _ => List.Perm.refl _
  | a :: L, i + 1, h => by
    have := set_permE z L i (by simpa using h)
    exact (this.cons a).trans (List.Perm.swap z a _)
theorem rmE_perm {L : List Ent} {i : Nat} (hi : i < L.length) : (rmE L i).Perm (L.eraseIdx i) := by
  obtain ⟨M, z, rfl⟩ : ∃ M z, L = M ++ [z] := by
    rcases List.eq_nil_or_concat L with rfl | ⟨M, z, h⟩
    · simp at hi
    · exact ⟨M, z, by rw [h, List.concat_eq_append]⟩
  have hl : (M ++ [z]).length - 1 = M.length := by simp
  unfold rmE
  rw [hl, show (M ++ [z]).getD M.length Ent.no = z by simp [List.getD]]
  rw [List.length_append, List.length_singleton] at hi
  by_cases h : i = M.length
  · subst h
    rw [List.set_append_right _ _ (Nat.le_refl _), Nat.sub_self, List.set_cons_zero, List.take_left', List.eraseIdx_append_of_length_le (Nat.le_refl _)]
    · simp
    · rfl
  · rw [List.set_append_left _ _ (by omega), List.take_left' (by rw [List.length_set]), List.eraseIdx_append_of_lt_length (by omega)]
    exact (set_permE z M i (by omega)).trans (List.perm_append_singleton z _).symm
theorem eraseIdx_mem {α : Type} {x : α} {L : List α} {i : Nat} (h : x ∈ L.eraseIdx i) : x ∈ L := (List.eraseIdx_sublist L i).subset h
/-- The name of a number. -/
def nmb (k : Nat) : List UInt8 := [UInt8.ofNat (97 + k % 26), UInt8.ofNat (97 + k / 26 % 26)]
theorem nmb_inj {j k : Nat} (hj : j < 676) (hk : k < 676) (h : nmb j = nmb k) : j = k := by
  unfold nmb at h
  simp only [List.cons.injEq, and_true] at h
  have h1 := congrArg UInt8.toNat h.1
  have h2 := congrArg UInt8.toNat h.2
  simp only [UInt8.toNat_ofNat'] at h1 h2
  omega
theorem nmb_all : ∀ k : Fin 676, nameOk (nmb k) = true := by decide +kernel
theorem nmb_ok {k : Nat} (hk : k < 676) : nameOk (nmb k) = true := nmb_all ⟨k, hk⟩
/-- What stands first of a name that stands once. -/
theorem plc_of {L : List Ent} {e : Ent} (hn : (L.map Ent.nm).Nodup) (he : e ∈ L) : ∃ i, plc L e.nm = some i ∧ L[i]? = some e := by
  cases hp : plc L e.nm with
  | none =>
    unfold plc at hp
    rw [List.findIdx?_eq_none_iff] at hp
    exact absurd (hp e he) (by simp)
  | some i =>
    refine ⟨i, rfl, ?_⟩
    unfold plc at hp
    rw [List.findIdx?_eq_some_iff_getElem] at hp
    obtain ⟨h1, h2, -⟩ := hp
    obtain ⟨j, hj, rfl⟩ := List.getElem_of_mem he
    have h3 : L[i].nm = L[j].nm := by simpa using h2
    have : i = j := by
      have := (List.nodup_iff_pairwise_ne.1 hn)
      rw [List.pairwise_iff_getElem] at this
      rcases Nat.lt_trichotomy i j with h | h | h
      · exact absurd (by rw [List.getElem_map, List.getElem_map]; exact h3) (this i j (by simpa using h1) (by simpa using hj) h)
      · exact h
      · exact absurd (by rw [List.getElem_map, List.getElem_map]; exact h3.symm) (this j i (by simpa using hj) (by simpa using h1) h)
    subst this
    rw [List.getElem?_eq_getElem h1]
theorem plc_no {L : List Ent} {nm : List UInt8} (h : ∀ e ∈ L, e.nm ≠ nm) : plc L nm = none := by
  unfold plc
  rw [List.findIdx?_eq_none_iff]
  exact fun e he => decide_eq_false (h e he)
theorem plc_get {L : List Ent} {nm : List UInt8} {i : Nat} (h : plc L nm = some i) : ∃ e, L[i]? = some e ∧ e.nm = nm := by
  unfold plc at h
  rw [List.findIdx?_eq_some_iff_getElem] at h
  obtain ⟨h1, h2, -⟩ := h
  exact ⟨L[i], List.getElem?_eq_getElem h1, by simpa using h2⟩
def entK (k : Nat) : Ent := ⟨k + 1, nmb k⟩
/-- Entries are those of the numbers that are there. -/
structure Dn (T : Nat → Bool) (L : List Ent) : Prop where
  mem : ∀ e ∈ L, ∃ k, k < 60 ∧ T k = true ∧ e = entK k
  has : ∀ k, k < 60 → T k = true → entK k ∈ L
  nd : (L.map Ent.nm).Nodup
  cnt : L.length = (List.range 60).countP T
def upB (T : Nat → Bool) (k : Nat) (v : Bool) : Nat → Bool := fun i => if i = k then v else T i
section
variable {T : Nat → Bool} {L : List Ent} {k i : Nat}
theorem Dn.nil : Dn (fun _ => false) [] := ⟨fun _ h => (by cases h), fun _ _ h => (by cases h), List.nodup_nil, by simp⟩
theorem Dn.le (D : Dn T L) : L.length ≤ 60 := by
  have : (List.range 60).countP T ≤ (List.range 60).length := List.countP_le_length
  rw [D.cnt]; simpa using this
theorem Dn.there (D : Dn T L) (hk : k < 60) (h : T k = true) : ∃ i, plc L (nmb k) = some i ∧ L[i]? = some (entK k) := plc_of D.nd (D.has k hk h)
theorem Dn.gone (D : Dn T L) (hk : k < 60) (h : T k = false) : plc L (nmb k) = none := plc_no fun e he h2 => by
  obtain ⟨j, hj, h3, rfl⟩ := D.mem e he
  have : j = k := nmb_inj (by omega) (by omega) h2
  subst this
  rw [h] at h3; cases h3
theorem Dn.add (D : Dn T L) (hk : k < 60) (h : T k = false) : Dn (upB T k true) (L ++ [entK k]) := by
  refine ⟨fun e he => ?_, fun j hj h1 => ?_, ?_, ?_⟩
  · rcases List.mem_append.1 he with h1 | h1
    · obtain ⟨j, hj, h3, rfl⟩ := D.mem e h1
      refine ⟨j, hj, ?_, rfl⟩
      unfold upB; split
      · rfl
      · exact h3
    · rw [List.mem_singleton.1 h1]; exact ⟨k, hk, if_pos rfl, rfl⟩
  · unfold upB at h1
    split at h1
    · rename_i e; subst e; simp
    · exact List.mem_append_left _ (D.has j hj h1)
  · rw [List.map_append, List.map_singleton, List.nodup_append]
    refine ⟨D.nd, by simp, fun a ha b hb => ?_⟩
    rw [List.mem_singleton.1 hb]
    obtain ⟨e, he, rfl⟩ := List.mem_map.1 ha
    obtain ⟨j, hj, h3, rfl⟩ := D.mem e he
    intro h4
    have : j = k := nmb_inj (by omega) (by omega) h4
    subst this
    rw [h] at h3; cases h3
  · have := countP_upd (upB T k true) T k (fun i hi => if_neg hi) 60 hk
    rw [List.length_append, List.length_singleton, D.cnt]
    rw [show upB T k true k = true from if_pos rfl, h] at this
    simp at this
    omega
theorem Dn.rm (D : Dn T L) (hk : k < 60) (h : T k = true) (hp : plc L (nmb k) = some i) : Dn (upB T k false) (rmE L i) := by
  have hi := plc_lt hp
  obtain ⟨i', hp', he⟩ := D.there hk h
  obtain rfl : i = i' := by rw [hp] at hp'; exact Option.some.inj hp'
  have hP := rmE_perm hi
  have hsub := List.eraseIdx_sublist L i
  have hnd : ((L.eraseIdx i).map Ent.nm).Nodup := (hsub.map Ent.nm).nodup D.nd
  have hne : ∀ e ∈ L.eraseIdx i, e ≠ entK k := fun e h1 h2 => by
    subst h2
    have h3 : (L[i]'hi :: L.eraseIdx i).Perm L := by
      have := set_permE (L[i]'hi) L i hi
      rw [List.set_getElem_self] at this
      exact this.symm
    have h4 := (h3.map Ent.nm).nodup_iff.2 D.nd
    rw [List.map_cons, List.nodup_cons] at h4
    rw [List.getElem?_eq_getElem hi] at he
    rw [Option.some.inj he] at h4
    exact h4.1 (List.mem_map_of_mem h1)
  refine ⟨fun e h1 => ?_, fun j hj h1 => ?_, (hP.map Ent.nm).nodup_iff.2 hnd, ?_⟩
  · have h2 := hP.mem_iff.1 h1
    obtain ⟨j, hj, h3, rfl⟩ := D.mem e (eraseIdx_mem h2)
    refine ⟨j, hj, ?_, rfl⟩
    unfold upB
    rw [if_neg fun e => hne _ h2 (by rw [e])]; exact h3
  · unfold upB at h1
    split at h1
    · cases h1
    · rename_i hjk
      have h3 : (L[i]'hi :: L.eraseIdx i).Perm L := by
        have := set_permE (L[i]'hi) L i hi
        rw [List.set_getElem_self] at this
        exact this.symm
      have h4 := h3.mem_iff.2 (D.has j hj h1)
      rw [List.getElem?_eq_getElem hi] at he
      rw [Option.some.inj he] at h4
      rcases List.mem_cons.1 h4 with h5 | h5
      · exact absurd (nmb_inj (by omega) (by omega) (congrArg Ent.nm h5)) hjk
      · exact hP.mem_iff.2 h5
  · have := countP_upd (upB T k false) T k (fun i hi => if_neg hi) 60 hk
    rw [rmE_length, D.cnt]
    rw [show upB T k false k = false from if_pos rfl, h] at this
    simp at this
    omega
end
end Go.SL

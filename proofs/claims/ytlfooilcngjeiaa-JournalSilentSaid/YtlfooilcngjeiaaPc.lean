/- Plain: a table as two functions. -/
import Derived.Test.YtlfooilcngjeiaaJp
namespace Go.SL
set_option linter.unusedVariables false
set_option linter.unusedSimpArgs false
open Go.RowKit
/-- Places and owners tell the same. -/
structure Tb.Con (T : Tb) : Prop where
  pq : ∀ id p, told T.ps id = some p → told T.os p = some id
  qp : ∀ id p, told T.os p = some id → told T.ps id = some p
theorem told_range {l : List Int} {i v : Int} (h : told l i = some v) : 0 ≤ i ∧ i < l.length ∧ v ≠ -1 := by
  unfold told at h
  split at h
  · rename_i hc
    injection h with h
    exact ⟨hc.1, hc.2.1, by rw [← h]; exact hc.2.2⟩
  · cases h
theorem told_none {l : List Int} {i : Int} (h : told l i = none) (h0 : 0 ≤ i) (h1 : i < l.length) : l.getD i.toNat 0 = -1 := by
  unfold told at h
  split at h
  · cases h
  · rename_i hc
    exact Classical.byContradiction fun q => hc ⟨h0, h1, q⟩
theorem told_set {l : List Int} {i : Int} (h0 : 0 ≤ i) (h1 : i < l.length) (v x : Int) : told (l.set i.toNat v) x = if x = i then (if v = -1 then none else some v) else told l x := by
  obtain ⟨k, rfl⟩ := Int.eq_ofNat_of_zero_le h0
  have hk : k < l.length := by omega
  unfold told
  rw [List.length_set, Int.toNat_natCast]
  by_cases hx : x = (k : Int)
  · subst hx
    rw [if_pos rfl, Int.toNat_natCast]
    have e : (l.set k v).getD k 0 = v := by simp [List.getD, List.getElem?_set, hk]
    rw [e]
    by_cases hv : v = -1
    · rw [if_pos hv, if_neg (fun q => q.2.2 hv)]
    · rw [if_neg hv, if_pos ⟨by omega, h1, hv⟩]
  · rw [if_neg hx]
    by_cases hr : 0 ≤ x
    · obtain ⟨j, rfl⟩ := Int.eq_ofNat_of_zero_le hr
      rw [Int.toNat_natCast]
      have hj : k ≠ j := by omega
      have e : (l.set k v).getD j 0 = l.getD j 0 := by simp only [List.getD, List.getElem?_set]; rw [if_neg hj]
      rw [e]
    · rw [if_neg (fun q => hr q.1), if_neg (fun q => hr q.1)]
theorem Tb.drop_len (T : Tb) (id : Int) : (T.drop id).2.ps.length = T.ps.length ∧ (T.drop id).2.os.length = T.os.length := by
  unfold Tb.drop
  split <;> simp
section
variable {T : Tb}
theorem Tb.drop_ps (h : T.Con) (id : Int) (x : Int) : told (T.drop id).2.ps x = if x = id then none else told T.ps x := by
  unfold Tb.drop
  cases hd : told T.ps id with
  | none =>
    simp only
    split
    · rename_i e; rw [e, hd]
    · rfl
  | some p =>
    have hr := told_range hd
    simp only
    rw [told_set hr.1 hr.2.1]
    simp
theorem Tb.drop_os (h : T.Con) (id : Int) (q : Int) : told (T.drop id).2.os q = if told T.ps id = some q then none else told T.os q := by
  unfold Tb.drop
  cases hd : told T.ps id with
  | none => simp
  | some p =>
    have hr := told_range (h.pq _ _ hd)
    simp only
    rw [told_set hr.1 hr.2.1]
    by_cases e : q = p
    · subst e; simp
    · rw [if_neg e, if_neg (by intro q'; injection q' with q'; exact e q'.symm)]
theorem Tb.put_ps (h : T.Con) {id p : Int} (i0 : 0 ≤ id) (i1 : id < T.ps.length) (p0 : 0 ≤ p) (p1 : p < T.os.length) (hn : told T.os p = none) (x : Int) :
    told (T.put id p).2.ps x = if x = id then some p else told T.ps x := by
  have hg := told_none hn p0 p1
  unfold Tb.put
  rw [if_pos ⟨i0, i1, p0, p1, .inl hg⟩]
  simp only
  rw [told_set i0 (by rw [(Tb.drop_len T id).1]; exact i1), T.drop_ps h]
  by_cases e : x = id
  · rw [if_pos e, if_pos e, if_neg (by omega)]
  · rw [if_neg e, if_neg e, if_neg e]
theorem Tb.put_os (h : T.Con) {id p : Int} (i0 : 0 ≤ id) (i1 : id < T.ps.length) (p0 : 0 ≤ p) (p1 : p < T.os.length) (hn : told T.os p = none) (q : Int) :
    told (T.put id p).2.os q = if q = p then some id else if told T.ps id = some q then none else told T.os q := by
  have hg := told_none hn p0 p1
  unfold Tb.put
  rw [if_pos ⟨i0, i1, p0, p1, .inl hg⟩]
  simp only
  rw [told_set p0 (by rw [(Tb.drop_len T id).2]; exact p1), T.drop_os h]
  by_cases e : q = p
  · rw [if_pos e, if_pos e, if_neg (by omega)]
  · rw [if_neg e, if_neg e]
theorem Tb.put_con (h : T.Con) {id p : Int} (i0 : 0 ≤ id) (i1 : id < T.ps.length) (p0 : 0 ≤ p) (p1 : p < T.os.length) (hn : told T.os p = none) : (T.put id p).2.Con := by
  constructor
  · intro x q hx
    rw [Tb.put_ps h i0 i1 p0 p1 hn] at hx
    rw [Tb.put_os h i0 i1 p0 p1 hn]
    by_cases e : x = id
    · rw [if_pos e] at hx; injection hx with hx
      rw [if_pos hx.symm, e]
    · rw [if_neg e] at hx
      have h1 := h.pq _ _ hx
      have hqp : q ≠ p := by rintro rfl; rw [hn] at h1; cases h1
      rw [if_neg hqp]
      have h2 : told T.ps id ≠ some q := by
        intro h3
        have h4 := h.pq _ _ h3
        rw [h1] at h4; injection h4 with h4; exact e h4
      rw [if_neg h2, h1]
  · intro x q hx
    rw [Tb.put_os h i0 i1 p0 p1 hn] at hx
    rw [Tb.put_ps h i0 i1 p0 p1 hn]
    by_cases e : q = p
    · rw [if_pos e] at hx; injection hx with hx
      rw [if_pos hx.symm, e]
    · rw [if_neg e] at hx
      split at hx
      · cases hx
      · rename_i h1
        have h2 := h.qp _ _ hx
        have : x ≠ id := by rintro rfl; exact h1 h2
        rw [if_neg this, h2]
end
theorem Tb.fresh_told (b p : Nat) (i : Int) : told (Tb.fresh b p).ps i = none ∧ told (Tb.fresh b p).os i = none := by
  constructor
  · unfold told
    rw [if_neg]
    rintro ⟨h0, h1, h2⟩
    apply h2
    simp only [Tb.fresh, List.length_replicate] at h1
    have : i.toNat < b := by omega
    simp [Tb.fresh, List.getD, List.getElem?_replicate, this]
  · unfold told
    rw [if_neg]
    rintro ⟨h0, h1, h2⟩
    apply h2
    simp only [Tb.fresh, List.length_replicate] at h1
    have : i.toNat < p := by omega
    simp [Tb.fresh, List.getD, List.getElem?_replicate, this]
theorem Tb.fresh_con (b p : Nat) : (Tb.fresh b p).Con :=
  ⟨fun i q h => (by rw [(Tb.fresh_told b p i).1] at h; cases h), fun i q h => (by rw [(Tb.fresh_told b p q).2] at h; cases h)⟩
/-- Places that differ by less than the ring. -/
theorem emod_ne {a b P : Int} (h1 : b < a) (h2 : a < b + P) : a % P ≠ b % P := by
  intro h
  have := Int.emod_emod_of_dvd a (Int.dvd_refl P)
  have hs : (a - b) % P = 0 := Int.emod_eq_emod_iff_emod_sub_eq_zero.1 h
  rw [Int.emod_eq_of_lt (by omega) (by omega)] at hs
  omega
/-- The table behind the first k of a batch, where these go to free places. -/
structure PutK (J : Jr) (L : Bl) (k : Nat) : Prop where
  con : (J.putN L k).Con
  ps : ∀ x, told (J.putN L k).ps x = match (L.take k).findIdx? (fun y => y.1 == x) with | some i => some ((J.hd + (i : Int)) % (J.P : Int)) | none => told J.T.ps x
  os : ∀ q x, told (J.putN L k).os q = some x → (∃ i : Nat, i < k ∧ q = (J.hd + (i : Int)) % (J.P : Int) ∧ (L.getD i (0, [])).1 = x) ∨ (told J.T.os q = some x ∧ x ∉ (L.take k).map Prod.fst)
theorem findIdx_snoc {α : Type} (l : List α) (a : α) (f : α → Bool) : (l ++ [a]).findIdx? f = match l.findIdx? f with | some i => some i | none => if f a then some l.length else none := by
  rw [List.findIdx?_append]
  cases h : l.findIdx? f with
  | some i => simp
  | none =>
    simp only [Option.none_or, List.findIdx?_cons, List.findIdx?_nil]
    split <;> simp
theorem findIdx_none_mem {L : Bl} {x : Int} : L.findIdx? (fun y => y.1 == x) = none ↔ x ∉ L.map Prod.fst := by
  rw [List.findIdx?_eq_none_iff]
  simp only [List.mem_map, not_exists, not_and, beq_eq_false_iff_ne, ne_eq]
theorem take_snoc {α : Type} (L : List α) (k : Nat) (d : α) (h : k < L.length) : L.take (k + 1) = L.take k ++ [L.getD k d] := by
  rw [List.take_succ_eq_append_getElem h, List.getD, List.getElem?_eq_getElem h]; rfl
theorem putK (J : Jr) (hJ : J.Ok) (hc : J.T.Con) (L : Bl) (hid : ∀ x ∈ L, 0 ≤ x.1 ∧ x.1 < J.n) (hnd : (L.map Prod.fst).Nodup) (hlen : (L.length : Int) ≤ J.P)
    (hfree : ∀ i : Nat, i < L.length → told J.T.os ((J.hd + (i : Int)) % (J.P : Int)) = none) : ∀ k, k ≤ L.length → PutK J L k := by
  have hps := hJ.ps
  have hos := hJ.os
  have hp0 := hJ.p0
  intro k
  induction k with
  | zero =>
    intro _
    exact ⟨hc, fun x => rfl, fun q x h => .inr ⟨h, by simp⟩⟩
  | succ k ih =>
    intro hk
    obtain ⟨c1, c2, c3⟩ := ih (by omega)
    have hkl : k < L.length := by omega
    have hm : L.getD k (0, []) ∈ L := by rw [List.getD, List.getElem?_eq_getElem hkl]; exact List.getElem_mem _
    obtain ⟨i0, i1⟩ := hid _ hm
    have hts := take_snoc L k (0, []) hkl
    have hst : J.putN L (k + 1) = ((J.putN L k).put (L.getD k (0, [])).1 ((J.hd + (k : Int)) % (J.P : Int))).2 := rfl
    have hlen1 := J.putN_len L k
    have q0 : 0 ≤ (J.hd + (k : Int)) % (J.P : Int) := Int.emod_nonneg _ (by omega)
    have q1 : (J.hd + (k : Int)) % (J.P : Int) < (J.putN L k).os.length := by rw [hlen1.2, hos]; exact Int.emod_lt_of_pos _ (by omega)
    have hn : told (J.putN L k).os ((J.hd + (k : Int)) % (J.P : Int)) = none := by
      cases h : told (J.putN L k).os ((J.hd + (k : Int)) % (J.P : Int)) with
      | none => rfl
      | some x =>
        rcases c3 _ _ h with ⟨i, hi, e, _⟩ | ⟨e, _⟩
        · exact absurd e (emod_ne (by omega) (by omega))
        · rw [hfree k hkl] at e; cases e
    have j1 : (L.getD k (0, [])).1 < ((J.putN L k).ps.length : Int) := by rw [hlen1.1, hps]; exact i1
    have hnot : (L.getD k (0, [])).1 ∉ (L.take k).map Prod.fst := by
      intro hx
      have hnd2 : ((L.take (k + 1)).map Prod.fst).Nodup := hnd.sublist ((List.take_sublist _ _).map _)
      rw [hts, List.map_append, List.nodup_append] at hnd2
      exact hnd2.2.2 _ hx _ (by simp) rfl
    have hpsK := Tb.put_ps c1 i0 j1 q0 q1 hn
    have hosK := Tb.put_os c1 i0 j1 q0 q1 hn
    have hconK := Tb.put_con c1 i0 j1 q0 q1 hn
    rw [← hst] at hpsK hosK hconK
    refine ⟨hconK, fun x => ?_, fun q x hx => ?_⟩
    · rw [hpsK, hts, findIdx_snoc, c2]
      have hlk : (L.take k).length = k := by rw [List.length_take]; omega
      by_cases e : x = (L.getD k (0, [])).1
      · rw [if_pos e, e, findIdx_none_mem.2 hnot]
        simp [hlk]
      · rw [if_neg e]
        cases hf : (L.take k).findIdx? (fun y => y.1 == x) with
        | some i => rfl
        | none =>
          have : ((L.getD k (0, [])).1 == x) = false := by simp only [beq_eq_false_iff_ne, ne_eq]; exact fun q => e q.symm
          rw [this]; rfl
    · rw [hosK] at hx
      by_cases e : q = (J.hd + (k : Int)) % (J.P : Int)
      · rw [if_pos e] at hx
        injection hx with hx
        exact .inl ⟨k, by omega, e, hx⟩
      · rw [if_neg e] at hx
        split at hx
        · cases hx
        · rename_i h1
          rcases c3 _ _ hx with ⟨i, hi, e', h'⟩ | ⟨h2, h3⟩
          · exact .inl ⟨i, by omega, e', h'⟩
          · refine .inr ⟨h2, ?_⟩
            rw [hts, List.map_append, List.mem_append]
            rintro (h4 | h4)
            · exact h3 h4
            · simp only [List.map_cons, List.map_nil, List.mem_singleton] at h4
              exact h1 (by rw [← h4]; exact c1.qp _ _ hx)
end Go.SL

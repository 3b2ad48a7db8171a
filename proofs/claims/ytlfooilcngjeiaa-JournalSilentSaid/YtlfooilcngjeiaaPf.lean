/- Plain: where there is room by the rule a batch is never refused. -/
import Derived.Test.YtlfooilcngjeiaaPe
namespace Go.Proofs.Ytlfooilcngjeiaa
set_option linter.unusedVariables false
set_option linter.unusedSimpArgs false
open Go.RowKit Go.SL
/-- How many of the first k places in use are live. -/
def cntN (T : Tb) (P first k : Nat) : Nat := (ownersN T P first k).length
theorem cntN_succ (T : Tb) (P first k : Nat) : cntN T P first (k + 1) = cntN T P first k + (if (told T.os (((first + k) % P : Nat) : Int)).isSome then 1 else 0) := by
  unfold cntN
  rw [ownersN_succ, List.length_append]
  cases told T.os (((first + k) % P : Nat) : Int) <;> simp
theorem cntN_le (T : Tb) (P first k : Nat) : cntN T P first k ≤ k := ownersN_len _ _ _ _
/-- Each place that is looked at adds half a place, and costs one, if it is live. -/
def JBound (J : Jr) : Prop := ∀ k : Nat, (k : Int) ≤ J.us → 2 * J.us - (k : Int) + 2 * (cntN J.T J.P (Jr.tail J) k : Int) ≤ 5 * J.n
theorem nodup_below {l : List Int} {n : Nat} (h : l.Nodup) (hl : ∀ x ∈ l, 0 ≤ x ∧ x < n) : l.length ≤ n := by
  have := nodup_le (m := (List.range n).map fun i : Nat => (i : Int)) h fun x hx => by
    obtain ⟨h0, h1⟩ := hl x hx
    exact List.mem_map.2 ⟨x.toNat, List.mem_range.2 (by omega), Int.toNat_of_nonneg h0⟩
  simpa using this
structure AllB (J : Jr) (L A : Bl) : Prop where
  b : ∀ x ∈ A, x.2.length = 480 ∧ 0 ≤ x.1 ∧ x.1 < J.n
  nd : (A.map Prod.fst).Nodup
theorem allB {J : Jr} {D : Dev} {has : Has} (h : JInv J D has) {L : Bl} (hb : Batch J.n L) : AllB J L (L ++ movB J has L) := by
  have hc := Jr.cleaned_range h.ok.us0 L.length
  have hX := owners_ps h (J.cleaned L.length).toNat
  have hmi : (movB J has L).map Prod.fst = ((ownersN J.T J.P (Jr.tail J) (J.cleaned L.length).toNat).map Prod.fst).filter fun id => decide (id ∉ L.map Prod.fst) := mvL_ids has L _
  have hm4 : ∀ x ∈ movB J has L, x.2.length = 480 ∧ 0 ≤ x.1 ∧ x.1 < J.n := mvL_len480 h (ownK L) _ hX
  have hus1 := h.ok.us1
  refine ⟨?_, ?_⟩
  · intro x hx
    rcases List.mem_append.1 hx with hx | hx
    · exact ⟨hb.b480 x hx, hb.id x hx⟩
    · exact hm4 x hx
  · rw [List.map_append, List.nodup_append]
    refine ⟨hb.nd, ?_, ?_⟩
    · rw [hmi]
      exact (ownersN_nodup h.con _ (by omega)).filter _
    · intro a ha b hb' e
      rw [hmi] at hb'
      have := (List.mem_filter.1 hb').2
      rw [← e] at this
      simp only [decide_eq_true_eq] at this
      exact this ha
theorem commit_putK {J : Jr} {D : Dev} {has : Has} (h : JInv J D has) {L : Bl} (hb : Batch J.n L) (hf : ¬ (J.P : Int) - J.us - J.fr < ((L ++ movB J has L).length : Int)) :
    PutK J (L ++ movB J has L) (L ++ movB J has L).length := by
  have ha := allB h hb
  have hus0 := h.ok.us0
  have hfr0 := h.ok.fr0
  generalize L ++ movB J has L = A at ha hf ⊢
  refine putK J h.ok h.con A (fun x hx => (ha.b x hx).2) ha.nd (by omega) ?_ A.length (Nat.le_refl _)
  intro i hi
  cases ht : told J.T.os ((J.hd + (i : Int)) % (J.P : Int)) with
  | none => rfl
  | some id =>
    obtain ⟨a, a1, a2, a3⟩ := h.win _ _ ht
    exact absurd a3 (emod_ne (by omega) (by omega))
theorem movB_cnt (J : Jr) (has : Has) (L : Bl) : (movB J has L).length ≤ cntN J.T J.P (Jr.tail J) (J.cleaned L.length).toNat := by
  unfold movB mvL cntN
  rw [List.length_map]
  exact List.length_filter_le _ _
/-- There is room. -/
theorem never_full {J : Jr} {D : Dev} {has : Has} (h : JInv J D has) (hB : JBound J) (hP : 5 * J.n + 240 ≤ 2 * (J.P : Int)) {L : Bl} (hb : Batch J.n L) :
    ¬ (J.P : Int) - J.us - J.fr < ((L ++ movB J has L).length : Int) := by
  have hc := Jr.cleaned_range h.ok.us0 L.length
  have hml := movB_len J has L h.ok.us0
  have hn1 := hb.n1
  have hfr1 := h.ok.fr1
  have h0 := hB 0 (by have := h.ok.us0; omega)
  have e0 : cntN J.T J.P (Jr.tail J) 0 = 0 := by have := cntN_le J.T J.P (Jr.tail J) 0; omega
  rw [e0] at h0
  rw [List.length_append]
  omega
theorem cnt_mono {T T' : Tb} {P f f' c : Nat} : ∀ k : Nat, (∀ i, i < k → (told T'.os (((f' + i) % P : Nat) : Int)).isSome = true → (told T.os (((f + (c + i)) % P : Nat) : Int)).isSome = true) → cntN T' P f' k + cntN T P f c ≤ cntN T P f (c + k) := by
  intro k
  induction k with
  | zero => intro _; have := cntN_le T' P f' 0; simp only [Nat.add_zero]; omega
  | succ k ih =>
    intro h
    have := ih fun i hi => h i (by omega)
    have hk := h k (by omega)
    rw [← Nat.add_assoc, cntN_succ, cntN_succ]
    generalize (told T'.os (((f' + k) % P : Nat) : Int)).isSome = b at hk ⊢
    generalize (told T.os (((f + (c + k)) % P : Nat) : Int)).isSome = b' at hk ⊢
    cases b with
    | false => simp only [Bool.false_eq_true, if_false]; omega
    | true => rw [hk rfl]; simp only [if_true]; omega
theorem cnt_step (T : Tb) (P f a : Nat) : ∀ x, cntN T P f (a + x) ≤ cntN T P f a + x := by
  intro x
  induction x with
  | zero => exact Nat.le_refl _
  | succ x ih => rw [← Nat.add_assoc, cntN_succ]; split <;> omega
/-- The rule is kept. -/
theorem bound_done {J : Jr} {D : Dev} {has : Has} (h : JInv J D has) (hB : JBound J) {L : Bl} (hb : Batch J.n L) (hf : ¬ (J.P : Int) - J.us - J.fr < ((L ++ movB J has L).length : Int)) :
    JBound (J.done (L ++ movB J has L) (J.cleaned L.length)) := by
  have ha := allB h hb
  have hpk := commit_putK h hb hf
  have hc := Jr.cleaned_range h.ok.us0 L.length
  have hmc := movB_cnt J has L
  have hus0 := h.ok.us0
  have hus1 := h.ok.us1
  have hfr0 := h.ok.fr0
  have hp0 := h.ok.p0
  have hps := h.ok.ps
  have hbk := hb.n0
  generalize hM : movB J has L = M at *
  have hAl : (L ++ M).length = L.length + M.length := List.length_append
  generalize hA : L ++ M = A at *
  obtain ⟨c, hcc⟩ : ∃ c : Nat, J.cleaned L.length = (c : Int) := ⟨(J.cleaned L.length).toNat, by omega⟩
  have hcdef : (c : Int) = if J.us < 2 * (L.length : Int) then J.us else 2 * (L.length : Int) := by rw [← hcc]; rfl
  rw [hcc, Int.toNat_natCast] at hmc
  rw [hcc] at hc ⊢
  obtain ⟨s, hs⟩ : ∃ s : Nat, J.us = (c : Int) + (s : Int) := ⟨(J.us - c).toNat, by omega⟩
  have hJ' : (J.done A c).us = (s : Int) + (A.length : Int) := by show J.us + ((A.length : Int) - c) = _; omega
  have hn' : (J.done A c).n = J.n := rfl
  have hP' : (J.done A c).P = J.P := rfl
  have hT' : (J.done A c).T = J.putN A A.length := rfl
  have hAP : (A.length : Int) + J.us ≤ J.P := by omega
  -- a place of the new ring, by the old one
  have hpos : ∀ i : Nat, (((Jr.tail (J.done A c) + i) % J.P : Nat) : Int) = (J.hd - J.us + (c : Int) + (i : Int)) % (J.P : Int) := by
    intro i
    unfold Jr.tail
    have hhd : (J.done A c).hd = (J.hd + (A.length : Int)) % (J.P : Int) := rfl
    rw [hJ', hP', hhd, Int.natCast_emod, Int.natCast_add, Int.toNat_of_nonneg (Int.emod_nonneg _ (by omega)), Int.emod_add_emod]
    have e1 := Int.emod_add_mul_ediv (J.hd + (A.length : Int)) (J.P : Int)
    generalize (J.hd + (A.length : Int)) % (J.P : Int) = x at e1
    generalize (J.hd + (A.length : Int)) / (J.P : Int) = y at e1
    rw [show x - ((s : Int) + (A.length : Int)) + (i : Int) = J.hd - J.us + (c : Int) + (i : Int) - (J.P : Int) * y by omega, Int.sub_mul_emod_self_left]
  have hold : ∀ (i : Nat) (x : Int), i < s → told (J.putN A A.length).os (((Jr.tail (J.done A c) + i) % J.P : Nat) : Int) = some x → told J.T.os (((Jr.tail J + (c + i)) % J.P : Nat) : Int) = some x ∧ x ∉ A.map Prod.fst := by
    intro i x hi hx
    rw [hpos] at hx
    rw [tail_pos h.ok, Int.natCast_add, ← Int.add_assoc]
    rcases hpk.os _ _ hx with ⟨k, hk, e, _⟩ | ⟨e1, e2⟩
    · exact absurd e.symm (emod_ne (by omega) (by omega))
    · rw [List.take_length] at e2; exact ⟨e1, e2⟩
  have hmono : ∀ k, k ≤ s → cntN (J.putN A A.length) J.P (Jr.tail (J.done A c)) k + cntN J.T J.P (Jr.tail J) c ≤ cntN J.T J.P (Jr.tail J) (c + k) := fun k hk => cnt_mono k fun i hi hx => by
    obtain ⟨x, hx⟩ := Option.isSome_iff_exists.1 hx
    rw [(hold i x (by omega) hx).1]; rfl
  -- those that are live, and the new ones, are blocks
  have hall : cntN (J.putN A A.length) J.P (Jr.tail (J.done A c)) s + A.length ≤ J.T.ps.length := by
    have hnd : (((ownersN (J.putN A A.length) J.P (Jr.tail (J.done A c)) s).map Prod.fst) ++ A.map Prod.fst).Nodup := by
      rw [List.nodup_append]
      refine ⟨ownersN_nodup hpk.con s (by omega), ha.nd, ?_⟩
      intro a ha' b hb' e
      obtain ⟨y, hy, rfl⟩ := List.mem_map.1 ha'
      obtain ⟨i, hi, y1, y2⟩ := ownersN_mem hy
      rw [y1] at y2
      rw [e] at y2
      exact (hold i _ hi y2).2 hb'
    have := nodup_below (n := J.T.ps.length) hnd fun x hx => by
      rcases List.mem_append.1 hx with hx | hx
      · obtain ⟨y, hy, rfl⟩ := List.mem_map.1 hx
        obtain ⟨i, hi, y1, y2⟩ := ownersN_mem hy
        have := told_range (hpk.con.qp _ _ y2)
        have hl := (J.putN_len A A.length).1
        exact ⟨this.1, by have := this.2.1; omega⟩
      · obtain ⟨y, hy, rfl⟩ := List.mem_map.1 hx
        have := (ha.b y hy).2
        exact ⟨this.1, by have := this.2; omega⟩
    rw [List.length_append, List.length_map, List.length_map] at this
    exact this
  intro k hk
  rw [hJ', hn', hP', hT'] at *
  have hB0 := hB 0 (by omega)
  have e0 : cntN J.T J.P (Jr.tail J) 0 = 0 := by have := cntN_le J.T J.P (Jr.tail J) 0; omega
  rw [e0] at hB0
  by_cases hks : k ≤ s
  · have hm1 := hmono k hks
    have hB1 := hB (c + k) (by omega)
    have hkl := cntN_le (J.putN A A.length) J.P (Jr.tail (J.done A c)) k
    split at hcdef <;> omega
  · obtain ⟨x, hx⟩ : ∃ x, k = s + x := ⟨k - s, by omega⟩
    have hst := cnt_step (J.putN A A.length) J.P (Jr.tail (J.done A c)) s x
    rw [← hx] at hst
    have hms := hmono s (Nat.le_refl s)
    have hBs := hB (c + s) (by omega)
    have hBc := hB c (by omega)
    have hls := cntN_le (J.putN A A.length) J.P (Jr.tail (J.done A c)) s
    split at hcdef <;> omega
end Go.Proofs.Ytlfooilcngjeiaa

/- ReplayTells, the plain half: what replay reckons is what the document says. ReplayTells, the plain half: whole, as the document says it. -/
import Derived.Test.YtlfooilcngjeiaaGreatQk
namespace Go.SL
set_option linter.unusedVariables false
set_option linter.unusedSimpArgs false
open Go.RowKit
/-- The least Start of an epoch. -/
theorem startsL_get (L : List Fnd) (e : Int) : (SU.kget (startsL L) e = none → ∀ x ∈ L, x.1.ep ≠ e) ∧
    (∀ s, SU.kget (startsL L) e = some s → (∃ x ∈ L, x.1.ep = e ∧ x.1.st = s) ∧ ∀ x ∈ L, x.1.ep = e → s ≤ x.1.st) := by
  suffices h : ∀ (L : List Fnd) (M : Ms) (Q : List Fnd), ((SU.kget M e = none → ∀ x ∈ Q, x.1.ep ≠ e) ∧ (∀ s, SU.kget M e = some s → (∃ x ∈ Q, x.1.ep = e ∧ x.1.st = s) ∧ ∀ x ∈ Q, x.1.ep = e → s ≤ x.1.st)) →
      ((SU.kget (L.foldl tstart M) e = none → ∀ x ∈ Q ++ L, x.1.ep ≠ e) ∧ (∀ s, SU.kget (L.foldl tstart M) e = some s → (∃ x ∈ Q ++ L, x.1.ep = e ∧ x.1.st = s) ∧ ∀ x ∈ Q ++ L, x.1.ep = e → s ≤ x.1.st)) by
    have := h L [] [] ⟨fun _ x hx => by simp at hx, fun s hs => by simp [SU.kget] at hs⟩
    simpa [startsL] using this
  intro L
  induction L with
  | nil => intro M Q h; simpa using h
  | cons x L ih =>
    intro M Q h
    have key : (SU.kget (tstart M x) e = none → ∀ y ∈ Q ++ [x], y.1.ep ≠ e) ∧ (∀ s, SU.kget (tstart M x) e = some s → (∃ y ∈ Q ++ [x], y.1.ep = e ∧ y.1.st = s) ∧ ∀ y ∈ Q ++ [x], y.1.ep = e → s ≤ y.1.st) := by
      obtain ⟨h1, h2⟩ := h
      by_cases he : e = x.1.ep
      · subst he
        unfold tstart
        cases hk : SU.kget M x.1.ep with
        | none =>
          simp only [SU.kget_upd, if_true]
          refine ⟨fun h => (by cases h), fun s hs => ?_⟩
          have hs' : x.1.st = s := by simpa using hs
          rw [← hs']
          exact ⟨⟨x, by simp, rfl, rfl⟩, fun y hy hy2 => by
            rcases List.mem_append.1 hy with h | h
            · exact absurd hy2 (h1 hk y h)
            · obtain rfl : y = x := by simpa using h
              exact Int.le_refl _⟩
        | some s0 =>
          obtain ⟨⟨z, hz, hz1, hz2⟩, hle⟩ := h2 s0 hk
          simp only
          by_cases hlt : x.1.st < s0
          · rw [if_pos hlt]
            simp only [SU.kget_upd, if_true]
            refine ⟨fun h => (by cases h), fun s hs => ?_⟩
            have hs' : x.1.st = s := by simpa using hs
            rw [← hs']
            exact ⟨⟨x, by simp, rfl, rfl⟩, fun y hy hy2 => by
              rcases List.mem_append.1 hy with h | h
              · have := hle y h hy2; omega
              · obtain rfl : y = x := by simpa using h
                exact Int.le_refl _⟩
          · rw [if_neg hlt]
            refine ⟨fun h => (by rw [hk] at h; cases h), fun s hs => ?_⟩
            obtain rfl : s0 = s := by rw [hk] at hs; simpa using hs
            exact ⟨⟨z, by simp [hz], hz1, hz2⟩, fun y hy hy2 => by
              rcases List.mem_append.1 hy with h | h
              · exact hle y h hy2
              · obtain rfl : y = x := by simpa using h
                omega⟩
      · have hsame : SU.kget (tstart M x) e = SU.kget M e := by
          unfold tstart
          cases SU.kget M x.1.ep with
          | none => simp only [SU.kget_upd, if_neg he]
          | some s0 => simp only; split <;> simp only [SU.kget_upd, if_neg he]
        rw [hsame]
        refine ⟨fun h y hy => ?_, fun s hs => ?_⟩
        · rcases List.mem_append.1 hy with h' | h'
          · exact h1 h y h'
          · obtain rfl : y = x := by simpa using h'
            exact fun h => he h.symm
        · obtain ⟨⟨z, hz, hz1, hz2⟩, hle⟩ := h2 s hs
          exact ⟨⟨z, by simp [hz], hz1, hz2⟩, fun y hy hy2 => by
            rcases List.mem_append.1 hy with h' | h'
            · exact hle y h' hy2
            · obtain rfl : y = x := by simpa using h'
              exact absurd hy2.symm he⟩
    have := ih (tstart M x) (Q ++ [x]) key
    simpa using this
def minS (M : Ms) : List Int → Int
  | [] => u64max
  | e :: l => min (minS M l) ((SU.kget M e).getD 0)
theorem minS_lt (M : Ms) (q : Int) : ∀ l, q < minS M l ↔ q < u64max ∧ ∀ e ∈ l, q < (SU.kget M e).getD 0
  | [] => by simp [minS]
  | e :: l => by
    have := minS_lt M q l
    simp only [minS, List.mem_cons, forall_eq_or_imp]
    rw [show (q < min (minS M l) ((SU.kget M e).getD 0)) ↔ (q < minS M l ∧ q < (SU.kget M e).getD 0) by omega, this]
    exact ⟨fun h => ⟨h.1.1, h.2, h.1.2⟩, fun h => ⟨⟨h.1, h.2.2⟩, h.2.1⟩⟩
def backE (s : Ms × Int) (e : Int) : Ms × Int := (SU.upd s.1 e s.2, min s.2 ((SU.kget s.1 e).getD 0))
theorem idx_snd (K : List Int) : (idx K).map Prod.snd = K := by
  apply List.ext_getElem
  · simp [idx]
  · intro i h1 h2
    simp [idx, List.getD, List.getElem?_eq_getElem h2]
theorem ebk_eq (K : List Int) (M : Ms) : ebk K M = K.foldr (fun e s => backE s e) (M, u64max) := by
  rw [← List.foldl_reverse]
  unfold ebk
  conv => rhs; rw [← idx_snd K, ← List.map_reverse, List.foldl_map]
  rfl
theorem ebk_facts (M : Ms) : ∀ K : List Int, K.Nodup → (ebk K M).2 = minS M K ∧ (∀ e, e ∉ K → SU.kget (ebk K M).1 e = SU.kget M e) ∧ ∀ K1 e K2, K = K1 ++ e :: K2 → SU.kget (ebk K M).1 e = some (minS M K2)
  | [], _ => ⟨rfl, fun _ _ => rfl, fun K1 e K2 h => by simp at h⟩
  | k :: K, h => by
    obtain ⟨hk, hn⟩ := List.nodup_cons.1 h
    obtain ⟨h1, h2, h3⟩ := ebk_facts M K hn
    have hs : ebk (k :: K) M = backE (ebk K M) k := by rw [ebk_eq, ebk_eq, List.foldr_cons]
    rw [hs]
    refine ⟨?_, fun e he => ?_, fun K1 e K2 hK => ?_⟩
    · simp only [backE, minS, h1, h2 k hk]
    · simp only [List.mem_cons, not_or] at he
      simp only [backE, SU.kget_upd, if_neg he.1, h2 e he.2]
    · cases K1 with
      | nil =>
        simp only [List.nil_append, List.cons.injEq] at hK
        obtain ⟨rfl, rfl⟩ := hK
        simp only [backE, SU.kget_upd, if_true, h1]
      | cons a K1 =>
        simp only [List.cons_append, List.cons.injEq] at hK
        obtain ⟨rfl, hK2⟩ := hK
        have hne : ¬ e = k := fun h => hk (by rw [hK2, ← h]; simp)
        simp only [backE, SU.kget_upd, if_neg hne]
        exact h3 K1 e K2 hK2
theorem startsL_nodup (L : List Fnd) : ((startsL L).map Prod.fst).Nodup := by
  suffices h : ∀ (L : List Fnd) (M : Ms), (M.map Prod.fst).Nodup → ((L.foldl tstart M).map Prod.fst).Nodup from h L [] List.nodup_nil
  intro L
  induction L with
  | nil => intro M h; exact h
  | cons x L ih =>
    intro M h
    refine ih _ ?_
    unfold tstart
    cases SU.kget M x.1.ep with
    | none => exact SU.nodup_upd h _ _
    | some s => simp only; split; exact SU.nodup_upd h _ _; exact h
def staleB (L : List Fnd) (t : Tg) : Bool := L.any fun x => decide (t.ep < x.1.ep) && decide (x.1.st ≤ t.sq)
end Go.SL
namespace Go.Proofs.YtlfooilcngjeiaaGreat
set_option linter.unusedVariables false
set_option linter.unusedSimpArgs false
open Go.RowKit Go.SL
theorem freshL_eq (L : List Fnd) (hq : ∀ x ∈ L, x.1.sq < u64max) : freshL L = L.filter fun x => !staleB L x.1 := by
  unfold freshL
  refine List.filter_congr fun x hx => ?_
  have hnd := startsL_nodup L
  have hperm : (keysL L).Perm ((startsL L).map Prod.fst) := List.mergeSort_perm _ _
  have hKn : (keysL L).Nodup := hperm.nodup_iff.2 hnd
  have hsort : (keysL L).Pairwise fun a b => a ≤ b := by
    have := List.pairwise_mergeSort (le := fun x y : Int => decide (x ≤ y)) (fun a b c h1 h2 => by simp at *; omega) (fun a b => by simp; omega) ((startsL L).map Prod.fst)
    exact this.imp (by intro a b h; simpa using h)
  have hmem : ∀ e, e ∈ keysL L ↔ SU.kget (startsL L) e ≠ none := fun e => by
    rw [hperm.mem_iff]
    rw [Ne, SU.look_none]; simp
  have hxk : x.1.ep ∈ keysL L := (hmem _).2 fun h => (startsL_get L x.1.ep).1 h x hx rfl
  obtain ⟨K1, K2, hK⟩ := List.append_of_mem hxk
  obtain ⟨f1, f2, f3⟩ := ebk_facts (startsL L) (keysL L) hKn
  have hg := f3 K1 x.1.ep K2 hK
  unfold tkeep
  rw [hg, Option.getD_some]
  rw [hK] at hsort hKn
  have hgt : ∀ e, e ∈ K2 ↔ (e ∈ keysL L ∧ x.1.ep < e) := fun e => by
    rw [hK]
    obtain ⟨p1, p2, p3⟩ := List.pairwise_append.1 hsort
    obtain ⟨n1, n2, n3⟩ := List.nodup_append.1 hKn
    obtain ⟨p4, p5⟩ := List.pairwise_cons.1 p2
    obtain ⟨n4, n5⟩ := List.nodup_cons.1 n2
    constructor
    · intro he
      have := p4 e he
      have hne : e ≠ x.1.ep := fun h => n4 (h ▸ he)
      exact ⟨by simp [he], by omega⟩
    · rintro ⟨he, hlt⟩
      rcases List.mem_append.1 he with h | h
      · have := p3 e h x.1.ep (by simp); omega
      · rcases List.mem_cons.1 h with h | h
        · omega
        · exact h
  have main : x.1.sq < minS (startsL L) K2 ↔ staleB L x.1 = false := by
    rw [minS_lt]
    unfold staleB
    rw [List.any_eq_false]
    constructor
    · rintro ⟨_, h⟩ y hy hs
      simp only [Bool.and_eq_true, decide_eq_true_eq] at hs
      have hyk : y.1.ep ∈ keysL L := (hmem _).2 fun h => (startsL_get L y.1.ep).1 h y hy rfl
      have h2 := h y.1.ep ((hgt _).2 ⟨hyk, hs.1⟩)
      cases hk : SU.kget (startsL L) y.1.ep with
      | none => exact (hmem _).1 hyk hk
      | some s =>
        have := ((startsL_get L y.1.ep).2 s hk).2 y hy rfl
        rw [hk, Option.getD_some] at h2
        omega
    · intro h
      refine ⟨hq x hx, fun e he => ?_⟩
      obtain ⟨hek, hlt⟩ := (hgt e).1 he
      cases hk : SU.kget (startsL L) e with
      | none => exact absurd hk ((hmem _).1 hek)
      | some s =>
        obtain ⟨⟨y, hy, he1, he2⟩, _⟩ := (startsL_get L e).2 s hk
        have := h y hy
        simp only [Bool.and_eq_true, decide_eq_true_eq, not_and] at this
        have h4 := this (by rw [he1]; exact hlt)
        rw [Option.getD_some]
        omega
  cases hb : staleB L x.1 with
  | false => simp [main.2 hb]
  | true => simp; exact Int.not_lt.1 fun h => by rw [main.1 h] at hb; cases hb
end Go.Proofs.YtlfooilcngjeiaaGreat
namespace Go.SL
set_option linter.unusedVariables false
set_option linter.unusedSimpArgs false
open Go.RowKit
def rstep (sq : Int) (s : Option Int) (x : Fnd) : Option Int :=
  match s with
  | none => none
  | some c => if x.1.sq = sq then (if c ≠ 0 ∧ c ≠ x.1.ct then none else some x.1.ct) else some c
def hasIx (L : List Fnd) (sq : Int) (k : Int) : Bool := L.any fun x => decide (x.1.sq = sq) && decide (x.1.ix = k)
def wholeR (L : List Fnd) (sq : Int) : Bool := match L.foldl (rstep sq) (some 0) with
  | none => false
  | some c => (List.range c.toNat).all (fun k : Nat => hasIx L sq (k : Int)) && decide (0 < c)
def WInv (sq : Int) (Q : List Fnd) (c : Int) (seen : List Int) (h : Int) : Prop :=
  0 ≤ c ∧ c ≤ 72 ∧ seen.length = 72 ∧ (∀ i : Nat, i < 72 → seen.getD i 0 = if hasIx Q sq (i : Int) then 1 else 0) ∧ h = (seen.count 1 : Nat) ∧ (∀ x ∈ Q, x.1.sq = sq → x.1.ct = c) ∧ ∀ x ∈ Q, x.1.ok = true
theorem rstep_none (sq : Int) (L : List Fnd) : L.foldl (rstep sq) none = none := by
  induction L with
  | nil => rfl
  | cons x L ih => exact ih
theorem hasIx_snoc (Q : List Fnd) (x : Fnd) (sq k : Int) : hasIx (Q ++ [x]) sq k = (hasIx Q sq k || (decide (x.1.sq = sq) && decide (x.1.ix = k))) := by
  simp [hasIx, List.any_append]
theorem wh_fold (sq : Int) : ∀ (L Q : List Fnd) (c : Int) (seen : List Int) (h : Int), (∀ x ∈ L, x.1.ok = true) → WInv sq Q c seen h →
    (∃ c' seen' h', L.foldl (wstep sq) (some (c, seen, h)) = some (c', seen', h') ∧ L.foldl (rstep sq) (some c) = some c' ∧ WInv sq (Q ++ L) c' seen' h') ∨
    (L.foldl (wstep sq) (some (c, seen, h)) = none ∧ L.foldl (rstep sq) (some c) = none)
  | [], Q, c, seen, h, _, hi => .inl ⟨c, seen, h, rfl, rfl, by simpa using hi⟩
  | x :: L, Q, c, seen, h, hok, hi => by
    obtain ⟨i1, i2, i3, i4, i5, i6, i7⟩ := hi
    obtain ⟨_, _, _, _, _, c1, c2, x1, x2, _, _⟩ := ok_range (hok x (by simp))
    have hok' : ∀ y ∈ L, y.1.ok = true := fun y hy => hok y (by simp [hy])
    have assoc : Q ++ x :: L = (Q ++ [x]) ++ L := by simp
    rw [assoc]
    simp only [List.foldl_cons]
    by_cases hs : x.1.sq = sq
    · by_cases hc : c = 0 ∨ c = x.1.ct
      · have e1 : (if c = 0 then x.1.ct else c) = x.1.ct := by
          rcases hc with h9 | h9
          · rw [if_pos h9]
          · split <;> omega
        have r1 : rstep sq (some c) x = some x.1.ct := by
          show (if x.1.sq = sq then (if c ≠ 0 ∧ c ≠ x.1.ct then none else some x.1.ct) else some c) = _
          rw [if_pos hs, if_neg (by omega)]
        have hall : ∀ y ∈ Q ++ [x], y.1.sq = sq → y.1.ct = x.1.ct := fun y hy hy2 => by
          rcases List.mem_append.1 hy with h | h
          · have h6 := i6 y h hy2
            obtain ⟨_, _, _, _, _, d1, _⟩ := ok_range (i7 y h)
            omega
          · obtain rfl : y = x := by simpa using h
            rfl
        have hok2 : ∀ y ∈ Q ++ [x], y.1.ok = true := fun y hy => by
          rcases List.mem_append.1 hy with h | h
          · exact i7 y h
          · obtain rfl : y = x := by simpa using h
            exact hok y (by simp)
        obtain ⟨n, hn⟩ : ∃ n : Nat, x.1.ix = (n : Int) := ⟨x.1.ix.toNat, by omega⟩
        have hn72 : n < 72 := by omega
        have htn : x.1.ix.toNat = n := by omega
        have hsn := i4 n hn72
        by_cases hz : seen.getD n 0 = 0
        · have w1 : wstep sq (some (c, seen, h)) x = some (x.1.ct, seen.set n 1, h + 1) := by
            show (if x.1.sq = sq then _ else _) = _
            rw [if_pos hs, e1, if_pos rfl, htn, if_pos hz, if_pos hz]
          rw [r1, w1]
          refine wh_fold sq L (Q ++ [x]) _ _ _ hok' ⟨by omega, c2, by simp [i3], fun i hi => ?_, ?_, hall, hok2⟩
          · rw [hasIx_snoc]
            by_cases hin : n = i
            · subst hin
              simp [List.getD, List.getElem?_set, i3, hn72, hs, hn]
            · have := i4 i hi
              have e2 : (seen.set n 1).getD i 0 = seen.getD i 0 := by simp [List.getD, List.getElem?_set, hin]
              have e3 : decide (x.1.ix = (i : Int)) = false := by simp; omega
              rw [e2, this, e3]; simp
          · rw [List.count_set (by omega)]
            have e4 : seen[n]'(by omega) = 0 := by rw [List.getD, List.getElem?_eq_getElem (by omega : n < seen.length)] at hz; exact hz
            rw [e4]; simp; omega
        · have w1 : wstep sq (some (c, seen, h)) x = some (x.1.ct, seen, h) := by
            show (if x.1.sq = sq then _ else _) = _
            rw [if_pos hs, e1, if_pos rfl, htn, if_neg hz, if_neg hz]
          rw [r1, w1]
          refine wh_fold sq L (Q ++ [x]) _ _ _ hok' ⟨by omega, c2, i3, fun i hi => ?_, i5, hall, hok2⟩
          rw [hasIx_snoc, i4 i hi]
          by_cases hin : n = i
          · subst hin
            have : hasIx Q sq (n : Int) = true := by
              cases hb : hasIx Q sq (n : Int) with
              | true => rfl
              | false => simp only [hb, Bool.false_eq_true, if_false] at hsn; exact absurd hsn hz
            simp [this]
          · have e3 : decide (x.1.ix = (i : Int)) = false := by simp; omega
            rw [e3]; simp
      · have r1 : rstep sq (some c) x = none := by
          show (if x.1.sq = sq then (if c ≠ 0 ∧ c ≠ x.1.ct then none else some x.1.ct) else some c) = _
          rw [if_pos hs, if_pos (by omega)]
        have w1 : wstep sq (some (c, seen, h)) x = none := by
          show (if x.1.sq = sq then _ else _) = _
          rw [if_pos hs, if_neg (by rw [if_neg (by omega)]; omega)]
        rw [r1, w1]
        exact .inr ⟨wstep_none sq L, rstep_none sq L⟩
    · have r1 : rstep sq (some c) x = some c := if_neg hs
      have w1 : wstep sq (some (c, seen, h)) x = some (c, seen, h) := if_neg hs
      rw [r1, w1]
      refine wh_fold sq L (Q ++ [x]) c seen h hok' ⟨i1, i2, i3, fun i hi => ?_, i5, fun y hy hy2 => ?_, fun y hy => ?_⟩
      · rw [i4 i hi, hasIx_snoc]; simp [hs]
      · rcases List.mem_append.1 hy with h' | h'
        · exact i6 y h' hy2
        · obtain rfl : y = x := by simpa using h'
          exact absurd hy2 hs
      · rcases List.mem_append.1 hy with h' | h'
        · exact i7 y h'
        · obtain rfl : y = x := by simpa using h'
          exact hok y (by simp)
theorem count_le_one {l : List Int} : l.count 1 = l.length ↔ ∀ i : Nat, i < l.length → l.getD i 0 = 1 := by
  rw [List.count_eq_length]
  constructor
  · intro h i hi
    rw [List.getD, List.getElem?_eq_getElem hi]
    exact (h _ (List.getElem_mem hi)).symm
  · intro h b hb
    obtain ⟨i, hi, rfl⟩ := List.getElem_of_mem hb
    have := h i hi
    rw [List.getD, List.getElem?_eq_getElem hi] at this
    exact this.symm
theorem whole_eq (L : List Fnd) (sq : Int) (hok : ∀ x ∈ L, x.1.ok = true) : wholeB L sq = wholeR L sq := by
  have h0 : WInv sq [] 0 (List.replicate 72 0) 0 := ⟨by omega, by omega, by simp, fun i hi => by rw [List.getD, List.getElem?_replicate, if_pos hi]; simp [hasIx], by simp [List.count_replicate], by simp, by simp⟩
  unfold wholeB wholeR wstart
  rcases wh_fold sq L [] 0 _ 0 hok h0 with ⟨c, seen, h, e1, e2, i1, i2, i3, i4, i5, i6, i7⟩ | ⟨e1, e2⟩
  · rw [e1, e2]
    simp only [List.nil_append] at i4 i6 i7
    obtain ⟨n, rfl⟩ := Int.eq_ofNat_of_zero_le i1
    have hn : n ≤ 72 := by omega
    have hdrop : (seen.drop n).count 1 = 0 := by
      rw [List.count_eq_zero]
      intro hm
      obtain ⟨i, hi, he⟩ := List.getElem_of_mem hm
      rw [List.length_drop] at hi
      rw [List.getElem_drop] at he
      have := i4 (n + i) (by omega)
      rw [List.getD, List.getElem?_eq_getElem (by omega : n + i < seen.length), Option.getD_some, he] at this
      have hh : hasIx L sq ((n + i : Nat) : Int) = true := by
        rcases Bool.eq_false_or_eq_true (hasIx L sq ((n + i : Nat) : Int)) with hb | hb
        · exact hb
        · exfalso
          rw [if_neg (by rw [hb]; exact Bool.false_ne_true)] at this
          omega
      unfold hasIx at hh
      obtain ⟨x, hx, hx2⟩ := List.any_eq_true.1 hh
      simp only [Bool.and_eq_true, decide_eq_true_eq] at hx2
      obtain ⟨_, _, _, _, _, _, _, _, hlt, _⟩ := ok_range (i7 x hx)
      have := i6 x hx hx2.1
      omega
    have hcount : seen.count 1 = (seen.take n).count 1 := by
      conv => lhs; rw [← List.take_append_drop n seen, List.count_append, hdrop]
      rfl
    have hlen : (seen.take n).length = n := by simp [i3]; omega
    have key : (h = (n : Int)) ↔ ∀ i : Nat, i < n → hasIx L sq (i : Int) = true := by
      rw [i5, hcount]
      have h1 := @count_le_one (seen.take n)
      rw [hlen] at h1
      rw [Int.ofNat_inj, h1]
      refine forall_congr' fun i => forall_congr' fun hi => ?_
      have e : (seen.take n).getD i 0 = seen.getD i 0 := by simp [List.getD, List.getElem?_take, hi]
      rw [e, i4 i (by omega)]
      by_cases hb : hasIx L sq (i : Int) = true <;> simp [hb]
    show (decide (0 < (n : Int)) && decide (h = (n : Int))) = ((List.range n).all (fun k : Nat => hasIx L sq (k : Int)) && decide (0 < (n : Int)))
    rw [Bool.and_comm]
    congr 1
    rw [Bool.eq_iff_iff, decide_eq_true_eq, key, List.all_eq_true]
    simp
  · rw [e1, e2]
end Go.SL
namespace Go.SL
set_option linter.unusedVariables false
set_option linter.unusedSimpArgs false
open Go.RowKit
def astep (id sq : Int) (s : Int × Int) (x : Fnd) : Int × Int := if x.1.id = id ∧ x.1.sq ≤ sq ∧ s.2 < x.1.sq then ((x.2 : Int), x.1.sq) else s
def atR (L : List Fnd) (id sq : Int) : Int := (L.foldl (astep id sq) (-1, 0)).1
theorem vfold_get (sq : Int) (k : Nat) : ∀ (L : List Fnd) (s : List Int × List Int), (∀ x ∈ L, 0 ≤ x.1.id) → k < s.1.length → k < s.2.length →
    ((L.foldl (vstep sq) s).1.getD k 0, (L.foldl (vstep sq) s).2.getD k 0) = L.foldl (astep (k : Int) sq) (s.1.getD k 0, s.2.getD k 0)
  | [], s, _, _, _ => rfl
  | x :: L, s, h, h1, h2 => by
    have hx := h x (by simp)
    have hL : ∀ y ∈ L, 0 ≤ y.1.id := fun y hy => h y (by simp [hy])
    simp only [List.foldl_cons]
    rw [vfold_get sq k L (vstep sq s x) hL (by unfold vstep; split <;> simp [h1]) (by unfold vstep; split <;> simp [h2])]
    congr 1
    unfold vstep astep
    obtain ⟨n, hn⟩ : ∃ n : Nat, x.1.id = (n : Int) := ⟨x.1.id.toNat, by omega⟩
    have hn2 : x.1.id.toNat = n := by omega
    rw [hn2, hn]
    by_cases hk : n = k
    · subst hk
      by_cases hc : x.1.sq ≤ sq ∧ s.2.getD n 0 < x.1.sq
      · rw [if_pos hc, if_pos ⟨rfl, hc⟩]
        simp [List.getD, List.getElem?_set, h1, h2]
      · rw [if_neg hc, if_neg (fun h => hc h.2)]
    · rw [if_neg (fun h : (n : Int) = (k : Int) ∧ _ => hk (by omega))]
      split
      · simp [List.getD, List.getElem?_set, hk]
      · rfl
theorem whereL_get (L : List Fnd) (sq : Int) (B k : Nat) (hk : k < B) (h : ∀ x ∈ L, 0 ≤ x.1.id) : (whereL L sq B).getD k 0 = atR L (k : Int) sq := by
  have := vfold_get sq k L (vstart B) h (by simp [vstart, hk]) (by simp [vstart, hk])
  have h1 := congrArg Prod.fst this
  simp only at h1
  unfold whereL atR
  rw [h1]
  congr 2
  simp [vstart, List.getD, List.getElem?_replicate, hk]
end Go.SL

/- slices.SortStableFunc of entries: comparing, swapping; swapRange. -/
import Derived.Test.YtaoohjeaaccnfaaGreatEa
import Derived.Deep.DeepCutAuto
import Derived.Deep.CutBlock
import Derived.Deep.CutRange
import Derived.BigQuiet
namespace Go.Proofs.YtaoohjeaaccnfaaGreat.Fs
set_option linter.unusedVariables false
set_option linter.unusedSimpArgs false
open Go.RowKit Go.SL Go.Proofs.YtaoohjeaaccnfaaGreat.Ba
/-- What is compared. -/
abbrev cmpF : Value := .func (.func 45) #[] #[]
def cmpE (x y : Ent) : Int := Lib.compareBytes x.nm y.nm
theorem cmpE_lt (x y : Ent) : decide (cmpE x y < 0) = ltE x y := rfl
theorem cmpE_range (x y : Ent) : -1 ≤ cmpE x y ∧ cmpE x y ≤ 1 := by
  unfold cmpE
  rcases cmpB_range x.nm y.nm with h | h | h <;> omega
def CmpQ (x y : Ent) (w : World) (e : Ending) (w' : World) : Prop := e = .returned (.int .i64 (cmpE x y)) ∧ Sat w' (whole w) ∧ Side w w'
set_option maxRecDepth 100000 in
theorem cmpE_any (x y : Ent) (w : World) : Calls Tryz.prog 45 #[.agg #[.int .i64 (x.nd : Int), .string (str x.nm)], .agg #[.int .i64 (y.nd : Int), .string (str y.nm)]] w (CmpQ x y w) := by
  refine callsQ fun Q HQ => ?_
  have hA := SL.hid (((Sat.whole w).alloc (.cells #[.int .i64 (x.nd : Int), .string (str x.nm)] 47 (0, 0))).alloc (.cells #[.int .i64 (y.nd : Int), .string (str y.nm)] 47 (0, 0))).right.right
  have dA := SL.hid (((Side.refl w).alloc (.cells #[.int .i64 (x.nd : Int), .string (str x.nm)] 47 (0, 0))).alloc (.cells #[.int .i64 (y.nd : Int), .string (str y.nm)] 47 (0, 0)))
  have hc := fun w => Tryz.strings_Compare (str x.nm) (str y.nm) w
  have HC := SL.hid hc
  clear hc
  go_enter Tryz.func45, Tryz.ntmps45
  go_wp2_with fail
  refine (HC.out _).mono ?_
  rintro e w2 ⟨rfl, rfl⟩
  go_wp2_with fail
  exact HQ.out _ _ ⟨rfl, hA.out, dA.out⟩
/-- A row of entries. -/
def RowE (v : Value) (L : List Ent) : Assn := sl 47 2 v L.length (flatE L)
theorem flatE_set {L : List Ent} {i : Nat} (hi : i < L.length) (e : Ent) : ((flatE L).set (i * 2) (.int .i64 (e.nd : Int))).set (i * 2 + 1) (.string (str e.nm)) = flatE (L.set i e) := by
  induction L generalizing i with
  | nil => simp at hi
  | cons a L ih =>
    have e1 : flatE (a :: L) = .int .i64 (a.nd : Int) :: .string (str a.nm) :: flatE L := rfl
    cases i with
    | zero => rw [e1]; rfl
    | succ i =>
      have h2 : (i + 1) * 2 = i * 2 + 1 + 1 := by omega
      rw [e1, h2, List.set_cons_succ, List.set_cons_succ, List.set_cons_succ, List.set_cons_succ]
      show _ = .int .i64 (a.nd : Int) :: .string (str a.nm) :: flatE (L.set i e)
      rw [← ih (by simpa using hi)]
section
variable {w : World} {v : Value} {L : List Ent} {F : Assn} {i j : Nat}
theorem rowE_set (h : Sat w (RowE v L * F)) (hi : i < L.length) (e : Ent) : ∃ g c, v = .slice (some ⟨g, 0, none⟩) L.length c ∧ w.frozen? ⟨g, i * 2, none⟩ = false ∧ w.frozen? ⟨g, i * 2 + 1, none⟩ = false ∧
    Sat ((w.setCell ⟨g, i * 2, none⟩ (.int .i64 (e.nd : Int))).setCell ⟨g, i * 2 + 1, none⟩ (.string (str e.nm))) (RowE v (L.set i e) * F) := by
  rcases h.slCases with ⟨_, h0, _⟩ | ⟨g, cap, cur, rfl, h3, h4, h5, h6, h7⟩
  · omega
  · refine ⟨g, cap, rfl, h7.frozen _, h7.frozen _, ?_⟩
    have h8 := (h7.setCell (i * 2) (.int .i64 (e.nd : Int))).setCell (i * 2 + 1) (.string (str e.nm))
    have h9 := Sat.slOf (sz := 2) (n := L.length) (cap := cap) h8 h3 h4 (by rw [Array.size_setIfInBounds, Array.size_setIfInBounds]; exact h5)
    unfold RowE
    rw [List.length_set]
    refine h9.to ?_
    congr 2
    rw [← flatE_set hi, ← h6]
    simp only [Array.toList_setIfInBounds]
    rw [List.take_set, List.take_set]
theorem rowE_get (h : Sat w (RowE v L * F)) (hi : i < L.length) {x : Ent} (hx : L[i]? = some x) : ∃ g c, v = .slice (some ⟨g, 0, none⟩) L.length c ∧ w.cell? ⟨g, i * 2, none⟩ = some (.int .i64 (x.nd : Int)) ∧ w.cell? ⟨g, i * 2 + 1, none⟩ = some (.string (str x.nm)) ∧ L.length ≤ c ∧ (c : Int) ≤ 9223372036854775807 := by
  obtain ⟨g, c, e, e1, e2, k1, k2⟩ := ents_at h hi
  have : L[i] = x := by rw [List.getElem?_eq_getElem hi] at hx; exact Option.some.inj hx
  rw [this] at e1 e2
  exact ⟨g, c, e, e1, e2, k1, by omega⟩
/-- What a swap wants, and does. -/
theorem rowE_swap (h : Sat w (RowE v L * F)) (hi : i < L.length) (hj : j < L.length) (hij : i ≠ j) {x y : Ent} (hx : L[i]? = some x) (hy : L[j]? = some y) : ∃ g c, v = .slice (some ⟨g, 0, none⟩) L.length c ∧ L.length ≤ c ∧ (c : Int) ≤ 9223372036854775807 ∧
    (w.cell? ⟨g, i * 2, none⟩ = some (.int .i64 (x.nd : Int)) ∧ w.cell? ⟨g, i * 2 + 1, none⟩ = some (.string (str x.nm)) ∧ w.cell? ⟨g, j * 2, none⟩ = some (.int .i64 (y.nd : Int)) ∧ w.cell? ⟨g, j * 2 + 1, none⟩ = some (.string (str y.nm))) ∧
    (w.frozen? ⟨g, i * 2, none⟩ = false ∧ w.frozen? ⟨g, i * 2 + 1, none⟩ = false ∧ w.frozen? ⟨g, j * 2, none⟩ = false ∧ w.frozen? ⟨g, j * 2 + 1, none⟩ = false) ∧
    Sat ((((w.setCell ⟨g, i * 2, none⟩ (.int .i64 (y.nd : Int))).setCell ⟨g, i * 2 + 1, none⟩ (.string (str y.nm))).setCell ⟨g, j * 2, none⟩ (.int .i64 (x.nd : Int))).setCell ⟨g, j * 2 + 1, none⟩ (.string (str x.nm))) (RowE v (swpL L i j x y) * F) := by
  obtain ⟨g, c, rfl, e1, e2, k1, k2⟩ := rowE_get h hi hx
  obtain ⟨g', c', e, e3, e4, -, -⟩ := rowE_get h hj hy
  simp only [Value.slice.injEq, Option.some.injEq, Addr.mk.injEq] at e
  obtain ⟨⟨rfl, -⟩, -⟩ := e
  obtain ⟨g', c', e, f1, f2, h1⟩ := rowE_set h hi y
  simp only [Value.slice.injEq, Option.some.injEq, Addr.mk.injEq] at e
  obtain ⟨⟨rfl, -⟩, -⟩ := e
  obtain ⟨g', c', e, f3, f4, -⟩ := rowE_set h hj y
  simp only [Value.slice.injEq, Option.some.injEq, Addr.mk.injEq] at e
  obtain ⟨⟨rfl, -⟩, -⟩ := e
  obtain ⟨g', c', e, _, _, h2⟩ := rowE_set h1 (by rw [List.length_set]; exact hj : j < _) x
  simp only [Value.slice.injEq, Option.some.injEq, Addr.mk.injEq] at e
  obtain ⟨⟨rfl, -⟩, -⟩ := e
  exact ⟨g, c, rfl, k1, k2, ⟨e1, e2, e3, e4⟩, ⟨f1, f2, f3, f4⟩, h2⟩
end
/-- What a range that is swapped looks like, behind i of its places. -/
def SrRel (v : Value) (P A M B Q : List Ent) (w0 : World) (F : Assn) (u : Value) (wr : World) : Prop :=
  ∃ (A1 A2 B1 B2 : List Ent), A = A1 ++ A2 ∧ B = B1 ++ B2 ∧ A1.length = B1.length ∧ u = .int .i64 (A1.length : Int) ∧ Side w0 wr ∧ Sat wr (RowE v (P ++ (B1 ++ (A2 ++ (M ++ (A1 ++ (B2 ++ Q)))))) * F)
def RowQ (v : Value) (L : List Ent) (F : Assn) (w : World) (e : Ending) (w' : World) : Prop := e = .returned (.tuple #[]) ∧ Side w w' ∧ Sat w' (RowE v L * F)
set_option maxRecDepth 100000 in
set_option maxHeartbeats 4000000 in
theorem swapR_any (v : Value) (P A M B Q : List Ent) (hAB : A.length = B.length) (a b m : Nat) (ha : P.length = a) (hb : P.length + A.length + M.length = b) (hm : A.length = m) (w : World) (F : Assn) (hl : (P ++ (A ++ (M ++ (B ++ Q)))).length ≤ 4000) (h : Sat w (RowE v (P ++ (A ++ (M ++ (B ++ Q)))) * F)) :
    Calls Tryz.prog 140 #[v, .int .i64 (a : Int), .int .i64 (b : Int), .int .i64 (m : Int), cmpF] w (RowQ v (P ++ (B ++ (M ++ (A ++ Q)))) F w) := by
  refine callsQ fun Q' HQ => ?_
  obtain ⟨va, vc, rfl⟩ := sl_shape h
  obtain ⟨N, hN⟩ : ∃ N, (P ++ (A ++ (M ++ (B ++ Q)))).length = N := ⟨_, rfl⟩
  have H := SL.hid h; have HN := SL.hid hN
  rw [hN] at hl H HQ ⊢
  have HAB := SL.hid hAB; have Ha := SL.hid ha; have Hb := SL.hid hb; have Hm := SL.hid hm
  have hNs : P.length + (A.length + (M.length + (B.length + Q.length))) = N := by rw [← hN]; simp only [List.length_append]
  have HNs := SL.hid hNs
  clear h hN hAB ha hb hm hNs
  go_enter Tryz.func140, Tryz.ntmps140
  go_wp2_with fail
  go_loopw [10] (fun u wr => SrRel (.slice va N vc) P A M B Q w F u wr) (fun u _ => m - (intOf u).toNat)
  case atStart => exact ⟨[], A, [], B, rfl, rfl, rfl, rfl, Side.refl w, H.out⟩
  case round =>
    obtain ⟨A1, A2, B1, B2, hA, hB, hlen, rfl, hside, hsat⟩ := hrel
    clear H
    obtain ⟨k, hk⟩ : ∃ k, A1.length = k := ⟨_, rfl⟩
    have hkA : k + A2.length = m := by rw [← Hm.out, hA, List.length_append, hk]
    have hkB : k + B2.length = m := by rw [← Hm.out, HAB.out, hB, List.length_append, ← hlen, hk]
    rw [hk]
    by_cases hlt : k < m
    · obtain ⟨x, A3, rfl⟩ : ∃ x A3, A2 = x :: A3 := by
        cases A2 with
        | nil => simp at hkA; omega
        | cons x A3 => exact ⟨x, A3, rfl⟩
      obtain ⟨y, B3, rfl⟩ : ∃ y B3, B2 = y :: B3 := by
        cases B2 with
        | nil => simp at hkB; omega
        | cons y B3 => exact ⟨y, B3, rfl⟩
      obtain ⟨SS, hSS⟩ : ∃ SS, P ++ B1 = SS := ⟨_, rfl⟩
      obtain ⟨TT, hTT⟩ : ∃ TT, A3 ++ (M ++ A1) = TT := ⟨_, rfl⟩
      obtain ⟨RR, hRR⟩ : ∃ RR, B3 ++ Q = RR := ⟨_, rfl⟩
      have eL : P ++ (B1 ++ (x :: A3 ++ (M ++ (A1 ++ (y :: B3 ++ Q))))) = SS ++ x :: (TT ++ y :: RR) := by rw [← hSS, ← hTT, ← hRR]; simp
      have eR : P ++ ((B1 ++ [y]) ++ (A3 ++ (M ++ ((A1 ++ [x]) ++ (B3 ++ Q))))) = SS ++ y :: (TT ++ x :: RR) := by rw [← hSS, ← hTT, ← hRR]; simp
      rw [eL] at hsat
      have hSl : SS.length = a + k := by rw [← hSS, List.length_append, Ha.out, ← hlen, hk]
      have hTl : SS.length + 1 + TT.length = b + k := by
        have h1 := Hb.out
        rw [hSl, ← hTT, List.length_append, List.length_append, hk, ← h1, Ha.out]
        rw [List.length_cons] at hkA
        have := Hm.out
        omega
      have hLl : (SS ++ x :: (TT ++ y :: RR)).length = N := by
        rw [← HNs.out, ← eL]
        simp only [List.length_append, hA, hB]
        omega
      have hbk : b + k < N := by
        rw [← hLl, ← hTl]; simp only [List.length_append, List.length_cons]; omega
      have hab : a + k < b + k := by have := Hb.out; have := Ha.out; have := Hm.out; omega
      obtain ⟨ak, hak⟩ : ∃ n, a + k = n := ⟨_, rfl⟩
      obtain ⟨bk, hbk2⟩ : ∃ n, b + k = n := ⟨_, rfl⟩
      have hwa : IntKind.i64.wrap ((a : Int) + (k : Int)) = (ak : Int) := by rw [IntKind.wrap_i64]; omega
      have hwb : IntKind.i64.wrap ((b : Int) + (k : Int)) = (bk : Int) := by rw [IntKind.wrap_i64]; omega
      rw [hak] at hSl hab
      rw [hbk2] at hTl hbk hab
      obtain ⟨g, c, e, k1, k2, ⟨c1, c2, c3, c4⟩, ⟨f1, f2, f3, f4⟩, h9⟩ := rowE_swap (i := ak) (j := bk) (x := x) (y := y) hsat (by omega) (by omega) (by omega)
        (by rw [← hSl, List.getElem?_append_right (Nat.le_refl _), Nat.sub_self]; rfl)
        (by rw [← hTl, List.getElem?_append_right (by omega), show SS.length + 1 + TT.length - SS.length = TT.length + 1 by omega, List.getElem?_cons_succ, List.getElem?_append_right (Nat.le_refl _), Nat.sub_self]; rfl)
      rw [hLl] at e k1
      simp only [Value.slice.injEq] at e
      obtain ⟨rfl, -, rfl⟩ := e
      have eS : swpL (SS ++ x :: (TT ++ y :: RR)) ak bk x y = SS ++ y :: (TT ++ x :: RR) := by rw [← hTl, ← hSl]; exact swpL_mid _ _ _ _ _
      rw [eS, ← eR] at h9
      have H9 := SL.hid h9
      have hk1' : (N : Int) ≤ (vc : Int) := by omega
      have hbk' : (bk : Int) < (N : Int) := by omega
      have hak' : (ak : Int) < (N : Int) := by omega
      have hN' : (N : Int) ≤ 4000 := by omega
      have hk4 : (k : Int) < 4000 := by omega
      have Hk := SL.hid hk; have HA := SL.hid hA; have HB := SL.hid hB; have Hlen := SL.hid hlen
      clear hsat h9 eS eL eR hSl hTl hLl k1 hkA hkB hk hA hB hlen hSS hTT hRR hak hbk2
      go_wp2_with fail
      go_region_law (fail)
      all_goals
        go_wp2
        go_roundw
        case rel => exact ⟨A1 ++ [x], A3, B1 ++ [y], B3, by rw [HA.out]; simp, by rw [HB.out]; simp, by simp [Hlen.out], by rw [List.length_append, Hk.out]; simp, ((((hside.setCell _ _).setCell _ _).setCell _ _).setCell _ _).drew, H9.out.drew⟩
        case measure => simp [intOf]; omega
    · have h1 : A2 = [] := List.eq_nil_of_length_eq_zero (by omega)
      have h2 : B2 = [] := List.eq_nil_of_length_eq_zero (by omega)
      subst h1 h2
      rw [List.append_nil] at hA hB
      subst hA hB
      have H2 := SL.hid hsat
      clear hsat
      go_wp2_with fail
      go_end0
      exact HQ.out _ _ ⟨rfl, hside, by simpa using H2.out⟩
end Go.Proofs.YtaoohjeaaccnfaaGreat.Fs

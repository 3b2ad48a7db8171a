/- Plain: what a batch does to what a journal keeps. -/
import Derived.Test.YtlfooilcngjeiaaPd
namespace Go.Proofs.Ytlfooilcngjeiaa
set_option linter.unusedVariables false
set_option linter.unusedSimpArgs false
open Go.RowKit Go.SL
def updB (has : Has) (L : Bl) : Has := fun id => (kget L id).or (has id)
/-- May these be a batch? -/
structure Batch (n : Int) (L : Bl) : Prop where
  n0 : 1 ≤ L.length
  n1 : L.length ≤ 24
  id : ∀ x ∈ L, 0 ≤ x.1 ∧ x.1 < n
  b480 : ∀ x ∈ L, x.2.length = 480
  nd : (L.map Prod.fst).Nodup
def ownK (L : Bl) : KV := ownN (wrOf L) L.length
theorem ownK_get (L : Bl) (id : Int) : (kget (ownK L) id).isSome = decide (id ∈ L.map Prod.fst) := by
  have hl : (wrOf L).length = L.length := by simp [wrOf]
  rw [ownK, ownN_kget (by omega)]
  congr 1
  have : ((wrOf L).take L.length).map Prod.fst = L.map Prod.fst := by
    rw [← hl, List.take_length]
    unfold wrOf
    rw [List.map_map]; rfl
  rw [this]
/-- The blocks that are moved, with what they have. -/
def movB (J : Jr) (has : Has) (L : Bl) : Bl := mvL has (ownK L) (ownersN J.T J.P (Jr.tail J) (J.cleaned L.length).toNat)
theorem tail_pos {J : Jr} (hJ : J.Ok) (i : Nat) : (((Jr.tail J + i) % J.P : Nat) : Int) = (J.hd - J.us + (i : Int)) % (J.P : Int) := by
  have hp := hJ.p0
  unfold Jr.tail
  rw [Int.natCast_emod, Int.natCast_add, Int.toNat_of_nonneg (Int.emod_nonneg _ (by omega)), Int.emod_add_emod]
theorem kget_idx {L : Bl} {x : Int} {i : Nat} (h : L.findIdx? (fun y => y.1 == x) = some i) : i < L.length ∧ (L.getD i (0, [])).1 = x ∧ kget L x = some (L.getD i (0, [])).2 := by
  rw [List.findIdx?_eq_some_iff_getElem] at h
  obtain ⟨h1, h2, h3⟩ := h
  have e : L.getD i (0, []) = L[i] := by rw [List.getD, List.getElem?_eq_getElem h1]; rfl
  refine ⟨h1, by rw [e]; simpa using h2, ?_⟩
  rw [e]
  have hf : L.find? (fun p => p.1 == x) = some L[i] := List.find?_eq_some_iff_getElem.2 ⟨h2, i, h1, rfl, fun j hj => by simpa using h3 j hj⟩
  unfold kget
  rw [hf]
  rfl
theorem kget_append {α : Type} (A B : List (Int × α)) (x : Int) : kget (A ++ B) x = (kget A x).or (kget B x) := by
  unfold kget
  rw [List.find?_append]
  cases A.find? (fun p => p.1 == x) <;> rfl
theorem mvL_has {J : Jr} {D : Dev} {has : Has} (h : JInv J D has) (own : KV) (X : List (Int × Int)) (hX : ∀ x ∈ X, told J.T.ps x.1 = some x.2) (id : Int) (b : List UInt8) (hk : kget (mvL has own X) id = some b) : has id = some b := by
  have hm := look_mem hk
  unfold mvL at hm
  obtain ⟨x, hx, e⟩ := List.mem_map.1 hm
  have hx' := (List.mem_filter.1 hx).1
  obtain ⟨t, c, h1, _⟩ := h.dat _ _ (hX x hx')
  injection e with e1 e2
  rw [← e1, h1]
  rw [h1] at e2
  rw [← e2]; rfl
theorem mvL_len480 {J : Jr} {D : Dev} {has : Has} (h : JInv J D has) (own : KV) (X : List (Int × Int)) (hX : ∀ x ∈ X, told J.T.ps x.1 = some x.2) : ∀ x ∈ mvL has own X, x.2.length = 480 ∧ 0 ≤ x.1 ∧ x.1 < J.n := by
  intro y hy
  unfold mvL at hy
  obtain ⟨x, hx, rfl⟩ := List.mem_map.1 hy
  have hx' := (List.mem_filter.1 hx).1
  obtain ⟨t, c, h1, h2, _⟩ := h.dat _ _ (hX x hx')
  have hr := told_range (hX x hx')
  have := h.ok.ps
  exact ⟨by simp only [h1, Option.getD_some]; exact h2, hr.1, by show x.1 < J.n; omega⟩
theorem mvL_ids (has : Has) (L : Bl) (X : List (Int × Int)) : (mvL has (ownK L) X).map Prod.fst = (X.map Prod.fst).filter fun id => decide (id ∉ L.map Prod.fst) := by
  unfold mvL
  rw [List.map_map, List.filter_map]
  congr 1
  congr 1
  funext x
  simp only [Function.comp, ownK_get]
  simp
/-- What a batch comes to. -/
structure DoneC (J : Jr) (D : Dev) (has : Has) (L : Bl) (D' : Dev) : Prop where
  run : jcommit J D true L = (0, J.done (L ++ movB J has L) (J.cleaned L.length), D')
  inv : JInv (J.done (L ++ movB J has L) (J.cleaned L.length)) D' (updB has L)
  cr : D'.cr = addN D.cr (movB J has L).length
  cw : D'.cw = addN D.cw (L.length + (movB J has L).length)
  cf : D'.cf = i64w (D.cf + 1)
structure FullC (J : Jr) (D : Dev) (has : Has) (L : Bl) (D' : Dev) : Prop where
  run : jcommit J D true L = (9, J, D')
  inv : JInv J D' has
  cr : D'.cr = addN D.cr (movB J has L).length
  cw : D'.cw = D.cw
  cf : D'.cf = i64w (D.cf + 1)
theorem owners_ps {J : Jr} {D : Dev} {has : Has} (h : JInv J D has) (k : Nat) : ∀ x ∈ ownersN J.T J.P (Jr.tail J) k, told J.T.ps x.1 = some x.2 := by
  intro x hx
  obtain ⟨_, _, _, h2⟩ := ownersN_mem hx
  exact h.con.qp _ _ h2
theorem jmoved_calm {J : Jr} {D : Dev} {has : Has} (h : JInv J D has) (L : Bl) : jmoved J D L = ((0, movB J has L), J, { D with cr := addN D.cr (movB J has L).length }) :=
  moves_calm h (ownK L) _ (owners_ps h _)
theorem movB_len (J : Jr) (has : Has) (L : Bl) (h0 : 0 ≤ J.us) : ((movB J has L).length : Int) ≤ J.cleaned L.length := by
  have h1 : (movB J has L).length ≤ (J.cleaned L.length).toNat := by
    unfold movB mvL
    rw [List.length_map]
    exact Nat.le_trans (List.length_filter_le _ _) (ownersN_len _ _ _ _)
  have := (Jr.cleaned_range h0 L.length).1
  omega
theorem commit_full {J : Jr} {D : Dev} {has : Has} (h : JInv J D has) {L : Bl} (hb : Batch J.n L) (hsq : J.sq < 281474976710655) (hf : (J.P : Int) - J.us - J.fr < ((L ++ movB J has L).length : Int)) :
    ∃ D', FullC J D has L D' := by
  have hm := jmoved_calm h.flushed L
  refine ⟨_, ?_, h.flushed.cr (addN D.flushed.cr (movB J has L).length), ?_, ?_, ?_⟩
  · unfold jcommit
    rw [if_neg (by simp), if_neg (by omega), h.flush, if_neg (by simp)]
    unfold jcommit2
    rw [hm, if_neg (by simp), if_pos hf]
  · show addN D.flushed.cr _ = _
    rw [(flushed_counts D).1]
  · exact (flushed_counts D).2.1
  · exact (flushed_counts D).2.2.1
theorem commit_done {J : Jr} {D : Dev} {has : Has} (h : JInv J D has) {L : Bl} (hb : Batch J.n L) (hsq : J.sq < 281474976710655) (hf : ¬ (J.P : Int) - J.us - J.fr < ((L ++ movB J has L).length : Int)) :
    ∃ D', DoneC J D has L D' := by
  have hm := jmoved_calm h.flushed L
  have hfl := h.flushed
  have hc := Jr.cleaned_range h.ok.us0 L.length
  have hml := movB_len J has L h.ok.us0
  have hX := owners_ps h (J.cleaned L.length).toNat
  have hmi : (movB J has L).map Prod.fst = ((ownersN J.T J.P (Jr.tail J) (J.cleaned L.length).toNat).map Prod.fst).filter fun id => decide (id ∉ L.map Prod.fst) := mvL_ids has L _
  have hmh : ∀ id b, kget (movB J has L) id = some b → has id = some b := fun id b hk => mvL_has h (ownK L) _ hX id b hk
  have hm4 : ∀ x ∈ movB J has L, x.2.length = 480 ∧ 0 ≤ x.1 ∧ x.1 < J.n := mvL_len480 h (ownK L) _ hX
  have hus0 := h.ok.us0
  have hus1 := h.ok.us1
  have hfr0 := h.ok.fr0
  have hp0 := h.ok.p0
  have hn1 := hb.n1
  generalize hM : movB J has L = M at *
  obtain ⟨A, hA⟩ : ∃ A, A = L ++ M := ⟨_, rfl⟩
  have hAlen : A.length = L.length + M.length := by rw [hA, List.length_append]
  rw [← hA] at hf
  have hA4 : ∀ x ∈ A, x.2.length = 480 ∧ 0 ≤ x.1 ∧ x.1 < J.n := by
    intro x hx
    rw [hA] at hx
    rcases List.mem_append.1 hx with hx | hx
    · exact ⟨hb.b480 x hx, hb.id x hx⟩
    · exact hm4 x hx
  have hAnd : (A.map Prod.fst).Nodup := by
    rw [hA, List.map_append, List.nodup_append]
    refine ⟨hb.nd, ?_, ?_⟩
    · rw [hmi]
      exact (ownersN_nodup h.con _ (by omega)).filter _
    · intro a ha b hb' e
      rw [hmi] at hb'
      have := (List.mem_filter.1 hb').2
      rw [← e] at this
      simp only [decide_eq_true_eq] at this
      exact this ha
  have hAl : (A.length : Int) ≤ J.P := by omega
  have hAl2 : (A.length : Int) + J.us ≤ J.P := by omega
  have hfree : ∀ i : Nat, i < A.length → told J.T.os ((J.hd + (i : Int)) % (J.P : Int)) = none := by
    intro i hi
    cases ht : told J.T.os ((J.hd + (i : Int)) % (J.P : Int)) with
    | none => rfl
    | some id =>
      obtain ⟨a, a1, a2, a3⟩ := h.win _ _ ht
      exact absurd a3 (emod_ne (by omega) (by omega))
  have hpk := putK J h.ok h.con A (fun x hx => (hA4 x hx).2) hAnd hAl hfree A.length (Nat.le_refl _)
  obtain ⟨p1, p2, p3⟩ := hpk
  rw [List.take_length] at p2
  have hwl : (wrOf A).length = A.length := by simp [wrOf]
  have hw480 : ∀ z ∈ wrOf A, z.2.2.length = 480 := by
    intro z hz
    obtain ⟨x, hx, rfl⟩ := List.mem_map.1 hz
    exact (hA4 x hx).1
  have hsec2 : (J.P : Int) + 1 ≤ D.flushed.sec.length := hfl.sec
  obtain ⟨D', hwr⟩ := wrK J { D.flushed with cr := addN D.flushed.cr M.length } h.ok.p0 (cr_calm hfl.calm _) hsec2 (wrOf A) hw480 (by rw [hwl]; exact hAl) A.length (by rw [hwl]; exact Nat.le_refl _)
  have hwk := Jr.writeN_keeps J (cr_ok hfl.dok (addN D.flushed.cr M.length)) (wrOf A) A.length (by show D.flushed.wait.length + A.length ≤ 1000000; have : D.flushed.wait = [] := rfl; rw [this]; simp only [List.length_nil]; have := h.ok.p1; omega)
  obtain ⟨w1, w2, w3, w4, w5, w6, w7, w8⟩ := hwr
  rw [w1] at hwk
  have hrun : jcommit J D true L = (0, J.done A (J.cleaned L.length), D') := by
    unfold jcommit
    rw [if_neg (by simp), if_neg (by omega), h.flush, if_neg (by simp)]
    unfold jcommit2
    rw [hm, ← hA, if_neg (by simp), if_neg hf, w1, if_neg (by simp)]
  have hpl := J.putN_len A A.length
  have hposd : J.hd % (J.P : Int) = J.hd := Int.emod_eq_of_lt h.ok.hd0 h.ok.hd1
  have hnew : ∀ i : Nat, i < A.length → D'.tells ((J.hd + (i : Int)) % (J.P : Int) + 1) = (0, enc (J.tag i A.length (A.getD i (0, [])).1) ++ (A.getD i (0, [])).2) := by
    intro i hi
    have := w7 i hi
    rw [hwl, (plain_get _ _).1, (plain_get _ _).2, plain_wrOf] at this
    exact this
  have hnum := h.nums.numbers hsq
  have hq : ∃ q : Int, (J.done A (J.cleaned L.length)).hd = J.hd + (A.length : Int) - (J.P : Int) * q := ⟨(J.hd + (A.length : Int)) / (J.P : Int), by
    show (J.hd + (A.length : Int)) % (J.P : Int) = _
    have := Int.emod_add_mul_ediv (J.hd + (A.length : Int)) (J.P : Int)
    omega⟩
  obtain ⟨q, hq⟩ := hq
  have hinwin : ∀ a : Int, J.hd - J.us + J.cleaned L.length ≤ a → a < J.hd + (A.length : Int) → ∃ b : Int, (J.done A (J.cleaned L.length)).hd - (J.done A (J.cleaned L.length)).us ≤ b ∧ b < (J.done A (J.cleaned L.length)).hd ∧ a % (J.P : Int) = b % (J.P : Int) := by
    intro a a1 a2
    have e : (J.done A (J.cleaned L.length)).us = J.us + ((A.length : Int) - J.cleaned L.length) := rfl
    refine ⟨a - (J.P : Int) * q, by rw [hq, e]; omega, by rw [hq]; omega, ?_⟩
    rw [Int.sub_mul_emod_self_left]
  refine ⟨D', by rw [hM, ← hA]; exact hrun, ?_, ?_, ?_, ?_⟩
  · rw [hM, ← hA]
    refine ⟨?_, ?_, ?_, h.br, w2, ?_, p1, ?_, ?_, ?_, ?_⟩
    · exact ⟨h.ok.p0, h.ok.p1, putN_ok h.ok.T A A.length, by show ((J.putN A A.length).ps.length : Int) = J.n; rw [hpl.1]; exact h.ok.ps, by show (J.putN A A.length).os.length = J.P; rw [hpl.2]; exact h.ok.os,
        by show 0 ≤ J.us + ((A.length : Int) - J.cleaned L.length); omega, by show J.us + ((A.length : Int) - J.cleaned L.length) ≤ (J.P : Int); omega,
        Int.emod_nonneg _ (by omega), Int.emod_lt_of_pos _ (by omega), by show 0 ≤ J.cleaned L.length; omega, by show J.cleaned L.length ≤ 48; omega⟩
    · exact ⟨h.nums.ep0, h.nums.ep1, h.nums.st0, by show J.st ≤ J.sq + 1 + 1; have := h.nums.st1; omega, by show 0 ≤ J.sq + 1; have := h.nums.sq0; omega, by show J.sq + 1 ≤ 281474976710655; omega, h.nums.n1, Jr.putN_owns h.nums.own A A.length⟩
    · exact hwk.ok (cr_ok hfl.dok _) (by show D.flushed.wait.length + A.length ≤ 1000000; have : D.flushed.wait = [] := rfl; rw [this]; simp only [List.length_nil]; have := h.ok.p1; omega)
    · rw [w3]; exact hsec2
    · show J.us + ((A.length : Int) - J.cleaned L.length) + J.cleaned L.length ≤ (J.P : Int); omega
    · intro p id hp
      rcases p3 p id hp with ⟨i, hi, e, _⟩ | ⟨h1, h2⟩
      · rw [e]; exact hinwin _ (by omega) (by omega)
      · obtain ⟨a, a1, a2, a3⟩ := h.win p id h1
        rw [a3]
        refine hinwin a ?_ (by omega)
        refine Classical.byContradiction fun hlt => ?_
        have hlt : a < J.hd - J.us + J.cleaned L.length := by omega
        apply h2
        rw [List.take_length]
        obtain ⟨i, hi⟩ : ∃ i : Nat, a = J.hd - J.us + (i : Int) := ⟨(a - (J.hd - J.us)).toNat, by omega⟩
        have ht : told J.T.os (((Jr.tail J + i) % J.P : Nat) : Int) = some id := by rw [tail_pos h.ok, ← hi, ← a3]; exact h1
        have hmem := mem_ownersN (T := J.T) (P := J.P) (first := Jr.tail J) (k := (J.cleaned L.length).toNat) (i := i) (by omega) ht
        rw [hA, List.map_append, List.mem_append]
        by_cases hL : id ∈ L.map Prod.fst
        · exact .inl hL
        · right
          rw [hmi]
          exact List.mem_filter.2 ⟨List.mem_map.2 ⟨_, hmem, rfl⟩, by simpa using hL⟩
    · intro id p hp
      have hp' : told (J.putN A A.length).ps id = some p := hp
      rw [p2] at hp'
      have hupd : updB has L id = (kget A id).or (has id) := by
        rw [hA, kget_append]
        unfold updB
        cases hk : kget L id with
        | some b => rfl
        | none =>
          cases hk2 : kget M id with
          | none => rfl
          | some b => simp [hmh id b hk2]
      cases hf : A.findIdx? (fun y => y.1 == id) with
      | some i =>
        rw [hf] at hp'
        injection hp' with hp'
        obtain ⟨i1, i2, i3⟩ := kget_idx hf
        have hmA : A.getD i (0, []) ∈ A := by rw [List.getD, List.getElem?_eq_getElem i1]; exact List.getElem_mem _
        obtain ⟨b1, b2, b3⟩ := hA4 _ hmA
        have hn3840 := h.nums.n1
        refine ⟨J.tag i A.length (A.getD i (0, [])).1, (A.getD i (0, [])).2, by rw [hupd, i3]; rfl, b1, by rw [← hp']; exact hnew i i1, by show (A.getD i (0, [])).1 = id; exact i2, ?_, Jr.tag_fit hnum _ _ _⟩
        exact Jr.tag_ok hnum i1 (by omega) b2 (by omega)
      | none =>
        rw [hf] at hp'
        simp only at hp'
        obtain ⟨t, b, t1, t2, t3, t4⟩ := hfl.dat id p hp'
        have hni := findIdx_none_mem.1 hf
        refine ⟨t, b, by rw [hupd, look_none.2 hni]; exact t1, t2, ?_, t4⟩
        rw [w8 (p + 1), cr_tells]
        · exact t3
        · intro i hi
          obtain ⟨a, a1, a2, a3⟩ := h.win p id (h.con.pq _ _ hp')
          have : (J.hd + (i : Int)) % (J.P : Int) ≠ p := by rw [a3]; exact emod_ne (by omega) (by omega)
          omega
    · intro id hp
      have hp' : told (J.putN A A.length).ps id = none := hp
      rw [p2] at hp'
      cases hf : A.findIdx? (fun y => y.1 == id) with
      | some i => rw [hf] at hp'; cases hp'
      | none =>
        rw [hf] at hp'
        have hni := findIdx_none_mem.1 hf
        rw [hA, List.map_append, List.mem_append] at hni
        unfold updB
        rw [look_none.2 (fun q => hni (.inl q)), h.non id hp']
        rfl
  · rw [hM, w4]
    show addN D.flushed.cr _ = _
    rw [(flushed_counts D).1]
  · rw [hM, w6, ← hAlen]
    show addN D.flushed.cw _ = _
    rw [(flushed_counts D).2.1]
  · rw [w5]
    exact (flushed_counts D).2.2.1
end Go.Proofs.Ytlfooilcngjeiaa

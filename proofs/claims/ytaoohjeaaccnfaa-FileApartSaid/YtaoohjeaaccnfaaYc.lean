/- file, plainly: the layout of a space, and how it changes. -/
import Derived.Test.YtaoohjeaaccnfaaYb
namespace Go.SL
set_option linter.unusedVariables false
set_option linter.unusedSimpArgs false
open Go.RowKit
structure Hd.Ok (n id : Nat) (h : Hd) : Prop where
  fit : h.fit
  id : h.id = id
  kd : h.n.kd = 1 ∨ h.n.kd = 2
  lk0 : 0 ≤ h.n.lk
  lk1 : h.n.lk ≤ 65535
  sz0 : 0 ≤ h.n.sz
  sz1 : h.n.sz ≤ 122880
  rw0 : 0 ≤ h.n.rw
  rw1 : h.n.rw < n
  pg : ∀ i, i < 256 → 0 ≤ h.page i ∧ h.page i < n
  rz : h.n.rw = 0 → ∀ i, 16 ≤ i → i < 256 → h.page i = 0
def usesRw (N : Nat → Option Hd) (b id : Nat) : Prop := ∃ h, N id = some h ∧ h.n.rw = (b : Int) ∧ b ≠ 0
def usesPg (N : Nat → Option Hd) (b id i : Nat) : Prop := ∃ h, N id = some h ∧ i < 256 ∧ h.page i = (b : Int) ∧ b ≠ 0
structure Lay (n : Nat) (own : Nat → Own) (N : Nat → Option Hd) : Prop where
  bm : ∀ b, own b = bmO ↔ b = 0
  out : ∀ b, n ≤ b → own b = frO
  ok : ∀ id h, N id = some h → 0 < id ∧ id < n ∧ h.Ok n id
  nd : ∀ b, own b = ndO ↔ (N b).isSome = true
  rw : ∀ b id, own b = rwO id ↔ usesRw N b id
  pg : ∀ b id i, own b = pgO id i ↔ usesPg N b id i
section
variable {n id k i : Nat} {own : Nat → Own} {N : Nat → Option Hd} {h h' : Hd}
theorem Lay.ownId (L : Lay n own N) (hN : N id = some h) : own id = ndO := (L.nd id).2 (by rw [hN]; rfl)
theorem Lay.ownRw (L : Lay n own N) (hN : N id = some h) (h0 : h.n.rw ≠ 0) : own h.n.rw.toNat = rwO id := by
  have := (L.ok id h hN).2.2.rw0
  exact (L.rw _ _).2 ⟨h, hN, by omega, by omega⟩
theorem Lay.ownPg (L : Lay n own N) (hN : N id = some h) (hi : i < 256) (h0 : h.page i ≠ 0) : own (h.page i).toNat = pgO id i := by
  have := ((L.ok id h hN).2.2.pg i hi).1
  exact (L.pg _ _ _).2 ⟨h, hN, hi, by omega, by omega⟩
theorem Lay.zero (L : Lay n own N) : own 0 = bmO := (L.bm 0).2 rfl
theorem Lay.free_ne (L : Lay n own N) (hk : own k = frO) : k ≠ 0 := by rintro rfl; rw [L.zero] at hk; cases hk
theorem Lay.free_none (L : Lay n own N) (hk : own k = frO) : N k = none := by
  cases hN : N k with
  | none => rfl
  | some h => have := L.ownId hN; rw [hk] at this; cases this
/-- One block has another owner. -/
theorem Lay.upd (L : Lay n own N) {x : Own} {N' : Nat → Option Hd} (hk : k ≠ 0) (hkn : k < n) (hx : x ≠ bmO) (hok : ∀ id h, N' id = some h → 0 < id ∧ id < n ∧ h.Ok n id)
    (hnd : ∀ b, b ≠ k → (N' b).isSome = (N b).isSome) (hnk : x = ndO ↔ (N' k).isSome = true)
    (hrw : ∀ b id, b ≠ k → (usesRw N' b id ↔ usesRw N b id)) (hrk : ∀ id, x = rwO id ↔ usesRw N' k id)
    (hpg : ∀ b id i, b ≠ k → (usesPg N' b id i ↔ usesPg N b id i)) (hpk : ∀ id i, x = pgO id i ↔ usesPg N' k id i) : Lay n (upO own k x) N' := by
  refine ⟨fun b => ?_, fun b hb => ?_, hok, fun b => ?_, fun b id => ?_, fun b id i => ?_⟩
  · by_cases hbk : b = k
    · subst hbk; rw [upO_same]; exact ⟨fun h => absurd h hx, fun h => absurd h hk⟩
    · rw [upO_other _ _ hbk]; exact L.bm b
  · rw [upO_other _ _ (by omega)]; exact L.out b hb
  · by_cases hbk : b = k
    · subst hbk; rw [upO_same]; exact hnk
    · rw [upO_other _ _ hbk, hnd b hbk]; exact L.nd b
  · by_cases hbk : b = k
    · subst hbk; rw [upO_same]; exact hrk id
    · rw [upO_other _ _ hbk, hrw b id hbk]; exact L.rw b id
  · by_cases hbk : b = k
    · subst hbk; rw [upO_same]; exact hpk id i
    · rw [upO_other _ _ hbk, hpg b id i hbk]; exact L.pg b id i
theorem up_some {N : Nat → Option Hd} {o : Option Hd} {id id' : Nat} {g : Hd} (h : upO N id o id' = some g) : (id' = id ∧ o = some g) ∨ (id' ≠ id ∧ N id' = some g) := by
  by_cases e : id' = id
  · subst e; rw [upO_same] at h; exact .inl ⟨rfl, h⟩
  · rw [upO_other _ _ e] at h; exact .inr ⟨e, h⟩
theorem up_isSome {N : Nat → Option Hd} {id b : Nat} (hN : N id = some h) : (upO N id (some h') b).isSome = (N b).isSome := by
  by_cases e : b = id
  · subst e; rw [upO_same, hN]; rfl
  · rw [upO_other _ _ e]
/-- Rows, but at one node. -/
theorem usesRw_up (hN : N id = some h) {b id' : Nat} (hs : b ≠ 0 → (h'.n.rw = (b : Int) ↔ h.n.rw = (b : Int))) : usesRw (upO N id (some h')) b id' ↔ usesRw N b id' := by
  by_cases e : id' = id
  · subst e
    unfold usesRw
    rw [upO_same, hN]
    constructor
    · rintro ⟨g, e, h1, h2⟩; cases e; exact ⟨h, rfl, (hs h2).1 h1, h2⟩
    · rintro ⟨g, e, h1, h2⟩; cases e; exact ⟨h', rfl, (hs h2).2 h1, h2⟩
  · unfold usesRw; rw [upO_other _ _ e]
theorem usesPg_up (hN : N id = some h) {b id' j : Nat} (hs : j < 256 → b ≠ 0 → (h'.page j = (b : Int) ↔ h.page j = (b : Int))) : usesPg (upO N id (some h')) b id' j ↔ usesPg N b id' j := by
  by_cases e : id' = id
  · subst e
    unfold usesPg
    rw [upO_same, hN]
    constructor
    · rintro ⟨g, e, hj, h1, h2⟩; cases e; exact ⟨h, rfl, hj, (hs hj h2).1 h1, h2⟩
    · rintro ⟨g, e, hj, h1, h2⟩; cases e; exact ⟨h', rfl, hj, (hs hj h2).2 h1, h2⟩
  · unfold usesPg; rw [upO_other _ _ e]
theorem Lay.okUp (L : Lay n own N) (hN : N id = some h) (ho : h'.Ok n id) : ∀ id' g, upO N id (some h') id' = some g → 0 < id' ∧ id' < n ∧ g.Ok n id' := by
  intro id' g hg
  rcases up_some hg with ⟨rfl, e⟩ | ⟨_, e⟩
  · cases e; exact ⟨(L.ok _ _ hN).1, (L.ok _ _ hN).2.1, ho⟩
  · exact L.ok _ _ e
theorem Lay.no_rw (L : Lay n own N) {x : Own} (hk : own k = x) (hx : ∀ id, x ≠ rwO id) : ∀ id, ¬ usesRw N k id := fun id h => hx id (hk.symm.trans ((L.rw k id).2 h))
theorem Lay.no_pg (L : Lay n own N) {x : Own} (hk : own k = x) (hx : ∀ id i, x ≠ pgO id i) : ∀ id i, ¬ usesPg N k id i := fun id i h => hx id i (hk.symm.trans ((L.pg k id i).2 h))
/-- A new node. -/
theorem Lay.new (L : Lay n own N) (hk : own k = frO) (hkn : k < n) (ho : h'.Ok n k) (hp : ∀ i, i < 256 → h'.page i = 0) (hr : h'.n.rw = 0) : Lay n (upO own k ndO) (upO N k (some h')) := by
  have hN := L.free_none hk
  have hk0 := L.free_ne hk
  have hR : ∀ b id, usesRw (upO N k (some h')) b id ↔ usesRw N b id := by
    intro b id
    by_cases e : id = k
    · subst e
      unfold usesRw
      rw [upO_same, hN]
      constructor
      · rintro ⟨g, e, h1, h2⟩; cases e; rw [hr] at h1; exact absurd h1 (by omega)
      · rintro ⟨g, e, _⟩; cases e
    · unfold usesRw; rw [upO_other _ _ e]
  have hP : ∀ b id i, usesPg (upO N k (some h')) b id i ↔ usesPg N b id i := by
    intro b id i
    by_cases e : id = k
    · subst e
      unfold usesPg
      rw [upO_same, hN]
      constructor
      · rintro ⟨g, e, hi, h1, h2⟩; cases e; rw [hp i hi] at h1; exact absurd h1 (by omega)
      · rintro ⟨g, e, _⟩; cases e
    · unfold usesPg; rw [upO_other _ _ e]
  refine L.upd hk0 hkn (by decide) ?_ (fun b hb => by rw [upO_other _ _ hb]) (by rw [upO_same]; simp) (fun b id _ => hR b id) (fun id => ?_) (fun b id i _ => hP b id i) (fun id i => ?_)
  · intro id g hg
    rcases up_some hg with ⟨rfl, e⟩ | ⟨_, e⟩
    · cases e; exact ⟨by omega, hkn, ho⟩
    · exact L.ok _ _ e
  · rw [hR]
    exact ⟨fun h => absurd h (by simp), fun h => absurd h (L.no_rw hk (by simp) id)⟩
  · rw [hP]
    exact ⟨fun h => absurd h (by simp), fun h => absurd h (L.no_pg hk (by simp) id i)⟩
/-- A node has one page more. -/
theorem Lay.page (L : Lay n own N) (hN : N id = some h) (hk : own k = frO) (hkn : k < n) (hi : i < 256) (h0 : h.page i = 0) (hr : 16 ≤ i → h.n.rw ≠ 0) : Lay n (upO own k (pgO id i)) (upO N id (some (h.put i (k : Int)))) := by
  have hk0 := L.free_ne hk
  have ho := (L.ok _ _ hN).2.2
  have hpp := fun j => Hd.page_put ho.fit hi (k : Int) j
  have hR : ∀ b id', usesRw (upO N id (some (h.put i (k : Int)))) b id' ↔ usesRw N b id' := fun b id' => usesRw_up hN (by rw [Hd.put_rw]; exact fun _ => Iff.rfl)
  refine L.upd hk0 hkn (by simp) (L.okUp hN ?_) (fun b _ => up_isSome hN) ?_ (fun b id _ => hR b id) (fun id' => ?_) (fun b id' j hb => usesPg_up hN fun hj => ?_) (fun id' j => ?_)
  · refine ⟨Hd.put_fit ho.fit _ _, by rw [Hd.put_id]; exact ho.id, ?_, ?_, ?_, ?_, ?_, by rw [Hd.put_rw]; exact ho.rw0, by rw [Hd.put_rw]; exact ho.rw1, fun j hj => ?_, fun h9 j hj1 hj2 => ?_⟩
    · unfold Hd.put; split <;> exact ho.kd
    · unfold Hd.put; split <;> exact ho.lk0
    · unfold Hd.put; split <;> exact ho.lk1
    · rw [Hd.put_sz]; exact ho.sz0
    · rw [Hd.put_sz]; exact ho.sz1
    · rw [hpp]; split
      · exact ⟨by omega, by omega⟩
      · exact ho.pg j hj
    · rw [Hd.put_rw] at h9
      rw [hpp, if_neg (by rintro rfl; exact hr hj1 h9)]
      exact ho.rz h9 j hj1 hj2
  · have : (N k) = none := L.free_none hk
    rw [up_isSome hN, this]; simp
  · rw [hR]; exact ⟨fun h => absurd h (by simp), fun h => absurd h (L.no_rw hk (by simp) id')⟩
  · rw [hpp]
    intro hb0
    split
    · rename_i e; subst e; rw [h0]
      exact ⟨fun h => absurd (by omega) hb, fun h => absurd h.symm (by omega)⟩
    · exact Iff.rfl
  · by_cases e : id' = id
    · subst e
      by_cases ej : j = i
      · subst ej
        exact ⟨fun _ => ⟨_, upO_same _ _ _, hi, by rw [hpp, if_pos rfl], hk0⟩, fun _ => rfl⟩
      · refine ⟨fun h => absurd h (by simp; omega), fun h9 => ?_⟩
        obtain ⟨g, e, hj, h1, h2⟩ := h9
        rw [upO_same] at e; cases e
        rw [hpp, if_neg ej] at h1
        exact absurd ⟨h, hN, hj, h1, h2⟩ (L.no_pg hk (by simp) _ _)
    · refine ⟨fun h => absurd h (by simp; omega), fun h9 => ?_⟩
      obtain ⟨g, e2, h9⟩ := h9
      rw [upO_other _ _ e] at e2
      exact absurd ⟨g, e2, h9⟩ (L.no_pg hk (by simp) _ _)
/-- A node has a row. -/
theorem Lay.row (L : Lay n own N) (hN : N id = some h) (hk : own k = frO) (hkn : k < n) (h0 : h.n.rw = 0) : Lay n (upO own k (rwO id)) (upO N id (some (h.setRw (k : Int)))) := by
  have hk0 := L.free_ne hk
  have ho := (L.ok _ _ hN).2.2
  have hP : ∀ b id' j, usesPg (upO N id (some (h.setRw (k : Int)))) b id' j ↔ usesPg N b id' j := fun b id' j => usesPg_up hN fun _ _ => Iff.rfl
  refine L.upd hk0 hkn (by simp) (L.okUp hN ?_) (fun b _ => up_isSome hN) ?_ (fun b id' hb => usesRw_up hN fun hb0 => ?_) (fun id' => ?_) (fun b id i _ => hP b id i) (fun id' j => ?_)
  · exact ⟨ho.fit, ho.id, ho.kd, ho.lk0, ho.lk1, ho.sz0, ho.sz1, show 0 ≤ (k : Int) by omega, show (k : Int) < n by omega, ho.pg, fun h9 => absurd (show (k : Int) = 0 from h9) (by omega)⟩
  · rw [up_isSome hN, L.free_none hk]; simp
  · rw [h0]; show (k : Int) = b ↔ _; constructor <;> intro h9 <;> omega
  · by_cases e : id' = id
    · subst e
      exact ⟨fun _ => ⟨_, upO_same _ _ _, rfl, hk0⟩, fun _ => rfl⟩
    · refine ⟨fun h => absurd h (by simp; omega), fun h9 => ?_⟩
      obtain ⟨g, e2, h9⟩ := h9
      rw [upO_other _ _ e] at e2
      exact absurd ⟨g, e2, h9⟩ (L.no_rw hk (by simp) _)
  · rw [hP]; exact ⟨fun h => absurd h (by simp), fun h => absurd h (L.no_pg hk (by simp) id' j)⟩
/-- A page is given up. -/
theorem Lay.unpage (L : Lay n own N) (hN : N id = some h) (hi : i < 256) (h0 : h.page i ≠ 0) : Lay n (upO own (h.page i).toNat frO) (upO N id (some (h.put i 0))) := by
  have ho := (L.ok _ _ hN).2.2
  have hp := ho.pg i hi
  obtain ⟨k, hk⟩ : ∃ k : Nat, h.page i = (k : Int) := ⟨(h.page i).toNat, by omega⟩
  have hown := L.ownPg hN hi h0
  rw [hk, Int.toNat_natCast] at hown ⊢
  have hk0 : k ≠ 0 := by omega
  have hpp := fun j => Hd.page_put ho.fit hi 0 j
  have hR : ∀ b id', usesRw (upO N id (some (h.put i 0))) b id' ↔ usesRw N b id' := fun b id' => usesRw_up hN (by rw [Hd.put_rw]; exact fun _ => Iff.rfl)
  refine L.upd hk0 (by omega) (by decide) (L.okUp hN ?_) (fun b _ => up_isSome hN) ?_ (fun b id _ => hR b id) (fun id' => ?_) (fun b id' j hb => ?_) (fun id' j => ?_)
  · refine ⟨Hd.put_fit ho.fit _ _, by rw [Hd.put_id]; exact ho.id, ?_, ?_, ?_, ?_, ?_, by rw [Hd.put_rw]; exact ho.rw0, by rw [Hd.put_rw]; exact ho.rw1, fun j hj => ?_, fun h9 j hj1 hj2 => ?_⟩
    · unfold Hd.put; split <;> exact ho.kd
    · unfold Hd.put; split <;> exact ho.lk0
    · unfold Hd.put; split <;> exact ho.lk1
    · rw [Hd.put_sz]; exact ho.sz0
    · rw [Hd.put_sz]; exact ho.sz1
    · rw [hpp]; split
      · exact ⟨by omega, by omega⟩
      · exact ho.pg j hj
    · rw [Hd.put_rw] at h9
      rw [hpp]; split
      · rfl
      · exact ho.rz h9 j hj1 hj2
  · rw [up_isSome hN]
    refine ⟨fun h => absurd h (by simp), fun h9 => ?_⟩
    have := (L.nd k).2 h9
    rw [hown] at this; cases this
  · rw [hR]; exact ⟨fun h => absurd h (by simp), fun h => absurd h (L.no_rw hown (by simp) id')⟩
  · by_cases e : id' = id
    · subst e
      refine usesPg_up hN fun hj hb0 => ?_
      rw [hpp]
      split
      · rename_i e; subst e; rw [hk]
        constructor <;> intro h9 <;> omega
      · exact Iff.rfl
    · unfold usesPg; rw [upO_other _ _ e]
  · refine ⟨fun h => absurd h (by simp), fun h9 => ?_⟩
    obtain ⟨g, e, hj, h1, h2⟩ := h9
    rcases up_some e with ⟨rfl, e2⟩ | ⟨e1, e⟩
    · cases e2
      rw [hpp] at h1
      split at h1
      · omega
      · have := (L.pg k id' j).2 ⟨h, hN, hj, h1, h2⟩
        rw [hown] at this
        simp at this
        omega
    · have := (L.pg k id' j).2 ⟨g, e, hj, h1, h2⟩
      rw [hown] at this
      simp at this
      omega
/-- A row is given up. -/
theorem Lay.unrow (L : Lay n own N) (hN : N id = some h) (h0 : h.n.rw ≠ 0) (hz : ∀ i, 16 ≤ i → i < 256 → h.page i = 0) : Lay n (upO own h.n.rw.toNat frO) (upO N id (some (h.setRw 0))) := by
  have ho := (L.ok _ _ hN).2.2
  have hr0 := ho.rw0
  have hr1 := ho.rw1
  obtain ⟨k, hk⟩ : ∃ k : Nat, h.n.rw = (k : Int) := ⟨h.n.rw.toNat, by omega⟩
  have hown := L.ownRw hN h0
  rw [hk, Int.toNat_natCast] at hown ⊢
  have hk0 : k ≠ 0 := by omega
  have hP : ∀ b id' j, usesPg (upO N id (some (h.setRw 0))) b id' j ↔ usesPg N b id' j := fun b id' j => usesPg_up hN fun _ _ => Iff.rfl
  refine L.upd hk0 (by omega) (by decide) (L.okUp hN ?_) (fun b _ => up_isSome hN) ?_ (fun b id' hb => ?_) (fun id' => ?_) (fun b id i _ => hP b id i) (fun id' j => ?_)
  · exact ⟨ho.fit, ho.id, ho.kd, ho.lk0, ho.lk1, ho.sz0, ho.sz1, Int.le_refl _, show (0 : Int) < n by omega, ho.pg, fun _ => hz⟩
  · rw [up_isSome hN]
    refine ⟨fun h => absurd h (by simp), fun h9 => ?_⟩
    have := (L.nd k).2 h9
    rw [hown] at this; cases this
  · by_cases e : id' = id
    · subst e
      refine usesRw_up hN fun hb0 => ?_
      rw [hk]; show (0 : Int) = b ↔ _; constructor <;> intro h9 <;> omega
    · unfold usesRw; rw [upO_other _ _ e]
  · refine ⟨fun h => absurd h (by simp), fun h9 => ?_⟩
    obtain ⟨g, e, h1, h2⟩ := h9
    rcases up_some e with ⟨rfl, e2⟩ | ⟨e1, e⟩
    · cases e2
      exact absurd (show (0 : Int) = k from h1) (by omega)
    · have := (L.rw k id').2 ⟨g, e, h1, h2⟩
      rw [hown] at this
      simp at this
      omega
  · rw [hP]; exact ⟨fun h => absurd h (by simp), fun h => absurd h (L.no_pg hown (by simp) id' j)⟩
/-- A node that has nothing is given up. -/
theorem Lay.gone (L : Lay n own N) (hN : N id = some h) (h0 : h.n.rw = 0) (hz : ∀ i, i < 256 → h.page i = 0) : Lay n (upO own id frO) (upO N id none) := by
  have ho := (L.ok _ _ hN)
  have hown := L.ownId hN
  have hR : ∀ b id', usesRw (upO N id none) b id' ↔ usesRw N b id' := by
    intro b id'
    by_cases e : id' = id
    · subst e
      unfold usesRw
      rw [upO_same, hN]
      constructor
      · rintro ⟨g, e, _⟩; cases e
      · rintro ⟨g, e, h1, h2⟩; cases e; rw [h0] at h1; exact absurd h1 (by omega)
    · unfold usesRw; rw [upO_other _ _ e]
  have hP : ∀ b id' j, usesPg (upO N id none) b id' j ↔ usesPg N b id' j := by
    intro b id' j
    by_cases e : id' = id
    · subst e
      unfold usesPg
      rw [upO_same, hN]
      constructor
      · rintro ⟨g, e, _⟩; cases e
      · rintro ⟨g, e, hj, h1, h2⟩; cases e; rw [hz j hj] at h1; exact absurd h1 (by omega)
    · unfold usesPg; rw [upO_other _ _ e]
  refine L.upd (by omega) ho.2.1 (by decide) ?_ (fun b hb => by rw [upO_other _ _ hb]) (by rw [upO_same]; simp) (fun b id _ => hR b id) (fun id' => ?_) (fun b id' j _ => hP b id' j) (fun id' j => ?_)
  · intro id' g hg
    rcases up_some hg with ⟨rfl, e⟩ | ⟨_, e⟩
    · cases e
    · exact L.ok _ _ e
  · rw [hR]; exact ⟨fun h => absurd h (by simp), fun h => absurd h (L.no_rw hown (by simp) id')⟩
  · rw [hP]; exact ⟨fun h => absurd h (by simp), fun h => absurd h (L.no_pg hown (by simp) id' j)⟩
/-- A node's own fields change. -/
theorem Lay.set (L : Lay n own N) (hN : N id = some h) (ho : h'.Ok n id) (hr : h'.n.rw = h.n.rw) (hp : ∀ i, i < 256 → h'.page i = h.page i) : Lay n own (upO N id (some h')) := by
  refine ⟨L.bm, L.out, L.okUp hN ho, fun b => ?_, fun b id' => ?_, fun b id' j => ?_⟩
  · rw [up_isSome hN]; exact L.nd b
  · rw [usesRw_up hN fun _ => by rw [hr]]; exact L.rw b id'
  · rw [usesPg_up hN fun hj _ => by rw [hp j hj]]; exact L.pg b id' j
end
end Go.SL

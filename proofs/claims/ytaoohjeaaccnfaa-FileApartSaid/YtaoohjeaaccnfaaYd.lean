/- file, plainly: what lies in the blocks; load and save. -/
import Derived.Test.YtaoohjeaaccnfaaYc
namespace Go.SL
set_option linter.unusedVariables false
set_option linter.unusedSimpArgs false
open Go.RowKit
/-- A byte of a file. -/
def byt (V : Nat → List UInt8) (h : Hd) (p : Nat) : UInt8 := if h.page (p / 480) = 0 then 0 else (V (h.page (p / 480)).toNat).getD (p % 480) 0
structure Saved (V : Nat → List UInt8) (h : Hd) : Prop where
  dec : decP (V h.id) = (h.n, 0)
  row : h.n.rw ≠ 0 → rowP (V h.n.rw.toNat) = (h.row, 0)
structure Hd.Fin (h : Hd) : Prop where
  hi : ∀ i : Nat, i < 256 → blocksOf h.n.sz ≤ i → h.page i = 0
  rwp : h.n.rw ≠ 0 → ∃ i, 16 ≤ i ∧ i < 256 ∧ h.page i ≠ 0
def Tail (V : Nat → List UInt8) (h : Hd) : Prop := ∀ p : Nat, p < 122880 → h.n.sz ≤ p → byt V h p = 0
/-- A space, of which all but a node (0: all) is at rest. -/
structure SpX (n : Nat) (a : Aw) (own : Nat → Own) (N : Nat → Option Hd) (id : Nat) : Prop where
  lay : Lay n own N
  bm : Bm n own a.B
  len : ∀ b, 0 < b → b < n → (a.V b).length = 480
  rest : ∀ id' h, id' ≠ id → N id' = some h → h.Fin ∧ Saved a.V h ∧ Tail a.V h
section
variable {n id k i : Nat} {own : Nat → Own} {N : Nat → Option Hd} {h h' : Hd} {a : Aw} {V V' : Nat → List UInt8}
theorem Lay.no0 (L : Lay n own N) : N 0 = none := by
  cases hN : N 0 with
  | none => rfl
  | some h => exact absurd (L.ok 0 h hN).1 (by omega)
theorem upV_same (V : Nat → List UInt8) (k : Nat) (l : List UInt8) : upV V k l k = l := if_pos rfl
theorem upV_other (V : Nat → List UInt8) {k b : Nat} (l : List UInt8) (h : b ≠ k) : upV V k l b = V b := if_neg h
theorem Saved.frame (L : Lay n own N) (hN : N id = some h) (hs : Saved V h) (hV : ∀ b, b = id ∨ own b = rwO id → V' b = V b) : Saved V' h := by
  have ho := (L.ok _ _ hN).2.2
  refine ⟨?_, fun h0 => ?_⟩
  · rw [hV _ (.inl ho.id)]; exact hs.dec
  · rw [hV _ (.inr (L.ownRw hN h0))]; exact hs.row h0
theorem byt_frame (L : Lay n own N) (hN : N id = some h) (hV : ∀ b i, own b = pgO id i → V' b = V b) {p : Nat} (hp : p < 122880) : byt V' h p = byt V h p := by
  unfold byt
  split
  · rfl
  · rename_i h0
    rw [hV _ _ (L.ownPg hN (by omega) h0)]
theorem Tail.frame (L : Lay n own N) (hN : N id = some h) (ht : Tail V h) (hV : ∀ b i, own b = pgO id i → V' b = V b) : Tail V' h := fun p h1 h2 => by
  rw [byt_frame L hN hV h1]; exact ht p h1 h2
/-- What belongs to a node, or to nobody. -/
def mine (own : Nat → Own) (id k : Nat) : Prop := own k = frO ∨ (own k = ndO ∧ k = id) ∨ own k = rwO id ∨ ∃ i, own k = pgO id i
theorem mine_not {id' : Nat} (L : Lay n own N) (hN : N id' = some h) (hne : id' ≠ id) (hm : mine own id k) : k ≠ id' ∧ own k ≠ rwO id' ∧ ∀ i, own k ≠ pgO id' i := by
  have := L.ownId hN
  refine ⟨?_, ?_, ?_⟩
  · rintro rfl
    rcases hm with h1 | ⟨_, h1⟩ | h1 | ⟨i, h1⟩
    · rw [this] at h1; cases h1
    · exact hne h1
    · rw [this] at h1; cases h1
    · rw [this] at h1; cases h1
  · intro h2
    rcases hm with h1 | ⟨h1, _⟩ | h1 | ⟨i, h1⟩
    · rw [h2] at h1; cases h1
    · rw [h2] at h1; cases h1
    · rw [h2] at h1; simp at h1; exact hne h1
    · rw [h2] at h1; cases h1
  · intro j h2
    rcases hm with h1 | ⟨h1, _⟩ | h1 | ⟨i, h1⟩
    · rw [h2] at h1; cases h1
    · rw [h2] at h1; cases h1
    · rw [h2] at h1; cases h1
    · rw [h2] at h1; simp at h1; exact hne h1.1
theorem SpX.restF (S : SpX n a own N id) {id' : Nat} (hne : id' ≠ id) (hN : N id' = some h) (hV : ∀ b, ¬ mine own id b → V' b = a.V b) : h.Fin ∧ Saved V' h ∧ Tail V' h := by
  obtain ⟨h1, h2, h3⟩ := S.rest id' h hne hN
  refine ⟨h1, h2.frame S.lay hN fun b hb => hV b fun hm => ?_, h3.frame S.lay hN fun b i hb => hV b fun hm => ?_⟩
  · have := mine_not S.lay hN hne hm
    rcases hb with rfl | hb
    · exact this.1 rfl
    · exact this.2.1 hb
  · exact (mine_not S.lay hN hne hm).2.2 i hb
theorem byt_other (L : Lay n own N) {id' : Nat} (hne : id' ≠ id) (hN : N id' = some h) (hV : ∀ b, ¬ mine own id b → V' b = V b) {p : Nat} (hp : p < 122880) : byt V' h p = byt V h p :=
  byt_frame L hN (fun b i hb => hV b fun hm => (mine_not L hN hne hm).2.2 i hb) hp
theorem SpX.weak (S : SpX n a own N 0) (id : Nat) : SpX n a own N id := ⟨S.lay, S.bm, S.len, fun id' h hne hN => S.rest id' h (by rintro rfl; rw [S.lay.no0] at hN; cases hN) hN⟩
/-- A node's block is written. -/
theorem SpX.write (S : SpX n a own N id) (hk : mine own id k) {l : List UInt8} (hl : l.length = 480) : SpX n { a with V := upV a.V k l } own N id := by
  refine ⟨S.lay, S.bm, fun b h0 hb => ?_, fun id' h hne hN => S.restF hne hN fun b hm => upV_other _ _ (by rintro rfl; exact hm hk)⟩
  by_cases e : b = k
  · subst e; show (upV a.V b l b).length = 480; rw [upV_same]; exact hl
  · show (upV a.V k l b).length = 480; rw [upV_other _ _ e]; exact S.len b h0 hb
/-- The layout changes at a node. -/
theorem SpX.step (S : SpX n a own N id) {own' : Nat → Own} {N' : Nat → Option Hd} {B' : List UInt8} (L' : Lay n own' N') (hb : Bm n own' B') (hN : ∀ id', id' ≠ id → N' id' = N id') : SpX n { a with B := B' } own' N' id :=
  ⟨L', hb, S.len, fun id' h hne hN' => S.rest id' h hne ((hN id' hne).symm.trans hN')⟩
theorem SpX.shut (S : SpX n a own N id) (h1 : ∀ h, N id = some h → h.Fin ∧ Saved a.V h ∧ Tail a.V h) : SpX n a own N 0 :=
  ⟨S.lay, S.bm, S.len, fun id' h _ hN => by
    by_cases e : id' = id
    · subst e; exact h1 h hN
    · exact S.rest id' h e hN⟩
/-- It may be written down. -/
theorem Hd.Ok.ok (ho : h.Ok n id) (hn : n ≤ 3840) (hf : h.Fin) : h.n.ok = true := by
  have hpg : ∀ i, i < 16 → h.page i = h.n.dr.getD i 0 := fun i hi => by unfold Hd.page; rw [if_pos hi]
  unfold Nd.ok
  have e1 : h.n.dr.all ptrOk = true := by
    rw [List.all_eq_true]
    intro p hp
    obtain ⟨i, hi, rfl⟩ := List.getElem_of_mem hp
    have hi16 : i < 16 := by have := ho.fit.1; omega
    have h1 := ho.pg i (by omega)
    have h2 := hpg i hi16
    rw [List.getD, List.getElem?_eq_getElem hi] at h2
    simp only [Option.getD_some] at h2
    unfold ptrOk
    simp only [Bool.and_eq_true, decide_eq_true_eq]
    omega
  have e2 : ptrOk h.n.rw = true := by
    have := ho.rw0; have := ho.rw1
    unfold ptrOk; simp only [Bool.and_eq_true, decide_eq_true_eq]; omega
  have e3 : (16 < blocksOf h.n.sz) ∨ h.n.rw = 0 := by
    by_cases h0 : h.n.rw = 0
    · exact .inr h0
    · obtain ⟨i, i1, i2, i3⟩ := hf.rwp h0
      left
      by_cases h9 : blocksOf h.n.sz ≤ i
      · exact absurd (hf.hi i i2 h9) i3
      · omega
  have e4 : ((List.range 16).all fun i => decide ((i : Int) < blocksOf h.n.sz) || decide (h.n.dr.getD i 0 = 0)) = true := by
    rw [List.all_eq_true]
    intro i hi
    have hi := List.mem_range.1 hi
    simp only [Bool.or_eq_true, decide_eq_true_eq]
    by_cases h9 : blocksOf h.n.sz ≤ i
    · right; rw [← hpg i hi]; exact hf.hi i (by omega) h9
    · left; omega
  rw [e1, e2, e4]
  have := ho.kd; have := ho.lk0; have := ho.lk1; have := ho.sz0; have := ho.sz1
  simp only [Bool.and_eq_true, Bool.or_eq_true, decide_eq_true_eq]
  exact ⟨⟨⟨⟨⟨⟨⟨⟨ho.kd, ho.lk0⟩, ho.lk1⟩, ho.sz0⟩, ho.sz1⟩, trivial⟩, trivial⟩, e3⟩, trivial⟩
theorem Hd.Ok.row (ho : h.Ok n id) (hn : n ≤ 3840) : h.row.all ptrOk = true ∧ h.row.all (fun x => decide (x < n)) = true := by
  have key : ∀ x ∈ h.row, 0 ≤ x ∧ x < n := by
    intro x hx
    obtain ⟨i, hi, rfl⟩ := List.getElem_of_mem hx
    have h240 := ho.fit.2
    have h1 := ho.pg (16 + i) (by omega)
    have h2 : h.page (16 + i) = h.row[i] := by
      unfold Hd.page; rw [if_neg (by omega), show 16 + i - 16 = i by omega, List.getD, List.getElem?_eq_getElem hi]; rfl
    omega
  constructor
  · rw [List.all_eq_true]; intro x hx; have := key x hx; unfold ptrOk; simp only [Bool.and_eq_true, decide_eq_true_eq]; omega
  · rw [List.all_eq_true]; intro x hx; have := key x hx; simp only [decide_eq_true_eq]; omega
theorem Hd.Ok.dr (ho : h.Ok n id) : h.n.dr.all (fun x => decide (x < n)) = true := by
  rw [List.all_eq_true]; intro x hx
  obtain ⟨i, hi, rfl⟩ := List.getElem_of_mem hx
  have h16 := ho.fit.1
  have h1 := ho.pg i (by omega)
  have h2 : h.page i = h.n.dr[i] := by
    unfold Hd.page; rw [if_pos (by omega), List.getD, List.getElem?_eq_getElem hi]; rfl
  simp only [decide_eq_true_eq]; omega
theorem Hd.Ok.row0 (ho : h.Ok n id) (h0 : h.n.rw = 0) : h.row = List.replicate 240 0 := by
  rw [List.eq_replicate_iff]
  refine ⟨ho.fit.2, fun x hx => ?_⟩
  obtain ⟨i, hi, rfl⟩ := List.getElem_of_mem hx
  have h240 := ho.fit.2
  have h1 := ho.rz h0 (16 + i) (by omega) (by omega)
  unfold Hd.page at h1
  rw [if_neg (by omega), show 16 + i - 16 = i by omega, List.getD, List.getElem?_eq_getElem hi] at h1
  exact h1
end
section
variable {σ : Type} {n id : Nat} {own : Nat → Own} {N : Nat → Option Hd} {h : Hd} {a : Aw} {V0 : Nat → List UInt8} {I : σ → Prop} {ask : Asks σ} {E : Int → Prop}
theorem Does.load_no {z : Int} (hz : ¬ (1 ≤ z ∧ z < n)) (hE : E 1) {P : Hd → Aw → Prop} : Does n V0 I (wload ask n z) a P E :=
  (Does.bad hE).congr fun st => if_neg hz
theorem Does.within {l : List Int} (hl : l.all (fun x => decide (x < n)) = true) : Does n V0 I (wwithin n l) a (fun _ a' => a' = a) E :=
  Does.congr (m' := WM.pure ()) (Does.pure rfl) fun st => by unfold wwithin WM.pure; rw [if_pos hl]
theorem Does.load (hr : Rdr ask n V0 I) (hn : n ≤ 3840) (S : SpX n a own N 0) (hN : N id = some h) : Does n V0 I (wload ask n (id : Int)) a (fun x a' => x = h ∧ a' = a) E := by
  obtain ⟨i0, i1, ho⟩ := S.lay.ok _ _ hN
  obtain ⟨hf, hs, ht⟩ := S.rest id h (by omega) hN
  have hL2 : ∀ a, Does n V0 I (wload2 n id h.n h.row) a (fun x a' => x = h ∧ a' = a) E := by
    intro a
    refine (Does.within ho.dr).bind fun _ a' e => ?_
    subst e
    refine (Does.within (ho.row hn).2).bind fun _ a' e => ?_
    subst e
    exact Does.pure ⟨by rw [← ho.id], rfl⟩
  refine Does.congr (m' := wread ask (id : Int) ⇝ fun L => wdec (decP L) (wload1 ask n id)) ?_ fun st => if_pos ⟨by omega, by omega⟩
  refine (Does.read hr i0 i1).bind fun L a' e => ?_
  obtain ⟨rfl, -, rfl⟩ := e
  have hd := hs.dec
  rw [ho.id] at hd
  rw [hd]
  refine Does.congr (m' := wload1 ask n id h.n) ?_ fun st => if_pos rfl
  by_cases h0 : h.n.rw = 0
  · refine Does.congr (m' := wload2 n id h.n h.row) (hL2 _) fun st => ?_
    rw [ho.row0 h0]
    exact if_pos h0
  · have r0 := ho.rw0
    have r1 := ho.rw1
    obtain ⟨k, hk⟩ : ∃ k : Nat, h.n.rw = (k : Int) := ⟨h.n.rw.toNat, by omega⟩
    have hrow := hs.row h0
    refine Does.congr (m' := wwithin n [h.n.rw] ⇝ fun _ => wread ask h.n.rw ⇝ fun L => wdecR (rowP L) (wload2 n id h.n)) ?_ fun st => if_neg h0
    refine (Does.within (by simp; omega)).bind fun _ a' e => ?_
    subst e
    rw [hk] at hrow ⊢
    refine (Does.read hr (by omega) (by omega)).bind fun L a' e => ?_
    obtain ⟨rfl, -, rfl⟩ := e
    rw [Int.toNat_natCast] at hrow
    rw [hrow]
    exact (hL2 _).congr fun st => if_pos rfl
/-- What save leaves. -/
def savV (V : Nat → List UInt8) (h : Hd) : Nat → List UInt8 := if h.n.rw = 0 then upV V h.id (encNd h.n) else upV (upV V h.id (encNd h.n)) h.n.rw.toNat (leP h.row)
theorem Does.save (hid : 0 < h.id) (hr0 : 0 ≤ h.n.rw) (hok : h.n.ok = true) (hrow : h.row.all ptrOk = true) (h240 : h.row.length = 240) : Does n V0 I (wsave h) a (fun _ a' => a' = { a with V := savV a.V h }) E := by
  refine Does.congr (m' := wwrite (h.id : Int) (encNd h.n) ⇝ fun _ => wsaveR h) ?_ fun st => if_pos hok
  refine (Does.write hid (encNd_length _)).bind fun _ a' e => ?_
  subst e
  by_cases h0 : h.n.rw = 0
  · refine Does.congr (m' := WM.pure ()) (Does.pure ?_) fun st => if_pos h0
    unfold savV; rw [if_pos h0]
  · obtain ⟨k, hk⟩ : ∃ k : Nat, h.n.rw = (k : Int) := ⟨h.n.rw.toNat, by omega⟩
    refine Does.congr (m' := wwrite h.n.rw (leP h.row)) ?_ fun st => (if_neg h0).trans (if_pos hrow)
    unfold savV; rw [if_neg h0]
    rw [hk, Int.toNat_natCast]
    exact Does.write (by omega) (by rw [leP_length, h240])
theorem savV_other {V : Nat → List UInt8} {b : Nat} (h1 : b ≠ h.id) (h2 : h.n.rw ≠ 0 → b ≠ h.n.rw.toNat) : savV V h b = V b := by
  unfold savV
  split
  · exact upV_other _ _ h1
  · rename_i h0; rw [upV_other _ _ (h2 h0), upV_other _ _ h1]
/-- A space whose last node is saved. -/
theorem SpX.saved (S : SpX n a own N id) (hn : n ≤ 3840) (hN : N id = some h) (hf : h.Fin) (ht : Tail a.V h) : SpX n { a with V := savV a.V h } own N 0 ∧ ∀ p, p < 122880 → byt (savV a.V h) h p = byt a.V h p := by
  obtain ⟨i0, i1, ho⟩ := S.lay.ok _ _ hN
  have hid := ho.id
  have hm : ∀ b, ¬ mine own id b → savV a.V h b = a.V b := by
    intro b hb
    refine savV_other ?_ fun h0 => ?_
    · rintro rfl; exact hb (.inr (.inl ⟨by rw [hid]; exact S.lay.ownId hN, hid⟩))
    · rintro rfl; exact hb (.inr (.inr (.inl (S.lay.ownRw hN h0))))
  have hp : ∀ b i, own b = pgO id i → savV a.V h b = a.V b := by
    intro b i hb
    refine savV_other ?_ fun h0 => ?_
    · rintro rfl; rw [hid, S.lay.ownId hN] at hb; cases hb
    · rintro rfl; rw [S.lay.ownRw hN h0] at hb; cases hb
  refine ⟨⟨S.lay, S.bm, fun b h0 hb => ?_, fun id' g _ hg => ?_⟩, fun p hp' => byt_frame S.lay hN hp hp'⟩
  · show (savV a.V h b).length = 480
    unfold savV
    have e1 : (upV a.V h.id (encNd h.n) b).length = 480 := by
      by_cases e : b = h.id
      · subst e; rw [upV_same]; exact encNd_length _
      · rw [upV_other _ _ e]; exact S.len b h0 hb
    split
    · exact e1
    · by_cases e : b = h.n.rw.toNat
      · subst e; rw [upV_same, leP_length, ho.fit.2]
      · rw [upV_other _ _ e]; exact e1
  · by_cases e : id' = id
    · subst e
      rw [hN] at hg; cases hg
      refine ⟨hf, ⟨?_, fun h0 => ?_⟩, ht.frame S.lay hN hp⟩
      · show decP (savV a.V h h.id) = _
        have e : savV a.V h h.id = encNd h.n := by
          unfold savV
          split
          · exact upV_same _ _ _
          · rename_i h0
            rw [upV_other _ _ ?_, upV_same]
            intro h9
            have := S.lay.ownRw hN h0
            rw [← h9, hid, S.lay.ownId hN] at this
            cases this
        rw [e]; exact decP_enc ho.fit.1 (ho.ok hn hf)
      · show rowP (savV a.V h h.n.rw.toNat) = _
        unfold savV; rw [if_neg h0, upV_same]
        exact rowP_enc ho.fit.2 (ho.row hn).1
    · exact S.restF e hg hm
end
end Go.SL

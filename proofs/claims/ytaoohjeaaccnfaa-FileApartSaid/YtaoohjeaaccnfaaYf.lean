/- file, plainly: a node that is worked on; New, Links, Format, WriteAt. -/
import Derived.Test.YtaoohjeaaccnfaaYe
namespace Go.SL
set_option linter.unusedVariables false
set_option linter.unusedSimpArgs false
open Go.RowKit
/-- Node id is worked on, from a space on that was at rest. -/
structure NodeSt (n : Nat) (a0 : Aw) (N0 : Nat → Option Hd) (id : Nat) (K : Nat) (a : Aw) (own : Nat → Own) (N : Nat → Option Hd) (h : Hd) : Prop where
  sp : SpX n a own N id
  hN : N id = some h
  oth : ∀ id', id' ≠ id → N id' = N0 id'
  byts : ∀ id' g, id' ≠ id → N0 id' = some g → ∀ p, p < 122880 → byt a.V g p = byt a0.V g p
  cons : frN own n + h.nds = K
section
variable {n id k i K : Nat} {own : Nat → Own} {N N0 : Nat → Option Hd} {h h' : Hd} {a a0 : Aw} {V V' : Nat → List UInt8}
theorem NodeSt.start (S : SpX n a own N 0) (hN : N id = some h) : NodeSt n a N id (frN own n + h.nds) a own N h :=
  ⟨S.weak id, hN, fun _ _ => rfl, fun _ _ _ _ _ _ => rfl, rfl⟩
theorem NodeSt.ok (T : NodeSt n a0 N0 id K a own N h) : h.Ok n id := (T.sp.lay.ok _ _ T.hN).2.2
/-- A block of its own is written. -/
theorem NodeSt.write (T : NodeSt n a0 N0 id K a own N h) (hk : mine own id k) {l : List UInt8} (hl : l.length = 480) : NodeSt n a0 N0 id K { a with V := upV a.V k l } own N h :=
  ⟨T.sp.write hk hl, T.hN, T.oth, fun id' g hne hg p hp => by
    have hg' : N id' = some g := (T.oth id' hne).trans hg
    rw [← T.byts id' g hne hg p hp]
    exact byt_other T.sp.lay hne hg' (fun b hm => upV_other _ _ (by rintro rfl; exact hm hk)) hp, T.cons⟩
theorem up_other {N : Nat → Option Hd} {o : Option Hd} {id id' : Nat} (h : id' ≠ id) : upO N id o id' = N id' := upO_other _ _ h
theorem NodeSt.step (T : NodeSt n a0 N0 id K a own N h) {own' : Nat → Own} {B' : List UInt8} (L' : Lay n own' (upO N id (some h'))) (hb : Bm n own' B') (hc : frN own' n + h'.nds = K) : NodeSt n a0 N0 id K { a with B := B' } own' (upO N id (some h')) h' :=
  ⟨T.sp.step L' hb fun id' hne => upO_other _ _ hne, upO_same _ _ _, fun id' hne => (upO_other _ _ hne).trans (T.oth id' hne), T.byts, hc⟩
theorem nds_put0 (hf : h.fit) (hi : i < 256) {b : Int} (h0 : h.page i = 0) (hb : b ≠ 0) : (h.put i b).nds = h.nds + 1 := by
  unfold Hd.nds
  rw [Hd.put_rw]
  have := cntP_upd (p := prOf (h.put i b)) (q := prOf h) hi fun j hj => by rw [prOf_put hf hi, if_neg hj]
  rw [prOf_put hf hi, if_pos rfl, (prOf_false hi).2 h0] at this
  simp only [hb, ne_eq, not_false_eq_true, decide_true, if_true, Bool.false_eq_true, if_false] at this
  omega
theorem nds_put1 (hf : h.fit) (hi : i < 256) (h0 : h.page i ≠ 0) : (h.put i 0).nds + 1 = h.nds := by
  unfold Hd.nds
  rw [Hd.put_rw]
  have := cntP_upd (p := prOf (h.put i 0)) (q := prOf h) hi fun j hj => by rw [prOf_put hf hi, if_neg hj]
  rw [prOf_put hf hi, if_pos rfl, prOf_iff.2 ⟨hi, h0⟩] at this
  simp only [ne_eq, not_true_eq_false, decide_false, if_true, Bool.false_eq_true, if_false] at this
  omega
theorem nds_row0 (h0 : h.n.rw = 0) {b : Int} (hb : b ≠ 0) : (h.setRw b).nds = h.nds + 1 := by
  unfold Hd.nds
  have e : prOf (h.setRw b) = prOf h := rfl
  rw [e, if_pos h0, if_neg (show (h.setRw b).n.rw ≠ 0 from hb)]
theorem nds_row1 (h0 : h.n.rw ≠ 0) : (h.setRw 0).nds + 1 = h.nds := by
  unfold Hd.nds
  have e : prOf (h.setRw 0) = prOf h := rfl
  rw [e, if_neg h0, if_pos (show (h.setRw 0).n.rw = 0 from rfl)]
theorem NodeSt.takePage (T : NodeSt n a0 N0 id K a own N h) (hn : n ≤ 3840) (hk : own k = frO) (hkn : k < n) (hi : i < 256) (h0 : h.page i = 0) (hr : 16 ≤ i → h.n.rw ≠ 0) :
    NodeSt n a0 N0 id K { a with B := setTo a.B k true } (upO own k (pgO id i)) (upO N id (some (h.put i (k : Int)))) (h.put i (k : Int)) := by
  have hk0 := T.sp.lay.free_ne hk
  refine T.step (T.sp.lay.page T.hN hk hkn hi h0 hr) (T.sp.bm.set hn hkn _ _ (by simp)) ?_
  have := frN_upd (own := own) (x := pgO id i) hkn
  rw [if_pos hk, if_neg (by simp)] at this
  rw [nds_put0 T.ok.fit hi h0 (by omega)]
  have := T.cons
  omega
theorem NodeSt.takeRow (T : NodeSt n a0 N0 id K a own N h) (hn : n ≤ 3840) (hk : own k = frO) (hkn : k < n) (h0 : h.n.rw = 0) :
    NodeSt n a0 N0 id K { a with B := setTo a.B k true } (upO own k (rwO id)) (upO N id (some (h.setRw (k : Int)))) (h.setRw (k : Int)) := by
  have hk0 := T.sp.lay.free_ne hk
  refine T.step (T.sp.lay.row T.hN hk hkn h0) (T.sp.bm.set hn hkn _ _ (by simp)) ?_
  have := frN_upd (own := own) (x := rwO id) hkn
  rw [if_pos hk, if_neg (by simp)] at this
  rw [nds_row0 h0 (by omega)]
  have := T.cons
  omega
theorem NodeSt.freePage (T : NodeSt n a0 N0 id K a own N h) (hn : n ≤ 3840) (hi : i < 256) (h0 : h.page i ≠ 0) :
    NodeSt n a0 N0 id K { a with B := setTo a.B (h.page i).toNat false } (upO own (h.page i).toNat frO) (upO N id (some (h.put i 0))) (h.put i 0) := by
  have hp := T.ok.pg i hi
  refine T.step (T.sp.lay.unpage T.hN hi h0) (T.sp.bm.set hn (by omega) _ _ (by simp)) ?_
  have := frN_upd (own := own) (x := frO) (show (h.page i).toNat < n by omega)
  rw [T.sp.lay.ownPg T.hN hi h0, if_pos rfl, if_neg (by simp)] at this
  have h2 := nds_put1 T.ok.fit hi h0
  have := T.cons
  omega
theorem NodeSt.freeRow (T : NodeSt n a0 N0 id K a own N h) (hn : n ≤ 3840) (h0 : h.n.rw ≠ 0) (hz : ∀ i, 16 ≤ i → i < 256 → h.page i = 0) :
    NodeSt n a0 N0 id K { a with B := setTo a.B h.n.rw.toNat false } (upO own h.n.rw.toNat frO) (upO N id (some (h.setRw 0))) (h.setRw 0) := by
  have r0 := T.ok.rw0
  have r1 := T.ok.rw1
  refine T.step (T.sp.lay.unrow T.hN h0 hz) (T.sp.bm.set hn (by omega) _ _ (by simp)) ?_
  have := frN_upd (own := own) (x := frO) (show h.n.rw.toNat < n by omega)
  rw [T.sp.lay.ownRw T.hN h0, if_pos rfl, if_neg (by simp)] at this
  have h2 := nds_row1 h0
  have := T.cons
  omega
theorem NodeSt.set (T : NodeSt n a0 N0 id K a own N h) (ho : h'.Ok n id) (hr : h'.n.rw = h.n.rw) (hp : ∀ i, i < 256 → h'.page i = h.page i) : NodeSt n a0 N0 id K a own (upO N id (some h')) h' := by
  refine T.step (T.sp.lay.set T.hN ho hr hp) T.sp.bm ?_
  have : h'.nds = h.nds := by
    unfold Hd.nds
    rw [hr, cntP_congr (p := prOf h') (q := prOf h) fun i hi => by unfold prOf; rw [hp i hi]]
  rw [this]; exact T.cons
/-- The node is saved, and all is at rest. -/
theorem NodeSt.done (T : NodeSt n a0 N0 id K a own N h) (hn : n ≤ 3840) (hf : h.Fin) (ht : Tail a.V h) {A : Nat → Option AF} (hA : ∀ id, A id = (N0 id).map (afOf a0.V)) (f : AF) (h1 : h.n.kd = f.kd) (h2 : h.n.lk = f.lk) (h3 : h.n.sz = f.sz)
    (h4 : ∀ p, p < 122880 → byt a.V h p = f.dat p) (h4b : ∀ p, 122880 ≤ p → f.dat p = 0) (h5 : ∀ i, i < 256 → prOf h i = f.pr i) (h5b : ∀ i, 256 ≤ i → f.pr i = false) : Has n { a with V := savV a.V h } (upO A id (some f)) (K - needP f.pr) := by
  obtain ⟨S, hb⟩ := T.sp.saved hn T.hN hf ht
  have hnd := T.ok.nds hf
  rw [needP_congr h5] at hnd
  refine ⟨own, N, S, by have := T.cons; omega, fun id' => ?_⟩
  by_cases e : id' = id
  · subst e
    rw [upO_same, T.hN]
    show some f = some (afOf (savV a.V h) h)
    congr 1
    obtain ⟨kd, lk, sz, dat, pr⟩ := f
    dsimp only at *
    unfold afOf
    have e1 : sz = h.n.sz.toNat := by omega
    have e2 : dat = fun p => if p < 122880 then byt (savV a.V h) h p else 0 := by
      funext p
      split
      · rename_i hp; rw [hb p hp]; exact (h4 p hp).symm
      · rename_i hp; exact h4b p (by omega)
    have e3 : pr = prOf h := by
      funext i
      by_cases hi : i < 256
      · exact (h5 i hi).symm
      · rw [h5b i (by omega)]; unfold prOf; simp [hi]
    rw [h1, h2, ← e1, ← e2, ← e3]
  · rw [upO_other _ _ e, hA id', ← T.oth id' e]
    cases hg : N id' with
    | none => rfl
    | some g =>
      show some (afOf a0.V g) = some (afOf (savV a.V h) g)
      congr 1
      have h0 : N0 id' = some g := (T.oth id' e).symm.trans hg
      unfold afOf
      congr 1
      funext p
      split
      · rename_i hp
        rw [← T.byts id' g e h0 p hp]
        refine (byt_other T.sp.lay e hg (fun b hm => savV_other ?_ fun h0 => ?_) hp).symm
        · rintro rfl; exact hm (.inr (.inl ⟨by rw [T.ok.id]; exact T.sp.lay.ownId T.hN, T.ok.id⟩))
        · rintro rfl; exact hm (.inr (.inr (.inl (T.sp.lay.ownRw T.hN h0))))
      · rfl
end
section
variable {σ α : Type} {n id k K : Nat} {own : Nat → Own} {N N0 : Nat → Option Hd} {h : Hd} {a a0 : Aw} {V0 : Nat → List UInt8} {I : σ → Prop} {ask : Asks σ} {E : Int → Prop} {A : Nat → Option AF} {f : AF}
theorem Does.saveDone (T : NodeSt n a0 N0 id K a own N h) (hn : n ≤ 3840) (hf : h.Fin) : Does n V0 I (wsave h) a (fun _ a' => a' = { a with V := savV a.V h }) E := by
  have ho := T.ok
  exact Does.save (by rw [ho.id]; exact (T.sp.lay.ok _ _ T.hN).1) ho.rw0 (ho.ok hn hf) (ho.row hn).1 ho.fit.2
def newF (kd : Int) : AF := ⟨kd, 1, 0, fun _ => 0, fun _ => false⟩
theorem newHd_page (id : Nat) (kd : Int) (i : Nat) : (newHd id kd).page i = 0 := by
  unfold newHd Hd.page
  split
  · show (List.replicate 16 (0 : Int)).getD i 0 = 0
    simp only [List.getD, List.getElem?_replicate]; split <;> rfl
  · show (List.replicate 240 (0 : Int)).getD (i - 16) 0 = 0
    simp only [List.getD, List.getElem?_replicate]; split <;> rfl
theorem newHd_ok {kd : Int} (hk : kd = 1 ∨ kd = 2) (h0 : 0 < n) : (newHd id kd).Ok n id :=
  ⟨⟨rfl, rfl⟩, rfl, hk, (by decide : (0 : Int) ≤ 1), (by decide : (1 : Int) ≤ 65535), (by decide : (0 : Int) ≤ 0), (by decide : (0 : Int) ≤ 122880), (by decide : (0 : Int) ≤ 0), show (0 : Int) < n by omega, fun i _ => by rw [newHd_page]; exact ⟨by omega, by omega⟩, fun _ i _ _ => newHd_page _ _ _⟩
theorem newHd_fin (id : Nat) (kd : Int) : (newHd id kd).Fin := ⟨fun i _ _ => newHd_page _ _ _, fun h => absurd rfl h⟩
theorem newHd_byt (V : Nat → List UInt8) (id : Nat) (kd : Int) (p : Nat) : byt V (newHd id kd) p = 0 := by unfold byt; rw [if_pos (newHd_page _ _ _)]
theorem newHd_nds (id : Nat) (kd : Int) : (newHd id kd).nds = 1 := by
  unfold Hd.nds
  have e : cntP (prOf (newHd id kd)) = 0 := by
    unfold cntP
    rw [List.countP_eq_zero]
    intro i _ h
    exact (prOf_iff.1 h).2 (newHd_page _ _ _)
  rw [e, if_pos (show (newHd id kd).n.rw = 0 from rfl)]
theorem needP_none : needP (fun _ => false) = 1 := by
  unfold needP
  have e : cntP (fun _ => false) = 0 := by unfold cntP; rw [List.countP_eq_zero]; intro i _ h; cases h
  rw [e, if_neg]
  intro h9
  obtain ⟨i, _, _, h3⟩ := rowB_iff.1 h9
  cases h3
/-- A node is made at a free block. -/
theorem NodeSt.made (S : SpX n a own N 0) (hn : n ≤ 3840) (hk : own k = frO) (hkn : k < n) {kd : Int} (hkd : kd = 1 ∨ kd = 2) :
    NodeSt n a N k (frN own n) { a with B := setTo a.B k true } (upO own k ndO) (upO N k (some (newHd k kd))) (newHd k kd) := by
  have hk0 := S.lay.free_ne hk
  refine ⟨(S.weak k).step (S.lay.new hk hkn (newHd_ok hkd (by omega)) (fun i _ => newHd_page _ _ _) rfl) (S.bm.set hn hkn _ _ (by simp)) fun id' hne => upO_other _ _ hne, upO_same _ _ _, fun id' hne => upO_other _ _ hne, fun _ _ _ _ _ _ => rfl, ?_⟩
  have := frN_upd (own := own) (x := ndO) hkn
  rw [if_pos hk, if_neg (by simp)] at this
  rw [newHd_nds]
  omega
theorem Does.new (hr : Rdr ask n V0 I) (h0 : 0 < n) (hn : n ≤ 3840) (hh : Has n a A k) {kd : Int} (hkd : kd = 1 ∨ kd = 2) :
    Does n V0 I (wnew ask n kd) a (fun x a' => A x = none ∧ 0 < x ∧ x < n ∧ 0 < k ∧ Has n a' (upO A x (some (newF kd))) (k - 1)) (fun c => c = 7 ∧ k = 0) := by
  obtain ⟨own, N, S, hk, hA⟩ := hh
  refine Does.congr (m' := wtake ask n ⇝ wnewK kd) ?_ fun st => if_pos hkd
  refine (Does.take hr h0 fun hf => ⟨rfl, by rw [← hk, S.bm.free_none hf]⟩).bind fun x a' e => ?_
  obtain ⟨e1, rfl⟩ := e
  obtain ⟨hxn, hx⟩ := S.bm.free_some e1
  have hx0 := S.lay.free_ne hx
  have T := NodeSt.made S hn hx hxn hkd
  have hkp : 0 < k := by
    have h1 := T.cons
    rw [newHd_nds] at h1
    omega
  refine (Does.saveDone T hn (newHd_fin _ _)).bind fun _ a' e => ?_
  subst e
  refine Does.pure ⟨by rw [hA, S.lay.free_none hx]; rfl, by omega, hxn, hkp, ?_⟩
  have := T.done hn (newHd_fin _ _) (fun p _ _ => newHd_byt _ _ _ _) hA (newF kd) rfl rfl rfl (fun p _ => newHd_byt _ _ _ _) (fun _ _ => rfl) (fun i hi => (prOf_false hi).2 (newHd_page _ _ _)) fun _ _ => rfl
  have e2 : needP (newF kd).pr = 1 := needP_none
  rw [e2, hk] at this
  exact this
theorem Does.links (hr : Rdr ask n V0 I) (hn : n ≤ 3840) (hh : Has n a A k) (hf : A id = some f) (d : Int) :
    Does n V0 I (wlinks ask n (id : Int) d) a (fun _ a' => (0 ≤ wrap64 (f.lk + d) ∧ wrap64 (f.lk + d) ≤ 65535) ∧ Has n a' (upO A id (some { f with lk := wrap64 (f.lk + d) })) k) (fun c => c = 1 ∧ ¬ (0 ≤ wrap64 (f.lk + d) ∧ wrap64 (f.lk + d) ≤ 65535)) := by
  obtain ⟨own, N, S, hk, hA⟩ := hh
  obtain ⟨h, hN, rfl⟩ := Has.at hA hf
  obtain ⟨i0, i1, ho⟩ := S.lay.ok _ _ hN
  obtain ⟨hfin, hs, ht⟩ := S.rest id h (by omega) hN
  refine (Does.load hr hn S hN).bind fun x a' e => ?_
  obtain ⟨rfl, rfl⟩ := e
  show Does n V0 I (wlinksZ x (wrap64 (x.n.lk + d))) a' (fun _ a'' => (0 ≤ wrap64 (x.n.lk + d) ∧ wrap64 (x.n.lk + d) ≤ 65535) ∧ Has n a'' (upO A id (some { afOf a'.V x with lk := wrap64 (x.n.lk + d) })) k) (fun c => c = 1 ∧ ¬ (0 ≤ wrap64 (x.n.lk + d) ∧ wrap64 (x.n.lk + d) ≤ 65535))
  generalize wrap64 (x.n.lk + d) = z
  by_cases hz : 0 ≤ z ∧ z ≤ 65535
  · refine Does.congr (m' := wsave (x.setLk z)) ?_ fun st => if_pos hz
    have ho' : (x.setLk z).Ok n id := ⟨ho.fit, ho.id, ho.kd, hz.1, hz.2, ho.sz0, ho.sz1, ho.rw0, ho.rw1, ho.pg, ho.rz⟩
    have T := (NodeSt.start S hN).set ho' rfl fun _ _ => rfl
    have hfin' : (x.setLk z).Fin := ⟨hfin.hi, hfin.rwp⟩
    refine (Does.saveDone T hn hfin').mono (fun _ a'' e => ?_) fun _ h => h
    subst e
    refine ⟨hz, ?_⟩
    have z0 := ho.sz0
    have := T.done hn hfin' (fun p h1 h2 => ht p h1 h2) hA { afOf a'.V x with lk := z } rfl rfl (show x.n.sz = (x.n.sz.toNat : Int) by omega) (fun p hp => by show byt a'.V x p = if p < 122880 then byt a'.V x p else 0; rw [if_pos hp])
      (fun p hp => if_neg (by omega)) (fun i _ => rfl) (fun i hi => by show prOf x i = false; unfold prOf; simp; omega)
    have e : needP ({ afOf a'.V x with lk := z } : AF).pr = x.nds := (ho.nds hfin).symm
    rw [e, Nat.add_sub_cancel, hk] at this
    exact this
  · exact (Does.bad ⟨rfl, hz⟩).congr fun st => if_neg hz
theorem Does.format (hr : Rdr ask n V0 I) (h0 : 4 ≤ n) (hn : n ≤ 3840) (hlen : ∀ b, 0 < b → b < n → (a.V b).length = 480) :
    Does n V0 I (wformat ask) a (fun _ a' => Has n a' (fun id => if id = 1 then some (newF 2) else none) (n - 2)) E := by
  have hz : ∀ b, bitAt (zs 480) b = false := by
    intro b
    unfold bitAt
    have e : (zs 480).getD (b / 8) 0 = 0 := by
      show (List.replicate 480 (0 : UInt8)).getD (b / 8) 0 = 0
      simp only [List.getD, List.getElem?_replicate]; split <;> rfl
    rw [e]
    show decide ((0 : UInt8).toNat / 2 ^ (b % 8) % 2 = 1) = false
    have : (0 : UInt8).toNat = 0 := rfl
    rw [this, Nat.zero_div]; decide
  obtain ⟨own0, ho0⟩ : ∃ o : Nat → Own, o = fun b => if b = 0 then bmO else frO := ⟨_, rfl⟩
  have L0 : Lay n own0 (fun _ => none) := by
    subst ho0
    refine ⟨fun b => ?_, fun b hb => if_neg (by omega), fun id h hh => (by cases hh), fun b => ?_, fun b id => ?_, fun b id i => ?_⟩
    · show (if b = 0 then bmO else frO) = bmO ↔ b = 0
      split
      · rename_i e; exact ⟨fun _ => e, fun _ => rfl⟩
      · rename_i e; exact ⟨fun h => (by cases h), fun h => absurd h e⟩
    · show (if b = 0 then bmO else frO) = ndO ↔ _
      split <;> simp
    · show (if b = 0 then bmO else frO) = rwO id ↔ _
      unfold usesRw
      split <;> simp
    · show (if b = 0 then bmO else frO) = pgO id i ↔ _
      unfold usesPg
      split <;> simp
  have Bm0 : Bm n own0 (setTo (zs 480) 0 true) := by
    subst ho0
    refine ⟨by rw [setTo_length]; exact length_zs 480, fun b hb => ?_⟩
    rw [bitAt_set (by rw [length_zs]; omega), hz]
    by_cases e : b = 0
    · subst e; simp
    · rw [if_neg e, if_neg e]; simp
  have hfr : frN own0 n = n - 1 := by
    subst ho0
    have : ∀ m, 0 < m → frN (fun b => if b = 0 then bmO else frO) m = m - 1 := by
      intro m
      induction m with
      | zero => intro h; omega
      | succ m ih =>
        intro _
        rw [frN_succ]
        by_cases e : m = 0
        · subst e; rfl
        · rw [ih (by omega), if_neg e, if_pos rfl]; omega
    exact this n (by omega)
  have S0 : SpX n ⟨a.V, setTo (zs 480) 0 true⟩ own0 (fun _ => none) 0 := ⟨L0, Bm0, hlen, fun id' h _ hh => (by cases hh)⟩
  have hk1 : own0 1 = frO := by subst ho0; rfl
  have T := NodeSt.made S0 hn hk1 (by omega) (.inr rfl)
  have hD : Does n V0 I (wmark ask 1 true ⇝ fun _ => wsave (newHd 1 2)) ⟨a.V, setTo (zs 480) 0 true⟩ (fun _ a' => Has n a' (fun id => if id = 1 then some (newF 2) else none) (n - 2)) E := by
    refine (Does.mark hr (by omega)).bind fun _ a' e => ?_
    subst e
    refine (Does.saveDone T hn (newHd_fin _ _)).mono (fun _ a' e => ?_) fun _ h => h
    subst e
    have := T.done hn (newHd_fin _ _) (fun p _ _ => newHd_byt _ _ _ _) (A := fun _ => none) (fun _ => rfl) (newF 2) rfl rfl rfl (fun p _ => newHd_byt _ _ _ _) (fun _ _ => rfl) (fun i hi => (prOf_false hi).2 (newHd_page _ _ _)) fun _ _ => rfl
    have e2 : needP (newF 2).pr = 1 := needP_none
    rw [e2, hfr] at this
    exact this
  intro st hst
  have h1 : wmark ask 0 true { st with bits := some (zs 480) } = (.ok (), { st with bits := some (setTo (zs 480) 0 true), dt := true }) := rfl
  have e : wformat ask st = (wmark ask 1 true ⇝ fun _ => wsave (newHd 1 2)) { st with bits := some (setTo (zs 480) 0 true), dt := true } := WM.bind_ok h1
  rw [e]
  exact hD _ ⟨hst.good, hst.view, .inl rfl, fun h => by simp at h, by rw [setTo_length]; exact length_zs 480⟩
end
end Go.SL

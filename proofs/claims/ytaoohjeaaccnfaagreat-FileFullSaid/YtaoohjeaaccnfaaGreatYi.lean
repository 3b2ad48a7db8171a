/- file, plainly: a node that is worked on; New, Links, Format, WriteAt. file, plainly: WriteAt. file, plainly: Truncate, Free. file, plainly: what each call of a space comes to. -/
import Derived.Test.YtaoohjeaaccnfaaGreatYe
namespace Go.SL
set_option linter.unusedVariables false
set_option linter.unusedSimpArgs false
open Go.RowKit
/-- Node id is worked on, from a space on that was at rest. -/
structure NodeSt (n : Nat) (a0 : Aw) (N0 : Nat → Option Hd) (id : Nat) (K : Nat) (a : Aw) (own : Nat → Own) (N : Nat → Option Hd) (h : Hd) : Prop where
  sp : SpX n a own N id
  hN : N id = some h
  oth : ∀ id', id' ≠ id → N id' = N0 id'
  byts : ∀ id' g, id' ≠ id → N0 id' = some g → ∀ p, p < 122880 → byt a.V g p = byt a0.V g p
  cons : frN own n + h.nds = K
section
variable {n id k i K : Nat} {own : Nat → Own} {N N0 : Nat → Option Hd} {h h' : Hd} {a a0 : Aw} {V V' : Nat → List UInt8}
theorem NodeSt.start (S : SpX n a own N 0) (hN : N id = some h) : NodeSt n a N id (frN own n + h.nds) a own N h :=
  ⟨S.weak id, hN, fun _ _ => rfl, fun _ _ _ _ _ _ => rfl, rfl⟩
theorem NodeSt.ok (T : NodeSt n a0 N0 id K a own N h) : h.Ok n id := (T.sp.lay.ok _ _ T.hN).2.2
/-- A block of its own is written. -/
theorem NodeSt.write (T : NodeSt n a0 N0 id K a own N h) (hk : mine own id k) {l : List UInt8} (hl : l.length = 480) : NodeSt n a0 N0 id K { a with V := upV a.V k l } own N h :=
  ⟨T.sp.write hk hl, T.hN, T.oth, fun id' g hne hg p hp => by
    have hg' : N id' = some g := (T.oth id' hne).trans hg
    rw [← T.byts id' g hne hg p hp]
    exact byt_other T.sp.lay hne hg' (fun b hm => upV_other _ _ (by rintro rfl; exact hm hk)) hp, T.cons⟩
theorem up_other {N : Nat → Option Hd} {o : Option Hd} {id id' : Nat} (h : id' ≠ id) : upO N id o id' = N id' := upO_other _ _ h
theorem NodeSt.step (T : NodeSt n a0 N0 id K a own N h) {own' : Nat → Own} {B' : List UInt8} (L' : Lay n own' (upO N id (some h'))) (hb : Bm n own' B') (hc : frN own' n + h'.nds = K) : NodeSt n a0 N0 id K { a with B := B' } own' (upO N id (some h')) h' :=
  ⟨T.sp.step L' hb fun id' hne => upO_other _ _ hne, upO_same _ _ _, fun id' hne => (upO_other _ _ hne).trans (T.oth id' hne), T.byts, hc⟩
theorem nds_put0 (hf : h.fit) (hi : i < 256) {b : Int} (h0 : h.page i = 0) (hb : b ≠ 0) : (h.put i b).nds = h.nds + 1 := by
  unfold Hd.nds
  rw [Hd.put_rw]
  have := cntP_upd (p := prOf (h.put i b)) (q := prOf h) hi fun j hj => by rw [prOf_put hf hi, if_neg hj]
  rw [prOf_put hf hi, if_pos rfl, (prOf_false hi).2 h0] at this
  simp only [hb, ne_eq, not_false_eq_true, decide_true, if_true, Bool.false_eq_true, if_false] at this
  omega
theorem nds_put1 (hf : h.fit) (hi : i < 256) (h0 : h.page i ≠ 0) : (h.put i 0).nds + 1 = h.nds := by
  unfold Hd.nds
  rw [Hd.put_rw]
  have := cntP_upd (p := prOf (h.put i 0)) (q := prOf h) hi fun j hj => by rw [prOf_put hf hi, if_neg hj]
  rw [prOf_put hf hi, if_pos rfl, prOf_iff.2 ⟨hi, h0⟩] at this
  simp only [ne_eq, not_true_eq_false, decide_false, if_true, Bool.false_eq_true, if_false] at this
  omega
theorem nds_row0 (h0 : h.n.rw = 0) {b : Int} (hb : b ≠ 0) : (h.setRw b).nds = h.nds + 1 := by
  unfold Hd.nds
  have e : prOf (h.setRw b) = prOf h := rfl
  rw [e, if_pos h0, if_neg (show (h.setRw b).n.rw ≠ 0 from hb)]
theorem nds_row1 (h0 : h.n.rw ≠ 0) : (h.setRw 0).nds + 1 = h.nds := by
  unfold Hd.nds
  have e : prOf (h.setRw 0) = prOf h := rfl
  rw [e, if_neg h0, if_pos (show (h.setRw 0).n.rw = 0 from rfl)]
theorem NodeSt.takePage (T : NodeSt n a0 N0 id K a own N h) (hn : n ≤ 3840) (hk : own k = frO) (hkn : k < n) (hi : i < 256) (h0 : h.page i = 0) (hr : 16 ≤ i → h.n.rw ≠ 0) :
    NodeSt n a0 N0 id K { a with B := setTo a.B k true } (upO own k (pgO id i)) (upO N id (some (h.put i (k : Int)))) (h.put i (k : Int)) := by
  have hk0 := T.sp.lay.free_ne hk
  refine T.step (T.sp.lay.page T.hN hk hkn hi h0 hr) (T.sp.bm.set hn hkn _ _ (by simp)) ?_
  have := frN_upd (own := own) (x := pgO id i) hkn
  rw [if_pos hk, if_neg (by simp)] at this
  rw [nds_put0 T.ok.fit hi h0 (by omega)]
  have := T.cons
  omega
theorem NodeSt.takeRow (T : NodeSt n a0 N0 id K a own N h) (hn : n ≤ 3840) (hk : own k = frO) (hkn : k < n) (h0 : h.n.rw = 0) :
    NodeSt n a0 N0 id K { a with B := setTo a.B k true } (upO own k (rwO id)) (upO N id (some (h.setRw (k : Int)))) (h.setRw (k : Int)) := by
  have hk0 := T.sp.lay.free_ne hk
  refine T.step (T.sp.lay.row T.hN hk hkn h0) (T.sp.bm.set hn hkn _ _ (by simp)) ?_
  have := frN_upd (own := own) (x := rwO id) hkn
  rw [if_pos hk, if_neg (by simp)] at this
  rw [nds_row0 h0 (by omega)]
  have := T.cons
  omega
theorem NodeSt.freePage (T : NodeSt n a0 N0 id K a own N h) (hn : n ≤ 3840) (hi : i < 256) (h0 : h.page i ≠ 0) :
    NodeSt n a0 N0 id K { a with B := setTo a.B (h.page i).toNat false } (upO own (h.page i).toNat frO) (upO N id (some (h.put i 0))) (h.put i 0) := by
  have hp := T.ok.pg i hi
  refine T.step (T.sp.lay.unpage T.hN hi h0) (T.sp.bm.set hn (by omega) _ _ (by simp)) ?_
  have := frN_upd (own := own) (x := frO) (show (h.page i).toNat < n by omega)
  rw [T.sp.lay.ownPg T.hN hi h0, if_pos rfl, if_neg (by simp)] at this
  have h2 := nds_put1 T.ok.fit hi h0
  have := T.cons
  omega
theorem NodeSt.freeRow (T : NodeSt n a0 N0 id K a own N h) (hn : n ≤ 3840) (h0 : h.n.rw ≠ 0) (hz : ∀ i, 16 ≤ i → i < 256 → h.page i = 0) :
    NodeSt n a0 N0 id K { a with B := setTo a.B h.n.rw.toNat false } (upO own h.n.rw.toNat frO) (upO N id (some (h.setRw 0))) (h.setRw 0) := by
  have r0 := T.ok.rw0
  have r1 := T.ok.rw1
  refine T.step (T.sp.lay.unrow T.hN h0 hz) (T.sp.bm.set hn (by omega) _ _ (by simp)) ?_
  have := frN_upd (own := own) (x := frO) (show h.n.rw.toNat < n by omega)
  rw [T.sp.lay.ownRw T.hN h0, if_pos rfl, if_neg (by simp)] at this
  have h2 := nds_row1 h0
  have := T.cons
  omega
theorem NodeSt.set (T : NodeSt n a0 N0 id K a own N h) (ho : h'.Ok n id) (hr : h'.n.rw = h.n.rw) (hp : ∀ i, i < 256 → h'.page i = h.page i) : NodeSt n a0 N0 id K a own (upO N id (some h')) h' := by
  refine T.step (T.sp.lay.set T.hN ho hr hp) T.sp.bm ?_
  have : h'.nds = h.nds := by
    unfold Hd.nds
    rw [hr, cntP_congr (p := prOf h') (q := prOf h) fun i hi => by unfold prOf; rw [hp i hi]]
  rw [this]; exact T.cons
/-- The node is saved, and all is at rest. -/
theorem NodeSt.done (T : NodeSt n a0 N0 id K a own N h) (hn : n ≤ 3840) (hf : h.Fin) (ht : Tail a.V h) {A : Nat → Option AF} (hA : ∀ id, A id = (N0 id).map (afOf a0.V)) (f : AF) (h1 : h.n.kd = f.kd) (h2 : h.n.lk = f.lk) (h3 : h.n.sz = f.sz)
    (h4 : ∀ p, p < 122880 → byt a.V h p = f.dat p) (h4b : ∀ p, 122880 ≤ p → f.dat p = 0) (h5 : ∀ i, i < 256 → prOf h i = f.pr i) (h5b : ∀ i, 256 ≤ i → f.pr i = false) : Has n { a with V := savV a.V h } (upO A id (some f)) (K - needP f.pr) := by
  obtain ⟨S, hb⟩ := T.sp.saved hn T.hN hf ht
  have hnd := T.ok.nds hf
  rw [needP_congr h5] at hnd
  refine ⟨own, N, S, by have := T.cons; omega, fun id' => ?_⟩
  by_cases e : id' = id
  · subst e
    rw [upO_same, T.hN]
    show some f = some (afOf (savV a.V h) h)
    congr 1
    obtain ⟨kd, lk, sz, dat, pr⟩ := f
    dsimp only at *
    unfold afOf
    have e1 : sz = h.n.sz.toNat := by omega
    have e2 : dat = fun p => if p < 122880 then byt (savV a.V h) h p else 0 := by
      funext p
      split
      · rename_i hp; rw [hb p hp]; exact (h4 p hp).symm
      · rename_i hp; exact h4b p (by omega)
    have e3 : pr = prOf h := by
      funext i
      by_cases hi : i < 256
      · exact (h5 i hi).symm
      · rw [h5b i (by omega)]; unfold prOf; simp [hi]
    rw [h1, h2, ← e1, ← e2, ← e3]
  · rw [upO_other _ _ e, hA id', ← T.oth id' e]
    cases hg : N id' with
    | none => rfl
    | some g =>
      show some (afOf a0.V g) = some (afOf (savV a.V h) g)
      congr 1
      have h0 : N0 id' = some g := (T.oth id' e).symm.trans hg
      unfold afOf
      congr 1
      funext p
      split
      · rename_i hp
        rw [← T.byts id' g e h0 p hp]
        refine (byt_other T.sp.lay e hg (fun b hm => savV_other ?_ fun h0 => ?_) hp).symm
        · rintro rfl; exact hm (.inr (.inl ⟨by rw [T.ok.id]; exact T.sp.lay.ownId T.hN, T.ok.id⟩))
        · rintro rfl; exact hm (.inr (.inr (.inl (T.sp.lay.ownRw T.hN h0))))
      · rfl
end
section
variable {σ α : Type} {n id k K : Nat} {own : Nat → Own} {N N0 : Nat → Option Hd} {h : Hd} {a a0 : Aw} {V0 : Nat → List UInt8} {I : σ → Prop} {ask : Asks σ} {E : Int → Prop} {A : Nat → Option AF} {f : AF}
theorem Does.saveDone (T : NodeSt n a0 N0 id K a own N h) (hn : n ≤ 3840) (hf : h.Fin) : Does n V0 I (wsave h) a (fun _ a' => a' = { a with V := savV a.V h }) E := by
  have ho := T.ok
  exact Does.save (by rw [ho.id]; exact (T.sp.lay.ok _ _ T.hN).1) (by rw [ho.id]; exact (T.sp.lay.ok _ _ T.hN).2.1) ho.rw1 ho.rw0 (ho.ok hn hf) (ho.row hn).1 ho.fit.2
def newF (kd : Int) : AF := ⟨kd, 1, 0, fun _ => 0, fun _ => false⟩
theorem newHd_page (id : Nat) (kd : Int) (i : Nat) : (newHd id kd).page i = 0 := by
  unfold newHd Hd.page
  split
  · show (List.replicate 16 (0 : Int)).getD i 0 = 0
    simp only [List.getD, List.getElem?_replicate]; split <;> rfl
  · show (List.replicate 240 (0 : Int)).getD (i - 16) 0 = 0
    simp only [List.getD, List.getElem?_replicate]; split <;> rfl
theorem newHd_ok {kd : Int} (hk : kd = 1 ∨ kd = 2) (h0 : 0 < n) : (newHd id kd).Ok n id :=
  ⟨⟨rfl, rfl⟩, rfl, hk, (by decide : (0 : Int) ≤ 1), (by decide : (1 : Int) ≤ 65535), (by decide : (0 : Int) ≤ 0), (by decide : (0 : Int) ≤ 122880), (by decide : (0 : Int) ≤ 0), show (0 : Int) < n by omega, fun i _ => by rw [newHd_page]; exact ⟨by omega, by omega⟩, fun _ i _ _ => newHd_page _ _ _⟩
theorem newHd_fin (id : Nat) (kd : Int) : (newHd id kd).Fin := ⟨fun i _ _ => newHd_page _ _ _, fun h => absurd rfl h⟩
theorem newHd_byt (V : Nat → List UInt8) (id : Nat) (kd : Int) (p : Nat) : byt V (newHd id kd) p = 0 := by unfold byt; rw [if_pos (newHd_page _ _ _)]
theorem newHd_nds (id : Nat) (kd : Int) : (newHd id kd).nds = 1 := by
  unfold Hd.nds
  have e : cntP (prOf (newHd id kd)) = 0 := by
    unfold cntP
    rw [List.countP_eq_zero]
    intro i _ h
    exact (prOf_iff.1 h).2 (newHd_page _ _ _)
  rw [e, if_pos (show (newHd id kd).n.rw = 0 from rfl)]
theorem needP_none : needP (fun _ => false) = 1 := by
  unfold needP
  have e : cntP (fun _ => false) = 0 := by unfold cntP; rw [List.countP_eq_zero]; intro i _ h; cases h
  rw [e, if_neg]
  intro h9
  obtain ⟨i, _, _, h3⟩ := rowB_iff.1 h9
  cases h3
/-- A node is made at a free block. -/
theorem NodeSt.made (S : SpX n a own N 0) (hn : n ≤ 3840) (hk : own k = frO) (hkn : k < n) {kd : Int} (hkd : kd = 1 ∨ kd = 2) :
    NodeSt n a N k (frN own n) { a with B := setTo a.B k true } (upO own k ndO) (upO N k (some (newHd k kd))) (newHd k kd) := by
  have hk0 := S.lay.free_ne hk
  refine ⟨(S.weak k).step (S.lay.new hk hkn (newHd_ok hkd (by omega)) (fun i _ => newHd_page _ _ _) rfl) (S.bm.set hn hkn _ _ (by simp)) fun id' hne => upO_other _ _ hne, upO_same _ _ _, fun id' hne => upO_other _ _ hne, fun _ _ _ _ _ _ => rfl, ?_⟩
  have := frN_upd (own := own) (x := ndO) hkn
  rw [if_pos hk, if_neg (by simp)] at this
  rw [newHd_nds]
  omega
theorem Does.new (hr : Rdr ask n V0 I) (h0 : 0 < n) (hn : n ≤ 3840) (hh : Has n a A k) {kd : Int} (hkd : kd = 1 ∨ kd = 2) :
    Does n V0 I (wnew ask n kd) a (fun x a' => A x = none ∧ 0 < x ∧ x < n ∧ 0 < k ∧ Has n a' (upO A x (some (newF kd))) (k - 1)) (fun c => c = 7 ∧ k = 0) := by
  obtain ⟨own, N, S, hk, hA⟩ := hh
  refine Does.congr (m' := WM.bind (wtake ask n) (wnewK kd)) ?_ fun st => if_pos hkd
  refine (Does.take hr h0 fun hf => ⟨rfl, by rw [← hk, S.bm.free_none hf]⟩).bind fun x a' e => ?_
  obtain ⟨e1, rfl⟩ := e
  obtain ⟨hxn, hx⟩ := S.bm.free_some e1
  have hx0 := S.lay.free_ne hx
  have T := NodeSt.made S hn hx hxn hkd
  have hkp : 0 < k := by
    have h1 := T.cons
    rw [newHd_nds] at h1
    omega
  refine (Does.saveDone T hn (newHd_fin _ _)).bind fun _ a' e => ?_
  subst e
  refine Does.pure ⟨by rw [hA, S.lay.free_none hx]; rfl, by omega, hxn, hkp, ?_⟩
  have := T.done hn (newHd_fin _ _) (fun p _ _ => newHd_byt _ _ _ _) hA (newF kd) rfl rfl rfl (fun p _ => newHd_byt _ _ _ _) (fun _ _ => rfl) (fun i hi => (prOf_false hi).2 (newHd_page _ _ _)) fun _ _ => rfl
  have e2 : needP (newF kd).pr = 1 := needP_none
  rw [e2, hk] at this
  exact this
theorem Does.links (hr : Rdr ask n V0 I) (hn : n ≤ 3840) (hh : Has n a A k) (hf : A id = some f) (d : Int) :
    Does n V0 I (wlinks ask n (id : Int) d) a (fun _ a' => (0 ≤ wrap64 (f.lk + d) ∧ wrap64 (f.lk + d) ≤ 65535) ∧ Has n a' (upO A id (some { f with lk := wrap64 (f.lk + d) })) k) (fun c => c = 1 ∧ ¬ (0 ≤ wrap64 (f.lk + d) ∧ wrap64 (f.lk + d) ≤ 65535)) := by
  obtain ⟨own, N, S, hk, hA⟩ := hh
  obtain ⟨h, hN, rfl⟩ := Has.at hA hf
  obtain ⟨i0, i1, ho⟩ := S.lay.ok _ _ hN
  obtain ⟨hfin, hs, ht⟩ := S.rest id h (by omega) hN
  refine (Does.load hr hn S hN).bind fun x a' e => ?_
  obtain ⟨rfl, rfl⟩ := e
  show Does n V0 I (wlinksZ x (wrap64 (x.n.lk + d))) a' (fun _ a'' => (0 ≤ wrap64 (x.n.lk + d) ∧ wrap64 (x.n.lk + d) ≤ 65535) ∧ Has n a'' (upO A id (some { afOf a'.V x with lk := wrap64 (x.n.lk + d) })) k) (fun c => c = 1 ∧ ¬ (0 ≤ wrap64 (x.n.lk + d) ∧ wrap64 (x.n.lk + d) ≤ 65535))
  generalize wrap64 (x.n.lk + d) = z
  by_cases hz : 0 ≤ z ∧ z ≤ 65535
  · refine Does.congr (m' := wsave (x.setLk z)) ?_ fun st => if_pos hz
    have ho' : (x.setLk z).Ok n id := ⟨ho.fit, ho.id, ho.kd, hz.1, hz.2, ho.sz0, ho.sz1, ho.rw0, ho.rw1, ho.pg, ho.rz⟩
    have T := (NodeSt.start S hN).set ho' rfl fun _ _ => rfl
    have hfin' : (x.setLk z).Fin := ⟨hfin.hi, hfin.rwp⟩
    refine (Does.saveDone T hn hfin').mono (fun _ a'' e => ?_) fun _ h => h
    subst e
    refine ⟨hz, ?_⟩
    have z0 := ho.sz0
    have := T.done hn hfin' (fun p h1 h2 => ht p h1 h2) hA { afOf a'.V x with lk := z } rfl rfl (show x.n.sz = (x.n.sz.toNat : Int) by omega) (fun p hp => by show byt a'.V x p = if p < 122880 then byt a'.V x p else 0; rw [if_pos hp])
      (fun p hp => if_neg (by omega)) (fun i _ => rfl) (fun i hi => by show prOf x i = false; unfold prOf; simp; omega)
    have e : needP ({ afOf a'.V x with lk := z } : AF).pr = x.nds := (ho.nds hfin).symm
    rw [e, Nat.add_sub_cancel, hk] at this
    exact this
  · exact (Does.bad ⟨rfl, hz⟩).congr fun st => if_neg hz
theorem Does.format (hr : Rdr ask n V0 I) (h0 : 4 ≤ n) (hn : n ≤ 3840) (hlen : ∀ b, 0 < b → b < n → (a.V b).length = 480) :
    Does n V0 I (wformat ask) a (fun _ a' => Has n a' (fun id => if id = 1 then some (newF 2) else none) (n - 2)) E := by
  have hz : ∀ b, bitAt (zs 480) b = false := by
    intro b
    unfold bitAt
    have e : (zs 480).getD (b / 8) 0 = 0 := by
      show (List.replicate 480 (0 : UInt8)).getD (b / 8) 0 = 0
      simp only [List.getD, List.getElem?_replicate]; split <;> rfl
    rw [e]
    show decide ((0 : UInt8).toNat / 2 ^ (b % 8) % 2 = 1) = false
    have : (0 : UInt8).toNat = 0 := rfl
    rw [this, Nat.zero_div]; decide
  obtain ⟨own0, ho0⟩ : ∃ o : Nat → Own, o = fun b => if b = 0 then bmO else frO := ⟨_, rfl⟩
  have L0 : Lay n own0 (fun _ => none) := by
    subst ho0
    refine ⟨fun b => ?_, fun b hb => if_neg (by omega), fun id h hh => (by cases hh), fun b => ?_, fun b id => ?_, fun b id i => ?_⟩
    · show (if b = 0 then bmO else frO) = bmO ↔ b = 0
      split
      · rename_i e; exact ⟨fun _ => e, fun _ => rfl⟩
      · rename_i e; exact ⟨fun h => (by cases h), fun h => absurd h e⟩
    · show (if b = 0 then bmO else frO) = ndO ↔ _
      split <;> simp
    · show (if b = 0 then bmO else frO) = rwO id ↔ _
      unfold usesRw
      split <;> simp
    · show (if b = 0 then bmO else frO) = pgO id i ↔ _
      unfold usesPg
      split <;> simp
  have Bm0 : Bm n own0 (setTo (zs 480) 0 true) := by
    subst ho0
    refine ⟨by rw [setTo_length]; exact length_zs 480, fun b hb => ?_⟩
    rw [bitAt_set (by rw [length_zs]; omega), hz]
    by_cases e : b = 0
    · subst e; simp
    · rw [if_neg e, if_neg e]; simp
  have hfr : frN own0 n = n - 1 := by
    subst ho0
    have : ∀ m, 0 < m → frN (fun b => if b = 0 then bmO else frO) m = m - 1 := by
      intro m
      induction m with
      | zero => intro h; omega
      | succ m ih =>
        intro _
        rw [frN_succ]
        by_cases e : m = 0
        · subst e; rfl
        · rw [ih (by omega), if_neg e, if_pos rfl]; omega
    exact this n (by omega)
  have S0 : SpX n ⟨a.V, setTo (zs 480) 0 true⟩ own0 (fun _ => none) 0 := ⟨L0, Bm0, hlen, fun id' h _ hh => (by cases hh)⟩
  have hk1 : own0 1 = frO := by subst ho0; rfl
  have T := NodeSt.made S0 hn hk1 (by omega) (.inr rfl)
  have hD : Does n V0 I (WM.bind (wmark ask 1 true) fun _ => wsave (newHd 1 2)) ⟨a.V, setTo (zs 480) 0 true⟩ (fun _ a' => Has n a' (fun id => if id = 1 then some (newF 2) else none) (n - 2)) E := by
    refine (Does.mark hr (by omega)).bind fun _ a' e => ?_
    subst e
    refine (Does.saveDone T hn (newHd_fin _ _)).mono (fun _ a' e => ?_) fun _ h => h
    subst e
    have := T.done hn (newHd_fin _ _) (fun p _ _ => newHd_byt _ _ _ _) (A := fun _ => none) (fun _ => rfl) (newF 2) rfl rfl rfl (fun p _ => newHd_byt _ _ _ _) (fun _ _ => rfl) (fun i hi => (prOf_false hi).2 (newHd_page _ _ _)) fun _ _ => rfl
    have e2 : needP (newF 2).pr = 1 := needP_none
    rw [e2, hfr] at this
    exact this
  intro st hst
  have h1 : wmark ask 0 true { st with bits := some (zs 480) } = (.ok (), { st with bits := some (setTo (zs 480) 0 true), dt := true }) := rfl
  have e : wformat ask st = (WM.bind (wmark ask 1 true) fun _ => wsave (newHd 1 2)) { st with bits := some (setTo (zs 480) 0 true), dt := true } := WM.bind_ok h1
  rw [e]
  exact hD _ ⟨hst.good, hst.view, .inl rfl, fun h => by simp at h, by rw [setTo_length]; exact length_zs 480⟩
end
end Go.SL
namespace Go.SL
set_option linter.unusedVariables false
set_option linter.unusedSimpArgs false
open Go.RowKit
/-- Is block i met by m bytes at off? -/
def touched (off m i : Nat) : Bool := decide (0 < m) && (decide (480 * i < off + m) && decide (off < 480 * i + 480))
theorem touched_iff {off m i : Nat} : touched off m i = true ↔ 0 < m ∧ 480 * i < off + m ∧ off < 480 * i + 480 := by
  unfold touched; simp only [Bool.and_eq_true, decide_eq_true_eq]
/-- What is written. -/
def AF.wr (f : AF) (off : Nat) (d : List UInt8) : AF :=
  { f with sz := if d.length = 0 then f.sz else max f.sz (off + d.length), dat := fun p => if off ≤ p ∧ p < off + d.length then d.getD (p - off) 0 else f.dat p, pr := fun i => f.pr i || touched off d.length i }
def sameF (h h' : Hd) : Prop := h.n.kd = h'.n.kd ∧ h.n.lk = h'.n.lk ∧ h.n.sz = h'.n.sz
section
variable {n id k q K : Nat} {own : Nat → Own} {N N0 : Nat → Option Hd} {h h' h0 : Hd} {a a0 : Aw}
theorem put_sameF (h : Hd) (i : Nat) (b : Int) : sameF (h.put i b) h := by unfold Hd.put sameF; split <;> exact ⟨rfl, rfl, rfl⟩
theorem byt_page {V : Nat → List UInt8} {p : Nat} (e : h.page (p / 480) = h'.page (p / 480)) : byt V h p = byt V h' p := by unfold byt; rw [e]
/-- A page that is its own is written. -/
theorem NodeSt.writePage (T : NodeSt n a0 N0 id K a own N h) (hq : q < 256) {b : Nat} (hb : h.page q = (b : Int)) (hb0 : 0 < b) {l : List UInt8} (hl : l.length = 480) :
    NodeSt n a0 N0 id K { a with V := upV a.V b l } own N h ∧ ∀ p, p < 122880 → byt (upV a.V b l) h p = if p / 480 = q then l.getD (p % 480) 0 else byt a.V h p := by
  have ho := T.sp.lay.ownPg T.hN hq (show h.page q ≠ 0 by omega)
  rw [hb, Int.toNat_natCast] at ho
  refine ⟨T.write (.inr (.inr (.inr ⟨q, ho⟩))) hl, fun p hp => ?_⟩
  by_cases e : p / 480 = q
  · rw [if_pos e]
    unfold byt
    rw [e, if_neg (by omega), hb, Int.toNat_natCast, upV_same]
  · rw [if_neg e]
    unfold byt
    split
    · rfl
    · rename_i h0
      rw [upV_other]
      intro h9
      have := T.sp.lay.ownPg T.hN (show p / 480 < 256 by omega) h0
      rw [h9, ho] at this
      simp only [Prod.mk.injEq] at this
      exact e this.2.2.symm
end
section
variable {σ α : Type} {n id k q K : Nat} {own : Nat → Own} {N N0 : Nat → Option Hd} {h h0 : Hd} {a a0 : Aw} {V0 : Nat → List UInt8} {I : σ → Prop} {ask : Asks σ} {E : Int → Prop} {A : Nat → Option AF} {f : AF}
/-- What open comes to. -/
def OpenP (n : Nat) (a0 : Aw) (N0 : Nat → Option Hd) (id K : Nat) (a : Aw) (h : Hd) (q : Nat) (wh : Bool) (p : Hd × Int × List UInt8) (a' : Aw) : Prop :=
  ∃ own N, NodeSt n a0 N0 id K a' own N p.1 ∧ a'.V = a.V ∧ (∃ b : Nat, p.2.1 = (b : Int) ∧ p.1.page q = (b : Int) ∧ 0 < b) ∧ (∀ i, i ≠ q → p.1.page i = h.page i) ∧ sameF p.1 h ∧ (p.1.n.rw ≠ 0 → h.n.rw ≠ 0 ∨ 16 ≤ q) ∧
    p.2.2.length = 480 ∧ (wh = false → ∀ r, r < 480 → p.2.2.getD r 0 = byt a.V h (480 * q + r))
def OpenE (K : Nat) (h : Hd) (q : Nat) (c : Int) : Prop := c = 7 ∧ ∃ hx : Hd, hx.nds = K ∧ (∀ i, hx.page i = h.page i) ∧ h.page q = 0 ∧ (hx.n.rw ≠ 0 → h.n.rw ≠ 0 ∨ 16 ≤ q)
theorem zs_getD (m r : Nat) : (zs m).getD r 0 = 0 := by
  show (List.replicate m (0 : UInt8)).getD r 0 = 0
  simp only [List.getD, List.getElem?_replicate]; split <;> rfl
theorem Does.open2 (hr : Rdr ask n V0 I) (hn : n ≤ 3840) (T : NodeSt n a0 N0 id K a own N h) (hq : q < 256) (hp : h.page q = 0) (hrw : 16 ≤ q → h.n.rw ≠ 0) {h1 : Hd} {V1 : Nat → List UInt8} (hV : a.V = V1) (e1 : ∀ i, h.page i = h1.page i) (e2 : sameF h h1) (e3 : h.n.rw ≠ 0 → h1.n.rw ≠ 0 ∨ 16 ≤ q) (wh : Bool) :
    Does n V0 I (wopen2 ask n h q) a (fun p a' => OpenP n a0 N0 id K ⟨V1, []⟩ h1 q wh p a') (OpenE K h1 q) := by
  have h0 : 0 < n := by have := (T.sp.lay.ok _ _ T.hN); omega
  have hE : freeOf a.B n = none → OpenE K h1 q 7 := fun hf => ⟨rfl, h, by have := T.cons; have := T.sp.bm.free_none hf; omega, e1, by rw [← e1]; exact hp, e3⟩
  refine (Does.take hr h0 hE).bind fun b a' e => ?_
  · obtain ⟨hb, rfl⟩ := e
    obtain ⟨hbn, hbo⟩ := T.sp.bm.free_some hb
    have hb0 := T.sp.lay.free_ne hbo
    have T' := T.takePage hn hbo hbn hq hp hrw
    refine Does.pure ⟨_, _, T', hV, ⟨b, rfl, ?_, by omega⟩, fun i hi => ?_, ?_, ?_, length_zs 480, fun _ r hr' => ?_⟩
    · show (h.put q (b : Int)).page q = b
      rw [Hd.page_put T.ok.fit hq, if_pos rfl]
    · show (h.put q (b : Int)).page i = _
      rw [Hd.page_put T.ok.fit hq, if_neg hi]; exact e1 i
    · obtain ⟨s1, s2, s3⟩ := put_sameF h q (b : Int)
      exact ⟨s1.trans e2.1, s2.trans e2.2.1, s3.trans e2.2.2⟩
    · show (h.put q (b : Int)).n.rw ≠ 0 → _
      rw [Hd.put_rw]; exact e3
    · show (zs 480).getD r 0 = _
      rw [zs_getD]
      unfold byt
      rw [show (480 * q + r) / 480 = q by omega, if_pos (by rw [← e1]; exact hp)]
theorem Does.open (hr : Rdr ask n V0 I) (hn : n ≤ 3840) (T : NodeSt n a0 N0 id K a own N h) (hq : q < 256) (wh : Bool) :
    Does n V0 I (wopen ask n h q wh) a (OpenP n a0 N0 id K a h q wh) (OpenE K h q) := by
  have h0 : 0 < n := by have := (T.sp.lay.ok _ _ T.hN); omega
  have fin : ∀ p a', OpenP n a0 N0 id K ⟨a.V, []⟩ h q wh p a' → OpenP n a0 N0 id K a h q wh p a' := fun p a' h => h
  by_cases hp : h.page q = 0
  · by_cases hrw : 16 ≤ q ∧ h.n.rw = 0
    · refine Does.congr (m' := WM.bind (wtake ask n) fun r => wopen2 ask n (h.setRw (r : Int)) q) ?_ fun st => (if_pos hp).trans (if_pos hrw)
      have hE : freeOf a.B n = none → OpenE K h q 7 := fun hf => ⟨rfl, h, by have := T.cons; have := T.sp.bm.free_none hf; omega, fun _ => rfl, hp, fun h9 => absurd hrw.2 h9⟩
      refine (Does.take hr h0 hE).bind fun b a' e => ?_
      · obtain ⟨hb, rfl⟩ := e
        obtain ⟨hbn, hbo⟩ := T.sp.bm.free_some hb
        have hb0 := T.sp.lay.free_ne hbo
        have T' := T.takeRow hn hbo hbn hrw.2
        exact (Does.open2 hr hn T' hq hp (fun _ => show (b : Int) ≠ 0 by omega) (h1 := h) (V1 := a.V) rfl (fun _ => rfl) ⟨rfl, rfl, rfl⟩ (fun _ => .inr hrw.1) wh).mono fin fun _ h => h
    · refine Does.congr (m' := wopen2 ask n h q) ?_ fun st => (if_pos hp).trans (if_neg hrw)
      exact (Does.open2 hr hn T hq hp (fun h9 h10 => hrw ⟨h9, h10⟩) (h1 := h) (V1 := a.V) rfl (fun _ => rfl) ⟨rfl, rfl, rfl⟩ (fun h9 => .inl h9) wh).mono fin fun _ h => h
  · have hpg := T.ok.pg q hq
    obtain ⟨b, hb⟩ : ∃ b : Nat, h.page q = (b : Int) := ⟨(h.page q).toNat, by omega⟩
    cases wh with
    | true =>
      refine Does.congr (m' := WM.pure (h, h.page q, zs 480)) (Does.pure ?_) fun st => (if_neg hp).trans (if_pos rfl)
      exact ⟨own, N, T, rfl, ⟨b, hb, hb, by omega⟩, fun _ _ => rfl, ⟨rfl, rfl, rfl⟩, fun h9 => .inl h9, length_zs 480, fun h9 => by cases h9⟩
    | false =>
      refine Does.congr (m' := WM.bind (wread ask (b : Int)) fun L => WM.pure (h, h.page q, L)) ?_ fun st => by
        refine ((if_neg hp).trans (if_neg (by decide))).trans ?_
        rw [hb]
      refine (Does.read hr (by omega) (by omega)).bind fun L a' e => ?_
      obtain ⟨rfl, hL, e3⟩ := e
      rw [e3]
      refine Does.pure ⟨own, N, T, rfl, ⟨b, hb, hb, by omega⟩, fun _ _ => rfl, ⟨rfl, rfl, rfl⟩, fun h9 => .inl h9, hL, fun _ r hr' => ?_⟩
      unfold byt
      rw [show (480 * q + r) / 480 = q by omega, if_neg hp, hb, show (480 * q + r) % 480 = r by omega, Int.toNat_natCast]
/-- So far. -/
structure WrI (n : Nat) (a0 : Aw) (N0 : Nat → Option Hd) (id K : Nat) (h0 : Hd) (off : Nat) (d : List UInt8) (done : Nat) (a : Aw) (h : Hd) : Prop where
  st : ∃ own N, NodeSt n a0 N0 id K a own N h
  same : sameF h h0
  byts : ∀ p, p < 122880 → byt a.V h p = if off ≤ p ∧ p < off + done then d.getD (p - off) 0 else byt a0.V h0 p
  prs : ∀ i, i < 256 → prOf h i = (prOf h0 i || touched off done i)
  rw : h.n.rw ≠ 0 → h0.n.rw ≠ 0 ∨ ∃ i, 16 ≤ i ∧ i < 256 ∧ touched off done i = true
theorem Does.wr (hr : Rdr ask n V0 I) (hn : n ≤ 3840) (hfin : h0.Fin) (off : Nat) (d : List UInt8) (hm : off + d.length ≤ 122880) : ∀ (f done : Nat) (a : Aw) (h : Hd), done ≤ d.length → d.length - done ≤ f → WrI n a0 N0 id K h0 off d done a h → (done < d.length → done = 0 ∨ (off + done) % 480 = 0) →
    Does n V0 I (wwr ask n off d f done h) a (fun h' a' => WrI n a0 N0 id K h0 off d d.length a' h') (fun c => c = 7 ∧ K < needP fun i => prOf h0 i || touched off d.length i) := by
  intro f
  induction f with
  | zero =>
    intro done a h hd hf T _
    obtain rfl : done = d.length := by omega
    exact Does.pure T
  | succ f ih =>
    intro done a h hd hf T hal
    by_cases hlt : done < d.length
    · obtain ⟨k, hk⟩ : ∃ k, lenN (d.length - done) (off + done) = k := ⟨_, rfl⟩
      have hk2 : k = min (d.length - done) (480 - (off + done) % 480) := by rw [← hk]; rfl
      obtain ⟨q, hq⟩ : ∃ q, (off + done) / 480 = q := ⟨_, rfl⟩
      obtain ⟨r, hr'⟩ : ∃ r, (off + done) % 480 = r := ⟨_, rfl⟩
      have hqr : off + done = 480 * q + r := by omega
      have hr480 : r < 480 := by omega
      have hq256 : q < 256 := by omega
      rw [hr'] at hk2
      refine Does.congr (m' := WM.bind (wopen ask n h q (k == 480)) (wwrK (wwr ask n off d f) done off k d)) ?_ fun st => by
        rw [← hq, ← hk]; exact if_pos hlt
      obtain ⟨own, N, T0⟩ := T.st
      have htq : touched off d.length q = true := touched_iff.2 ⟨by omega, by omega, by omega⟩
      have hmono : ∀ i, touched off done i = true → touched off d.length i = true := fun i hi => by
        obtain ⟨h1, h2, h3⟩ := touched_iff.1 hi
        exact touched_iff.2 ⟨by omega, by omega, h3⟩
      refine ((Does.open hr hn T0 hq256 (k == 480)).mono (fun _ _ h => h) fun c hE => ?_).bind fun p a' hP => ?_
      · obtain ⟨rfl, hx, x1, x2, x3, x4⟩ := hE
        refine ⟨rfl, ?_⟩
        rw [← x1]
        unfold Hd.nds needP
        have hlt2 : cntP (prOf hx) + 1 ≤ cntP fun i => prOf h0 i || touched off d.length i := by
          refine cntP_lt hq256 (fun i hi h1 => ?_) ((prOf_false hq256).2 (by rw [x2]; exact x3)) (by simp only [htq, Bool.or_true])
          have h2 : prOf h i = true := by
            obtain ⟨h3, h4⟩ := prOf_iff.1 h1
            rw [x2] at h4
            exact prOf_iff.2 ⟨h3, h4⟩
          rw [T.prs i hi, Bool.or_eq_true] at h2
          rw [Bool.or_eq_true]
          rcases h2 with h2 | h2
          · exact .inl h2
          · exact .inr (hmono i h2)
        by_cases hx0 : hx.n.rw = 0
        · rw [if_pos hx0]; omega
        · rw [if_neg hx0, if_pos]
          · omega
          · rw [rowB_iff]
            rcases x4 hx0 with h9 | h9
            · rcases T.rw h9 with h9 | ⟨i, i1, i2, i3⟩
              · obtain ⟨i, i1, i2, i3⟩ := hfin.rwp h9
                exact ⟨i, i1, i2, by rw [Bool.or_eq_true]; exact .inl (prOf_iff.2 ⟨i2, i3⟩)⟩
              · exact ⟨i, i1, i2, by rw [Bool.or_eq_true]; exact .inr (hmono i i3)⟩
            · exact ⟨q, h9, hq256, by rw [Bool.or_eq_true]; exact .inr htq⟩
      · obtain ⟨h', bI, L⟩ := p
        obtain ⟨own', N', T1, hV, ⟨b, p1, p2, p3⟩, p4, p5, p6, p7, p8⟩ := hP
        dsimp only at T1 p1 p2 p4 p5 p6 p7 p8
        subst p1
        obtain ⟨seg, hseg⟩ : ∃ s, (d.drop done).take k = s := ⟨_, rfl⟩
        have hsl : seg.length = k := by rw [← hseg, List.length_take, List.length_drop]; omega
        have hpl : (putAt L r seg).length = 480 := by rw [putAt_length (by rw [hsl, p7]; omega)]; exact p7
        refine Does.congr (m' := WM.bind (wwrite (b : Int) (putAt L r seg)) fun _ => wwr ask n off d f (done + k) h') ?_ fun st => by
          unfold wwrK; dsimp only; rw [hr', hseg]
        refine (Does.write p3 (by have h9 := (T1.ok.pg q (by omega)).2; rw [p2] at h9; omega) hpl).bind fun _ a'' e => ?_
        rw [e]
        obtain ⟨T2, hb⟩ := T1.writePage hq256 p2 p3 hpl
        refine ih (done + k) _ h' (by omega) (by omega) ⟨⟨own', N', T2⟩, ⟨p5.1.trans T.same.1, p5.2.1.trans T.same.2.1, p5.2.2.trans T.same.2.2⟩, fun p hp => ?_, fun i hi => ?_, fun h9 => ?_⟩ (fun _ => by right; omega)
        · show byt (upV a'.V b (putAt L r seg)) h' p = _
          rw [hb p hp]
          by_cases e : p / 480 = q
          · rw [if_pos e, putAt_getD (by rw [hsl, p7]; omega), hsl]
            by_cases e2 : r ≤ p % 480 ∧ p % 480 < r + k
            · rw [if_pos e2, if_pos (by omega), ← hseg]
              simp only [List.getD]
              rw [List.getElem?_take, if_pos (by omega), List.getElem?_drop, show done + (p % 480 - r) = p - off by omega]
            · have hw : (k == 480) = false := by
                cases hk9 : (k == 480) with
                | false => rfl
                | true =>
                  have : k = 480 := by simpa using hk9
                  omega
              rw [if_neg e2, p8 hw _ (by omega), show 480 * q + p % 480 = p by omega, T.byts p hp]
              by_cases e3 : off ≤ p ∧ p < off + done
              · rw [if_pos e3, if_pos (by omega)]
              · rw [if_neg e3, if_neg (by omega)]
          · rw [if_neg e, byt_page (p4 _ e), hV, T.byts p hp]
            by_cases e3 : off ≤ p ∧ p < off + done
            · rw [if_pos e3, if_pos (by omega)]
            · rw [if_neg e3, if_neg (by omega)]
        · by_cases e : i = q
          · subst e
            rw [prOf_iff.2 ⟨hi, by omega⟩]
            have : touched off (done + k) i = true := touched_iff.2 ⟨by omega, by omega, by omega⟩
            rw [this, Bool.or_true]
          · have e1 : prOf h' i = prOf h i := by unfold prOf; rw [p4 i e]
            rw [e1, T.prs i hi]
            congr 1
            cases h9 : touched off done i with
            | true =>
              obtain ⟨h1, h2, h3⟩ := touched_iff.1 h9
              exact (touched_iff.2 ⟨by omega, by omega, h3⟩).symm
            | false =>
              cases h10 : touched off (done + k) i with
              | false => rfl
              | true =>
                obtain ⟨h1, h2, h3⟩ := touched_iff.1 h10
                have : touched off done i = true := touched_iff.2 ⟨by omega, by omega, h3⟩
                rw [this] at h9; cases h9
        · rcases p6 h9 with h10 | h10
          · rcases T.rw h10 with h11 | ⟨i, i1, i2, i3⟩
            · exact .inl h11
            · obtain ⟨h1, h2, h3⟩ := touched_iff.1 i3
              exact .inr ⟨i, i1, i2, touched_iff.2 ⟨by omega, by omega, h3⟩⟩
          · exact .inr ⟨q, h10, hq256, touched_iff.2 ⟨by omega, by omega, by omega⟩⟩
    · obtain rfl : done = d.length := by omega
      refine Does.congr (m' := WM.pure h) (Does.pure T) fun st => if_neg hlt
theorem upO_self {A : Nat → Option AF} (hf : A id = some f) : upO A id (some f) = A := by
  funext b
  by_cases e : b = id
  · subst e; rw [upO_same, hf]
  · exact upO_other _ _ e
theorem AF.wr_nil (f : AF) (off : Nat) {d : List UInt8} (hd : d.length = 0) : f.wr off d = f := by
  obtain ⟨kd, lk, sz, dat, pr⟩ := f
  unfold AF.wr
  rw [if_pos hd, hd]
  congr 1
  · funext p; rw [if_neg (by omega)]
  · funext i
    have : touched off 0 i = false := by unfold touched; simp
    rw [this, Bool.or_false]
theorem Does.writeAt (hr : Rdr ask n V0 I) (hn : n ≤ 3840) (hh : Has n a A k) (hf : A id = some f) (off : Nat) (d : List UInt8) (hd : d.length ≤ 4096) (hm : off + d.length ≤ 122880) :
    Does n V0 I (wwriteAt ask n (id : Int) (off : Int) d) a (fun _ a' => Has n a' (upO A id (some (f.wr off d))) (k + needP f.pr - needP (f.wr off d).pr) ∧ needP (f.wr off d).pr ≤ k + needP f.pr) (fun c => c = 7 ∧ k + needP f.pr < needP (f.wr off d).pr) := by
  have hh0 := hh
  obtain ⟨own, N, S, hk, hA⟩ := hh
  obtain ⟨h, hN, rfl⟩ := Has.at hA hf
  obtain ⟨i0, i1, ho⟩ := S.lay.ok _ _ hN
  obtain ⟨hfin, hs, ht⟩ := S.rest id h (by omega) hN
  have z0 := ho.sz0
  have z1 := ho.sz1
  refine (Does.load hr hn S hN).bind fun x a' e => ?_
  obtain ⟨rfl, rfl⟩ := e
  by_cases hd0 : d.length = 0
  · rw [AF.wr_nil _ _ hd0]
    refine Does.congr (m' := WM.pure ()) (Does.pure ⟨?_, by omega⟩) fun st => (if_pos ⟨by omega, hd, by omega⟩).trans (if_pos hd0)
    rw [upO_self hf, Nat.add_sub_cancel]; exact hh0
  · refine Does.congr (m' := WM.bind (wwr ask n off d d.length 0 x) (wwrE off d)) ?_ fun st => by
      refine ((if_pos ⟨by omega, hd, by omega⟩).trans (if_neg hd0)).trans ?_
      rw [Int.toNat_natCast]
    have hnd : needP (afOf a'.V x).pr = x.nds := (ho.nds hfin).symm
    have W0 : WrI n a' N id (frN own n + x.nds) x off d 0 a' x := ⟨⟨own, N, NodeSt.start S hN⟩, ⟨rfl, rfl, rfl⟩, fun p _ => by rw [if_neg (by omega)], fun i _ => by
      have : touched off 0 i = false := by unfold touched; simp
      rw [this, Bool.or_false], fun h9 => .inl h9⟩
    refine ((Does.wr hr hn hfin off d hm d.length 0 a' x (Nat.zero_le _) (by omega) W0 (fun _ => .inl rfl)).mono (fun _ _ h => h) fun c hc => ⟨hc.1, by rw [hnd, ← hk]; exact hc.2⟩).bind fun h' a'' W => ?_
    · obtain ⟨own', N', T⟩ := W.st
      obtain ⟨s1, s2, s3⟩ := W.same
      obtain ⟨z, hz⟩ : ∃ z, max h'.n.sz ((off + d.length : Nat) : Int) = z := ⟨_, rfl⟩
      show Does n V0 I (wsave (h'.setSz (max h'.n.sz ((off + d.length : Nat) : Int)))) a'' _ _
      rw [hz]
      have hz2 : z = max x.n.sz ((off + d.length : Nat) : Int) := by rw [← hz, s3]
      have ho1 := T.ok
      have ho' : (h'.setSz z).Ok n id := ⟨ho1.fit, ho1.id, ho1.kd, ho1.lk0, ho1.lk1, show 0 ≤ z by omega, show z ≤ 122880 by omega, ho1.rw0, ho1.rw1, ho1.pg, ho1.rz⟩
      have T' := T.set ho' rfl fun _ _ => rfl
      have hfin' : (h'.setSz z).Fin := by
        refine ⟨fun i hi hb => ?_, fun h9 => ?_⟩
        · have hb' : blocksOf z ≤ i := hb
          show h'.page i = 0
          rw [← prOf_false hi, W.prs i hi]
          have e1 : prOf x i = false := (prOf_false hi).2 (hfin.hi i hi (by unfold blocksOf at hb' ⊢; omega))
          have e2 : touched off d.length i = false := by
            cases h9 : touched off d.length i with
            | false => rfl
            | true =>
              obtain ⟨h1, h2, h3⟩ := touched_iff.1 h9
              unfold blocksOf at hb'; omega
          rw [e1, e2]; rfl
        · rcases W.rw h9 with h9 | ⟨i, i1, i2, i3⟩
          · obtain ⟨i, i1, i2, i3⟩ := hfin.rwp h9
            refine ⟨i, i1, i2, ?_⟩
            have : prOf h' i = true := by rw [W.prs i i2, prOf_iff.2 ⟨i2, i3⟩]; rfl
            exact (prOf_iff.1 this).2
          · refine ⟨i, i1, i2, ?_⟩
            have : prOf h' i = true := by rw [W.prs i i2, i3, Bool.or_true]
            exact (prOf_iff.1 this).2
      have hby : ∀ p, p < 122880 → byt a''.V (h'.setSz z) p = ((afOf a'.V x).wr off d).dat p := fun p hp => by
        show byt a''.V h' p = if off ≤ p ∧ p < off + d.length then d.getD (p - off) 0 else if p < 122880 then byt a'.V x p else 0
        rw [W.byts p hp, if_pos hp]
      refine (Does.saveDone T' hn hfin').mono (fun _ b e => ?_) fun _ h => h
      subst e
      have := T'.done hn hfin' (fun p h1 h2 => ?_) hA ((afOf a'.V x).wr off d) s1 s2 ?_ hby (fun p hp => ?_) (fun i hi => W.prs i hi) fun i hi => ?_
      · rw [← hk, hnd]
        refine ⟨this, ?_⟩
        have h1 := T'.cons
        have h2 := ho'.nds hfin'
        have h3 : needP ((afOf a'.V x).wr off d).pr = needP (prOf (h'.setSz z)) := needP_congr fun i hi => (W.prs i hi).symm
        omega
      · have h2' : z ≤ p := h2
        rw [hby p h1]
        show (if off ≤ p ∧ p < off + d.length then d.getD (p - off) 0 else if p < 122880 then byt a'.V x p else 0) = 0
        rw [if_neg (by omega), if_pos h1]
        exact ht p h1 (by omega)
      · show z = (((if d.length = 0 then x.n.sz.toNat else max x.n.sz.toNat (off + d.length)) : Nat) : Int)
        rw [if_neg hd0]; omega
      · show (if off ≤ p ∧ p < off + d.length then d.getD (p - off) 0 else if p < 122880 then byt a'.V x p else 0) = 0
        rw [if_neg (by omega), if_neg (by omega)]
      · show (prOf x i || touched off d.length i) = false
        have e1 : prOf x i = false := by unfold prOf; simp; omega
        have e2 : touched off d.length i = false := by
          cases h9 : touched off d.length i with
          | false => rfl
          | true =>
            obtain ⟨h1, h2, h3⟩ := touched_iff.1 h9
            omega
        rw [e1, e2]; rfl
end
end Go.SL
namespace Go.SL
set_option linter.unusedVariables false
set_option linter.unusedSimpArgs false
open Go.RowKit
/-- What is left of a file that is cut. -/
def AF.cut (f : AF) (size : Nat) : AF := { f with sz := size, dat := fun p => if p < size then f.dat p else 0, pr := fun i => f.pr i && decide (480 * i < size) }
section
variable {σ α : Type} {n id k q K : Nat} {own : Nat → Own} {N N0 : Nat → Option Hd} {h h0 : Hd} {a a0 : Aw} {V0 : Nat → List UInt8} {I : σ → Prop} {ask : Asks σ} {E : Int → Prop} {A : Nat → Option AF} {f : AF}
theorem row_zero (hf : h.fit) : h.row = List.replicate 240 0 ↔ ∀ i, 16 ≤ i → i < 256 → h.page i = 0 := by
  constructor
  · intro e i i1 i2
    unfold Hd.page
    rw [if_neg (by omega), e]
    simp only [List.getD, List.getElem?_replicate]; split <;> rfl
  · intro hz
    rw [List.eq_replicate_iff]
    refine ⟨hf.2, fun x hx => ?_⟩
    obtain ⟨i, hi, rfl⟩ := List.getElem_of_mem hx
    have h240 := hf.2
    have h1 := hz (16 + i) (by omega) (by omega)
    unfold Hd.page at h1
    rw [if_neg (by omega), show 16 + i - 16 = i by omega, List.getD, List.getElem?_eq_getElem hi] at h1
    exact h1
/-- The bytes behind the end of a file's last block. -/
theorem Does.cutF (hr : Rdr ask n V0 I) (T : NodeSt n a0 N0 id K a own N h) {size : Nat} (hs : h.n.sz = (size : Int)) (hs2 : size ≤ 122880) (hp : ∀ i, i < 256 → size ≤ 480 * i → h.page i = 0) :
    Does n V0 I (wcut ask h) a (fun _ a' => NodeSt n a0 N0 id K a' own N h ∧ ∀ p, p < 122880 → byt a'.V h p = if p < size then byt a.V h p else 0) E := by
  have e1 : (h.n.sz / 480).toNat = size / 480 := by rw [hs]; omega
  have e2 : (h.n.sz % 480).toNat = size % 480 := by rw [hs]; omega
  have hpz : ∀ p, p < 122880 → ¬ p < size → p / 480 ≠ size / 480 ∨ size % 480 = 0 → h.page (p / 480) = 0 := fun p h1 h2 h3 => hp _ (by omega) (by omega)
  by_cases h1 : h.n.sz % 480 = 0
  · refine Does.congr (m' := WM.pure ()) (Does.pure ⟨T, fun p h2 => ?_⟩) fun st => if_pos h1
    split
    · rfl
    · rename_i h3
      unfold byt
      rw [if_pos (hpz p h2 h3 (.inr (by omega)))]
  · by_cases h2 : h.page (h.n.sz / 480).toNat = 0
    · refine Does.congr (m' := WM.pure ()) (Does.pure ⟨T, fun p h3 => ?_⟩) fun st => (if_neg h1).trans (if_pos h2)
      split
      · rfl
      · rename_i h4
        unfold byt
        rw [if_pos]
        by_cases h5 : p / 480 = size / 480
        · rw [h5, ← e1]; exact h2
        · exact hpz p h3 h4 (.inl h5)
    · have h2' := h2
      rw [e1] at h2'
      have hq : size / 480 < 256 := by omega
      have hpg := T.ok.pg _ hq
      obtain ⟨b, hb⟩ : ∃ b : Nat, h.page (size / 480) = (b : Int) := ⟨(h.page (size / 480)).toNat, by omega⟩
      refine Does.congr (m' := WM.bind (wread ask (b : Int)) fun L => wwrite (b : Int) (putAt L (size % 480) (zs (480 - size % 480)))) ?_ fun st => by
        refine ((if_neg h1).trans (if_neg h2)).trans ?_
        rw [e1, e2, hb]; rfl
      refine (Does.read hr (by omega) (by omega)).bind fun L a' e => ?_
      obtain ⟨rfl, hL, e3⟩ := e
      rw [e3]
      have hzl : (zs (480 - size % 480)).length = 480 - size % 480 := length_zs _
      have hpl : (putAt (a.V b) (size % 480) (zs (480 - size % 480))).length = 480 := by rw [putAt_length (by rw [hzl, hL]; omega)]; exact hL
      obtain ⟨T2, hby⟩ := T.writePage hq hb (by omega) hpl
      refine (Does.write (by omega) (by omega) hpl).mono (fun _ a'' e => ?_) fun _ h => h
      subst e
      refine ⟨T2, fun p h3 => ?_⟩
      show byt (upV a.V b _) h p = _
      rw [hby p h3]
      by_cases h4 : p / 480 = size / 480
      · rw [if_pos h4, putAt_getD (by rw [hzl, hL]; omega), hzl]
        by_cases h5 : p < size
        · rw [if_neg (by omega), if_pos h5]
          unfold byt
          rw [h4, if_neg h2', hb, Int.toNat_natCast]
        · rw [if_pos (by omega), if_neg h5, zs_getD]
      · rw [if_neg h4]
        split
        · rfl
        · rename_i h5
          unfold byt
          rw [if_pos (hpz p h3 h5 (.inl h4))]
/-- Pages that are given up, so far. -/
structure TrI (n : Nat) (a0 : Aw) (N0 : Nat → Option Hd) (id K : Nat) (h0 : Hd) (bl k : Nat) (a : Aw) (h : Hd) : Prop where
  st : ∃ own N, NodeSt n a0 N0 id K a own N h
  V : a.V = a0.V
  same : sameF h h0
  rw : h.n.rw = h0.n.rw
  pg : ∀ i, i < 256 → h.page i = if bl ≤ i ∧ i < k then 0 else h0.page i
/-- What Truncate comes to. -/
def CutP (n : Nat) (id K : Nat) (A : Nat → Option AF) (f : AF) (size : Nat) (a' : Aw) : Prop := Has n a' (upO A id (some (f.cut size))) (K - needP (f.cut size).pr)
theorem Does.tr2 (hr : Rdr ask n V0 I) (hn : n ≤ 3840) {size : Nat} (hs : size ≤ 122880) (hA : ∀ id, A id = (N0 id).map (afOf a0.V)) (T : NodeSt n a0 N0 id K a own N h) (hV : a.V = a0.V) (hsame : h.n.kd = h0.n.kd ∧ h.n.lk = h0.n.lk ∧ h.n.sz = (size : Int))
    (hpg : ∀ i, i < 256 → h.page i = if (blocksOf size).toNat ≤ i ∧ i < 256 then 0 else h0.page i) (hrw : h.n.rw ≠ 0 → ∃ i, 16 ≤ i ∧ i < 256 ∧ h.page i ≠ 0) :
    Does n V0 I (wtr2 ask h) a (fun _ a' => CutP n id K A (afOf a0.V h0) size a') E := by
  have hbl : (blocksOf size).toNat = (size + 479) / 480 := by unfold blocksOf; omega
  have hp : ∀ i, i < 256 → size ≤ 480 * i → h.page i = 0 := fun i h1 h2 => by rw [hpg i h1, if_pos ⟨by omega, h1⟩]
  have hfin : h.Fin := ⟨fun i hi hb => hp i hi (by rw [hsame.2.2] at hb; unfold blocksOf at hb; omega), hrw⟩
  refine (Does.cutF hr T hsame.2.2 hs hp).bind fun _ a1 e => ?_
  obtain ⟨T1, hb⟩ := e
  refine (Does.saveDone T1 hn hfin).mono (fun _ a2 e => ?_) fun _ h => h
  subst e
  have hsz : (afOf a0.V h0).sz = h0.n.sz.toNat := rfl
  refine T1.done hn hfin (fun p h1 h2 => ?_) hA ((afOf a0.V h0).cut size) hsame.1 hsame.2.1 hsame.2.2 (fun p h1 => ?_) (fun p h1 => ?_) (fun i hi => ?_) fun i hi => ?_
  · rw [hb p h1, if_neg (by rw [hsame.2.2] at h2; omega)]
  · rw [hb p h1]
    show _ = if p < size then (if p < 122880 then byt a0.V h0 p else 0) else 0
    rw [if_pos h1]
    split
    · rename_i h2
      rw [hV]
      refine byt_page ?_
      rw [hpg _ (by omega), if_neg (by omega)]
    · rfl
  · show (if p < size then (if p < 122880 then byt a0.V h0 p else 0) else 0) = 0
    rw [if_neg (by omega)]
  · show prOf h i = (prOf h0 i && decide (480 * i < size))
    unfold prOf
    rw [hpg i hi]
    by_cases h2 : (blocksOf size).toNat ≤ i
    · rw [if_pos ⟨h2, hi⟩, decide_eq_false (show ¬ 480 * i < size by omega)]; simp
    · rw [if_neg (by omega), decide_eq_true (show 480 * i < size by omega), Bool.and_true]
  · show (prOf h0 i && decide (480 * i < size)) = false
    unfold prOf; simp; omega
theorem Does.trL (hr : Rdr ask n V0 I) (hn : n ≤ 3840) (hn0 : 0 < n) {size : Nat} (hs : size ≤ 122880) (hA : ∀ id, A id = (N0 id).map (afOf a0.V)) (hfin0 : h0.Fin) : ∀ (j : Nat) (a : Aw) (h : Hd), j ≤ 256 - (blocksOf size).toNat → TrI n a0 N0 id K h0 (blocksOf size).toNat (256 - j) a h →
    Does n V0 I (wtrL ask size j h) a (fun _ a' => CutP n id K A (afOf a0.V h0) size a') E := by
  have hbl : (blocksOf size).toNat = (size + 479) / 480 := by unfold blocksOf; omega
  intro j
  induction j with
  | zero =>
    intro a h _ T
    obtain ⟨own, N, T0⟩ := T.st
    have ho := T0.ok
    obtain ⟨s1, s2, s3⟩ := T.same
    by_cases hc : h.n.rw ≠ 0 ∧ h.row = List.replicate 240 0
    · obtain ⟨h1, h2⟩ := hc
      have hz := (row_zero ho.fit).1 h2
      have T1 := T0.freeRow hn h1 hz
      refine Does.congr (m' := WM.bind (wmark ask h.n.rw.toNat false) fun _ => wtr2 ask ((h.setRw 0).setSz size)) ?_ fun st => if_pos ⟨h1, h2⟩
      refine (Does.mark hr hn0).bind fun _ a' e => ?_
      subst e
      have ho1 := T1.ok
      have T2 := T1.set (h' := (h.setRw 0).setSz size) ⟨ho1.fit, ho1.id, ho1.kd, ho1.lk0, ho1.lk1, show (0 : Int) ≤ (size : Int) by omega, show (size : Int) ≤ 122880 by omega, ho1.rw0, ho1.rw1, ho1.pg, ho1.rz⟩ rfl fun _ _ => rfl
      exact Does.tr2 hr hn hs hA T2 T.V ⟨s1, s2, rfl⟩ T.pg fun h9 => absurd rfl h9
    · refine Does.congr (m' := wtr2 ask (h.setSz size)) ?_ fun st => if_neg hc
      have T2 := T0.set (h' := h.setSz size) ⟨ho.fit, ho.id, ho.kd, ho.lk0, ho.lk1, show (0 : Int) ≤ (size : Int) by omega, show (size : Int) ≤ 122880 by omega, ho.rw0, ho.rw1, ho.pg, ho.rz⟩ rfl fun _ _ => rfl
      refine Does.tr2 hr hn hs hA T2 T.V ⟨s1, s2, rfl⟩ T.pg fun h9 => ?_
      have h10 : h.n.rw ≠ 0 := h9
      have h11 : ¬ ∀ i, 16 ≤ i → i < 256 → h.page i = 0 := fun hz => hc ⟨h10, (row_zero ho.fit).2 hz⟩
      refine Classical.byContradiction fun h12 => h11 fun i i1 i2 => Classical.byContradiction fun h13 => h12 ⟨i, i1, i2, h13⟩
  | succ j ih =>
    intro a h hj T
    obtain ⟨own, N, T0⟩ := T.st
    obtain ⟨k, hk⟩ : ∃ k, 256 - (j + 1) = k := ⟨_, rfl⟩
    have hk256 : k < 256 := by omega
    have hkb : (blocksOf size).toNat ≤ k := by omega
    rw [hk] at T
    by_cases h1 : h.page k = 0
    · refine Does.congr (m' := wtrL ask size j h) ?_ fun st => if_pos (by rw [hk]; exact h1)
      refine ih a h (by omega) ⟨T.st, T.V, T.same, T.rw, fun i hi => ?_⟩
      rw [T.pg i hi, show 256 - j = k + 1 by omega]
      by_cases e : i = k
      · subst e
        have := T.pg i hi
        rw [if_neg (by omega), h1] at this
        rw [if_neg (by omega), if_pos ⟨hkb, by omega⟩]; exact this.symm
      · by_cases h2 : (blocksOf size).toNat ≤ i ∧ i < k
        · rw [if_pos h2, if_pos ⟨h2.1, by omega⟩]
        · rw [if_neg h2, if_neg (by omega)]
    · refine Does.congr (m' := WM.bind (wmark ask (h.page k).toNat false) fun _ => wtrL ask size j (h.put k 0)) ?_ fun st => by
        refine (if_neg (by rw [hk]; exact h1)).trans ?_
        rw [hk]
      refine (Does.mark hr hn0).bind fun _ a' e => ?_
      subst e
      have T1 := T0.freePage hn hk256 h1
      obtain ⟨s1, s2, s3⟩ := put_sameF h k 0
      obtain ⟨t1, t2, t3⟩ := T.same
      refine ih _ (h.put k 0) (by omega) ⟨⟨_, _, T1⟩, T.V, ⟨s1.trans t1, s2.trans t2, s3.trans t3⟩, by rw [Hd.put_rw]; exact T.rw, fun i hi => ?_⟩
      rw [Hd.page_put T0.ok.fit hk256, show 256 - j = k + 1 by omega]
      by_cases e : i = k
      · subst e; rw [if_pos rfl, if_pos ⟨hkb, by omega⟩]
      · rw [if_neg e, T.pg i hi]
        by_cases h2 : (blocksOf size).toNat ≤ i ∧ i < k
        · rw [if_pos h2, if_pos ⟨h2.1, by omega⟩]
        · rw [if_neg h2, if_neg (by omega)]
theorem Does.trunc (hr : Rdr ask n V0 I) (hn : n ≤ 3840) (hh : Has n a A k) (hf : A id = some f) (size : Nat) (hs : size ≤ 122880) :
    Does n V0 I (wtrunc ask n (id : Int) (size : Int)) a (fun _ a' => CutP n id (k + needP f.pr) A f size a') E := by
  obtain ⟨own, N, S, hk, hA⟩ := hh
  obtain ⟨h, hN, rfl⟩ := Has.at hA hf
  obtain ⟨i0, i1, ho⟩ := S.lay.ok _ _ hN
  obtain ⟨hfin, hsv, ht⟩ := S.rest id h (by omega) hN
  refine (Does.load hr hn S hN).bind fun x a' e => ?_
  obtain ⟨rfl, rfl⟩ := e
  have hnd : needP (afOf a'.V x).pr = x.nds := (ho.nds hfin).symm
  have hbl : (blocksOf size).toNat = (size + 479) / 480 := by unfold blocksOf; omega
  refine Does.congr (m' := wtrL ask size (256 - (blocksOf size).toNat) x) ?_ fun st => if_pos ⟨by omega, by omega⟩
  rw [hnd, ← hk]
  refine Does.trL hr hn (by omega) hs hA hfin (256 - (blocksOf size).toNat) a' x (by omega) ⟨⟨own, N, NodeSt.start S hN⟩, rfl, ⟨rfl, rfl, rfl⟩, rfl, fun i hi => ?_⟩
  rw [if_neg (by omega)]
/-- Pages of a file that goes. -/
theorem Does.freeP (hr : Rdr ask n V0 I) (hn : n ≤ 3840) (hn0 : 0 < n) {P : Unit → Aw → Prop} (hfit : h0.fit) (hP : ∀ a own N h, NodeSt n a0 N0 id K a own N h → a.V = a0.V → h.n.rw = h0.n.rw → (∀ i, i < 256 → h.page i = 0) → P () a) :
    ∀ (j : Nat) (a : Aw) (own : Nat → Own) (N : Nat → Option Hd) (h : Hd), j ≤ 256 → NodeSt n a0 N0 id K a own N h → a.V = a0.V → h.n.rw = h0.n.rw → (∀ i, i < 256 → h.page i = if i < 256 - j then 0 else h0.page i) → Does n V0 I (wfreeP ask (h0.pages.drop (256 - j))) a P E := by
  intro j
  induction j with
  | zero =>
    intro a own N h _ T hV hrw hp
    rw [List.drop_of_length_le (by rw [Hd.pages_length hfit]; omega)]
    exact Does.pure (hP a own N h T hV hrw fun i hi => by rw [hp i hi, if_pos (by omega)])
  | succ j ih =>
    intro a own N h hj T hV hrw hp
    obtain ⟨k, hk⟩ : ∃ k, 256 - (j + 1) = k := ⟨_, rfl⟩
    have hk256 : k < 256 := by omega
    rw [hk] at hp ⊢
    rw [Hd.drop_pages hfit hk256]
    have hpk := hp k hk256
    rw [if_neg (by omega)] at hpk
    have e1 : k + 1 = 256 - j := by omega
    by_cases h1 : h0.page k = 0
    · refine Does.congr (m' := wfreeP ask (h0.pages.drop (k + 1))) ?_ fun st => if_pos h1
      rw [e1]
      refine ih a own N h (by omega) T hV hrw fun i hi => ?_
      rw [hp i hi]
      by_cases e : i = k
      · subst e; rw [if_neg (by omega), if_pos (by omega), h1]
      · by_cases h2 : i < k
        · rw [if_pos h2, if_pos (by omega)]
        · rw [if_neg h2, if_neg (by omega)]
    · refine Does.congr (m' := WM.bind (wmark ask (h0.page k).toNat false) fun _ => wfreeP ask (h0.pages.drop (k + 1))) ?_ fun st => if_neg h1
      refine (Does.mark hr hn0).bind fun _ a' e => ?_
      subst e
      rw [← hpk, e1]
      refine ih _ _ _ (h.put k 0) (by omega) (T.freePage hn hk256 (by rw [hpk]; exact h1)) hV (by rw [Hd.put_rw]; exact hrw) fun i hi => ?_
      rw [Hd.page_put T.ok.fit hk256]
      by_cases e : i = k
      · subst e; rw [if_pos rfl, if_pos (by omega)]
      · rw [if_neg e, hp i hi]
        by_cases h2 : i < k
        · rw [if_pos h2, if_pos (by omega)]
        · rw [if_neg h2, if_neg (by omega)]
theorem nds_none (hp : ∀ i, i < 256 → h.page i = 0) (hr : h.n.rw = 0) : h.nds = 1 := by
  unfold Hd.nds
  have e : cntP (prOf h) = 0 := by
    unfold cntP
    rw [List.countP_eq_zero]
    intro i hi h9
    exact (prOf_iff.1 h9).2 (hp i (List.mem_range.1 hi))
  rw [e, if_pos hr]
/-- A node that has nothing any more goes. -/
theorem NodeSt.gone (T : NodeSt n a0 N0 id K a own N h) (hn : n ≤ 3840) (hV : a.V = a0.V) (hA : ∀ id, A id = (N0 id).map (afOf a0.V)) (hr0 : h.n.rw = 0) (hp : ∀ i, i < 256 → h.page i = 0) : Has n { a with B := setTo a.B id false } (upO A id none) K := by
  obtain ⟨i0, i1, ho⟩ := T.sp.lay.ok _ _ T.hN
  refine ⟨upO own id frO, upO N id none, (T.sp.step (T.sp.lay.gone T.hN hr0 hp) (T.sp.bm.set hn i1 _ _ (by simp)) fun id' hne => upO_other _ _ hne).shut fun g hg => (by rw [upO_same] at hg; cases hg), ?_, fun id' => ?_⟩
  · have := frN_upd (own := own) (x := frO) i1
    rw [T.sp.lay.ownId T.hN, if_pos rfl, if_neg (by simp)] at this
    have h1 := T.cons
    rw [nds_none hp hr0] at h1
    omega
  · by_cases e : id' = id
    · subst e; rw [upO_same, upO_same]; rfl
    · rw [upO_other _ _ e, upO_other _ _ e, hA id', ← T.oth id' e]
      show _ = (N id').map (afOf a.V)
      rw [hV]
theorem Does.free (hr : Rdr ask n V0 I) (hn : n ≤ 3840) (hh : Has n a A k) (hf : A id = some f) :
    Does n V0 I (wfree ask n (id : Int)) a (fun _ a' => Has n a' (upO A id none) (k + needP f.pr)) E := by
  obtain ⟨own, N, S, hk, hA⟩ := hh
  obtain ⟨h, hN, rfl⟩ := Has.at hA hf
  obtain ⟨i0, i1, ho⟩ := S.lay.ok _ _ hN
  obtain ⟨hfin, hsv, ht⟩ := S.rest id h (by omega) hN
  refine (Does.load hr hn S hN).bind fun x a' e => ?_
  obtain ⟨rfl, rfl⟩ := e
  have hnd : needP (afOf a'.V x).pr = x.nds := (ho.nds hfin).symm
  rw [hnd, ← hk]
  refine Does.bind (P := fun _ a'' => ∃ own' N' h', NodeSt n a' N id (frN own n + x.nds) a'' own' N' h' ∧ a''.V = a'.V ∧ h'.n.rw = x.n.rw ∧ ∀ i, i < 256 → h'.page i = 0) ?_ fun _ a'' e => ?_
  · have := Does.freeP (E := E) hr hn (by omega) (P := fun _ a'' => ∃ own' N' h', NodeSt n a' N id (frN own n + x.nds) a'' own' N' h' ∧ a''.V = a'.V ∧ h'.n.rw = x.n.rw ∧ ∀ i, i < 256 → h'.page i = 0) ho.fit
      (fun a own N h T hV hrw hp => ⟨own, N, h, T, hV, hrw, hp⟩) 256 a' own N x (Nat.le_refl _) (NodeSt.start S hN) rfl rfl fun i hi => by rw [if_neg (by omega)]
    rw [Nat.sub_self, List.drop_zero] at this
    exact this
  · obtain ⟨own', N', h', T, hV, hrw, hp⟩ := e
    have hid := ho.id
    by_cases h0 : x.n.rw = 0
    · refine Does.congr (m' := wmark ask x.id false) ?_ fun st => if_pos h0
      rw [hid]
      refine (Does.mark hr (by omega)).mono (fun _ a3 e => ?_) fun _ h => h
      subst e
      exact T.gone hn hV hA (by rw [hrw]; exact h0) hp
    · refine Does.congr (m' := WM.bind (wmark ask x.n.rw.toNat false) fun _ => wmark ask x.id false) ?_ fun st => if_neg h0
      rw [hid]
      refine (Does.mark hr (by omega)).bind fun _ a3 e => ?_
      subst e
      refine (Does.mark hr (by omega)).mono (fun _ a4 e => ?_) fun _ h => h
      subst e
      have T2 := T.freeRow hn (by rw [hrw]; exact h0) fun i _ hi => hp i hi
      rw [hrw] at T2
      exact T2.gone hn hV hA rfl hp
end
end Go.SL
namespace Go.SL
set_option linter.unusedVariables false
set_option linter.unusedSimpArgs false
open Go.RowKit
section
variable {σ α : Type} {n id k : Nat} {own : Nat → Own} {N : Nat → Option Hd} {a a' : Aw} {V0 : Nat → List UInt8} {I : σ → Prop} {ask : Asks σ} {E : Int → Prop} {P : α → Aw → Prop} {A : Nat → Option AF} {f : AF} {M : Bst σ} {m : WM σ α}
theorem Has.congr (h : Has n a A k) (hV : ∀ i, 0 < i → i < n → a'.V i = a.V i) (hB : a'.B = a.B) : Has n a' A k := by
  obtain ⟨own, N, S, hk, hA⟩ := h
  have key : ∀ id g, N id = some g → (∀ b, b = id ∨ own b = rwO id → a'.V b = a.V b) ∧ ∀ b i, own b = pgO id i → a'.V b = a.V b := by
    intro id g hg
    obtain ⟨i0, i1, ho⟩ := S.lay.ok _ _ hg
    have hlt : ∀ b, own b ≠ frO → own b ≠ bmO → a'.V b = a.V b := fun b h1 h2 => by
      refine hV b ?_ ?_
      · rcases Nat.eq_zero_or_pos b with e | e
        · subst e; exact absurd S.lay.zero h2
        · exact e
      · refine Nat.lt_of_not_le fun h9 => h1 (S.lay.out b h9)
    refine ⟨fun b hb => ?_, fun b i hb => hlt b (by rw [hb]; simp) (by rw [hb]; simp)⟩
    rcases hb with rfl | hb
    · exact hV b i0 i1
    · exact hlt b (by rw [hb]; simp) (by rw [hb]; simp)
  refine ⟨own, N, ⟨S.lay, by rw [hB]; exact S.bm, fun b h0 hb => by rw [hV b h0 hb]; exact S.len b h0 hb, fun id g hne hg => ?_⟩, hk, fun id => ?_⟩
  · obtain ⟨h1, h2, h3⟩ := S.rest id g hne hg
    exact ⟨h1, h2.frame S.lay hg (key id g hg).1, h3.frame S.lay hg (key id g hg).2⟩
  · rw [hA id]
    cases hg : N id with
    | none => rfl
    | some g =>
      show some (afOf a.V g) = some (afOf a'.V g)
      congr 1
      unfold afOf
      congr 1
      funext p
      split
      · rename_i hp; exact (byt_frame S.lay hg (key id g hg).2 hp).symm
      · rfl
/-- A batch that has a space. -/
structure Abs (n : Nat) (V0 : Nat → List UInt8) (I : σ → Prop) (M : Bst σ) (A : Nat → Option AF) (k : Nat) : Prop where
  good : Good n V0 I M
  has : Has n (awOf V0 M) A k
theorem Abs.reader (h : Abs n V0 I M A k) {s : σ} (hs : I s) : Abs n V0 I { M with s := s } A k := ⟨⟨h.good.err, hs, h.good.wr, h.good.rd, h.good.keys⟩, h.has⟩
theorem Abs.run (hr : Rdr ask n V0 I) (h0 : 0 < n) (h : Abs n V0 I M A k) (hD : Does n V0 I m (awOf V0 M) P E) :
    (∃ x M' a', wrun m M = (.ok x, M') ∧ P x a' ∧ ∀ A' k', Has n a' A' k' → Abs n V0 I M' A' k') ∨ ∃ c s', wrun m M = (.bad c, { M with s := s' }) ∧ E c ∧ Abs n V0 I { M with s := s' } A k := by
  rcases Does.run hr h0 h.good hD with ⟨x, M', a', h1, h2, h3, h4, h5⟩ | ⟨c, s', h1, h2, h3⟩
  · exact .inl ⟨x, M', a', h1, h3, fun A' k' hh => ⟨h2, hh.congr h5 h4⟩⟩
  · exact .inr ⟨c, s', h1, h3, h.reader h2⟩
theorem Abs.wf (h : Abs n V0 I M A k) (hf : A id = some f) : f.Wf ∧ 0 < id ∧ id < n := h.has.wf hf
variable (hr : Rdr ask n V0 I) (h0 : 0 < n) (hn : n ≤ 3840)
include hr h0
/-- Format. -/
theorem abs_format (h4 : 4 ≤ n) (hn : n ≤ 3840) (hM : Good n V0 I M) : ∃ M', wrun (wformat ask) M = (.ok (), M') ∧ Abs n V0 I M' (fun id => if id = 1 then some (newF 2) else none) (n - 2) := by
  rcases Does.run hr h0 hM (Does.format (E := fun _ => False) hr h4 hn fun b _ hb => hM.vlen hr hb) with ⟨x, M', a', h1, h2, h3, h4, h5⟩ | ⟨c, s', h1, h2, h3⟩
  · exact ⟨M', h1, h2, h3.congr h5 h4⟩
  · exact h3.elim
include hn
theorem abs_node (h : Abs n V0 I M A k) (hf : A id = some f) : ∃ x M', wrun (wnode ask n (id : Int)) M = (.ok x, M') ∧ x.kd = f.kd ∧ x.lk = f.lk ∧ x.sz = f.sz ∧ Abs n V0 I M' A k := by
  rcases h.run hr h0 (Does.node (E := fun _ => False) hr hn h.has hf) with ⟨x, M', a', h1, ⟨h2, h3, h4, h5⟩, h6⟩ | ⟨c, s', h1, h2, h3⟩
  · exact ⟨x, M', h1, h2, h3, h4, h6 _ _ (by rw [h5]; exact h.has)⟩
  · exact h2.elim
theorem abs_need (h : Abs n V0 I M A k) (hf : A id = some f) : ∃ M', wrun (wneedb ask n (id : Int)) M = (.ok (needP f.pr), M') ∧ Abs n V0 I M' A k := by
  rcases h.run hr h0 (Does.need (E := fun _ => False) hr hn h.has hf) with ⟨x, M', a', h1, ⟨h2, h5⟩, h6⟩ | ⟨c, s', h1, h2, h3⟩
  · exact ⟨M', by rw [h1, h2], h6 _ _ (by rw [h5]; exact h.has)⟩
  · exact h2.elim
theorem abs_readAt (h : Abs n V0 I M A k) (hf : A id = some f) (off cnt : Nat) : ∃ M', wrun (wreadAt ask n (id : Int) (off : Int) (cnt : Int)) M = (.ok (f.sub off cnt), M') ∧ Abs n V0 I M' A k := by
  rcases h.run hr h0 (Does.readAt (E := fun _ => False) hr hn h.has hf off cnt) with ⟨x, M', a', h1, ⟨h2, h5⟩, h6⟩ | ⟨c, s', h1, h2, h3⟩
  · exact ⟨M', by rw [h1, h2], h6 _ _ (by rw [h5]; exact h.has)⟩
  · exact h2.elim
theorem abs_new (h : Abs n V0 I M A k) {kd : Int} (hkd : kd = 1 ∨ kd = 2) :
    (∃ id M', wrun (wnew ask n kd) M = (.ok id, M') ∧ A id = none ∧ 0 < id ∧ id < n ∧ 0 < k ∧ Abs n V0 I M' (upO A id (some (newF kd))) (k - 1)) ∨ (∃ s', wrun (wnew ask n kd) M = (.bad 7, { M with s := s' }) ∧ k = 0 ∧ Abs n V0 I { M with s := s' } A k) := by
  rcases h.run hr h0 (Does.new hr h0 hn h.has hkd) with ⟨x, M', a', h1, ⟨h2, h3, h4, h5, h6⟩, h7⟩ | ⟨c, s', h1, ⟨rfl, h2⟩, h3⟩
  · exact .inl ⟨x, M', h1, h2, h3, h4, h5, h7 _ _ h6⟩
  · exact .inr ⟨s', h1, h2, h3⟩
theorem abs_links (h : Abs n V0 I M A k) (hf : A id = some f) (d : Int) :
    (∃ M', wrun (wlinks ask n (id : Int) d) M = (.ok (), M') ∧ (0 ≤ wrap64 (f.lk + d) ∧ wrap64 (f.lk + d) ≤ 65535) ∧ Abs n V0 I M' (upO A id (some { f with lk := wrap64 (f.lk + d) })) k) ∨
    (∃ s', wrun (wlinks ask n (id : Int) d) M = (.bad 1, { M with s := s' }) ∧ ¬ (0 ≤ wrap64 (f.lk + d) ∧ wrap64 (f.lk + d) ≤ 65535) ∧ Abs n V0 I { M with s := s' } A k) := by
  rcases h.run hr h0 (Does.links hr hn h.has hf d) with ⟨x, M', a', h1, ⟨h2, h3⟩, h7⟩ | ⟨c, s', h1, ⟨rfl, h2⟩, h3⟩
  · exact .inl ⟨M', h1, h2, h7 _ _ h3⟩
  · exact .inr ⟨s', h1, h2, h3⟩
theorem abs_trunc (h : Abs n V0 I M A k) (hf : A id = some f) (size : Nat) (hs : size ≤ 122880) :
    ∃ M', wrun (wtrunc ask n (id : Int) (size : Int)) M = (.ok (), M') ∧ Abs n V0 I M' (upO A id (some (f.cut size))) (k + needP f.pr - needP (f.cut size).pr) := by
  rcases h.run hr h0 (Does.trunc (E := fun _ => False) hr hn h.has hf size hs) with ⟨x, M', a', h1, h2, h6⟩ | ⟨c, s', h1, h2, h3⟩
  · exact ⟨M', h1, h6 _ _ h2⟩
  · exact h2.elim
theorem abs_free (h : Abs n V0 I M A k) (hf : A id = some f) : ∃ M', wrun (wfree ask n (id : Int)) M = (.ok (), M') ∧ Abs n V0 I M' (upO A id none) (k + needP f.pr) := by
  rcases h.run hr h0 (Does.free (E := fun _ => False) hr hn h.has hf) with ⟨x, M', a', h1, h2, h6⟩ | ⟨c, s', h1, h2, h3⟩
  · exact ⟨M', h1, h6 _ _ h2⟩
  · exact h2.elim
theorem abs_writeAt (h : Abs n V0 I M A k) (hf : A id = some f) (off : Nat) (d : List UInt8) (hd : d.length ≤ 4096) (hm : off + d.length ≤ 122880) :
    (∃ M', wrun (wwriteAt ask n (id : Int) (off : Int) d) M = (.ok (), M') ∧ needP (f.wr off d).pr ≤ k + needP f.pr ∧ Abs n V0 I M' (upO A id (some (f.wr off d))) (k + needP f.pr - needP (f.wr off d).pr)) ∨
    (∃ s', wrun (wwriteAt ask n (id : Int) (off : Int) d) M = (.bad 7, { M with s := s' }) ∧ k + needP f.pr < needP (f.wr off d).pr ∧ Abs n V0 I { M with s := s' } A k) := by
  rcases h.run hr h0 (Does.writeAt hr hn h.has hf off d hd hm) with ⟨x, M', a', h1, ⟨h2, h3⟩, h7⟩ | ⟨c, s', h1, ⟨rfl, h2⟩, h3⟩
  · exact .inl ⟨M', h1, h3, h7 _ _ h2⟩
  · exact .inr ⟨s', h1, h2, h3⟩
omit hn in
theorem abs_left (h : Abs n V0 I M A k) : ∃ M', wrun (wleft ask n) M = (.ok k, M') ∧ Abs n V0 I M' A k := by
  rcases h.run hr h0 (Does.left (E := fun _ => False) hr h0 h.has) with ⟨x, M', a', h1, ⟨h2, h5⟩, h6⟩ | ⟨c, s', h1, h2, h3⟩
  · exact ⟨M', by rw [h1, h2], h6 _ _ (by rw [h5]; exact h.has)⟩
  · exact h2.elim
end
end Go.SL

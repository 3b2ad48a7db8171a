/- file, plainly: Truncate, Free. -/
import Derived.Test.YtaoohjeaaccnfaaYg
namespace Go.SL
set_option linter.unusedVariables false
set_option linter.unusedSimpArgs false
open Go.RowKit
/-- What is left of a file that is cut. -/
def AF.cut (f : AF) (size : Nat) : AF := { f with sz := size, dat := fun p => if p < size then f.dat p else 0, pr := fun i => f.pr i && decide (480 * i < size) }
section
variable {σ α : Type} {n id k q K : Nat} {own : Nat → Own} {N N0 : Nat → Option Hd} {h h0 : Hd} {a a0 : Aw} {V0 : Nat → List UInt8} {I : σ → Prop} {ask : Asks σ} {E : Int → Prop} {A : Nat → Option AF} {f : AF}
theorem row_zero (hf : h.fit) : h.row = List.replicate 240 0 ↔ ∀ i, 16 ≤ i → i < 256 → h.page i = 0 := by
  constructor
  · intro e i i1 i2
    unfold Hd.page
    rw [if_neg (by omega), e]
    simp only [List.getD, List.getElem?_replicate]; split <;> rfl
  · intro hz
    rw [List.eq_replicate_iff]
    refine ⟨hf.2, fun x hx => ?_⟩
    obtain ⟨i, hi, rfl⟩ := List.getElem_of_mem hx
    have h240 := hf.2
    have h1 := hz (16 + i) (by omega) (by omega)
    unfold Hd.page at h1
    rw [if_neg (by omega), show 16 + i - 16 = i by omega, List.getD, List.getElem?_eq_getElem hi] at h1
    exact h1
/-- The bytes behind the end of a file's last block. -/
theorem Does.cutF (hr : Rdr ask n V0 I) (T : NodeSt n a0 N0 id K a own N h) {size : Nat} (hs : h.n.sz = (size : Int)) (hs2 : size ≤ 122880) (hp : ∀ i, i < 256 → size ≤ 480 * i → h.page i = 0) :
    Does n V0 I (wcut ask h) a (fun _ a' => NodeSt n a0 N0 id K a' own N h ∧ ∀ p, p < 122880 → byt a'.V h p = if p < size then byt a.V h p else 0) E := by
  have e1 : (h.n.sz / 480).toNat = size / 480 := by rw [hs]; omega
  have e2 : (h.n.sz % 480).toNat = size % 480 := by rw [hs]; omega
  have hpz : ∀ p, p < 122880 → ¬ p < size → p / 480 ≠ size / 480 ∨ size % 480 = 0 → h.page (p / 480) = 0 := fun p h1 h2 h3 => hp _ (by omega) (by omega)
  by_cases h1 : h.n.sz % 480 = 0
  · refine Does.congr (m' := WM.pure ()) (Does.pure ⟨T, fun p h2 => ?_⟩) fun st => if_pos h1
    split
    · rfl
    · rename_i h3
      unfold byt
      rw [if_pos (hpz p h2 h3 (.inr (by omega)))]
  · by_cases h2 : h.page (h.n.sz / 480).toNat = 0
    · refine Does.congr (m' := WM.pure ()) (Does.pure ⟨T, fun p h3 => ?_⟩) fun st => (if_neg h1).trans (if_pos h2)
      split
      · rfl
      · rename_i h4
        unfold byt
        rw [if_pos]
        by_cases h5 : p / 480 = size / 480
        · rw [h5, ← e1]; exact h2
        · exact hpz p h3 h4 (.inl h5)
    · have h2' := h2
      rw [e1] at h2'
      have hq : size / 480 < 256 := by omega
      have hpg := T.ok.pg _ hq
      obtain ⟨b, hb⟩ : ∃ b : Nat, h.page (size / 480) = (b : Int) := ⟨(h.page (size / 480)).toNat, by omega⟩
      refine Does.congr (m' := wread ask (b : Int) ⇝ fun L => wwrite (b : Int) (putAt L (size % 480) (zs (480 - size % 480)))) ?_ fun st => by
        refine ((if_neg h1).trans (if_neg h2)).trans ?_
        rw [e1, e2, hb]; rfl
      refine (Does.read hr (by omega) (by omega)).bind fun L a' e => ?_
      obtain ⟨rfl, hL, e3⟩ := e
      rw [e3]
      have hzl : (zs (480 - size % 480)).length = 480 - size % 480 := length_zs _
      have hpl : (putAt (a.V b) (size % 480) (zs (480 - size % 480))).length = 480 := by rw [putAt_length (by rw [hzl, hL]; omega)]; exact hL
      obtain ⟨T2, hby⟩ := T.writePage hq hb (by omega) hpl
      refine (Does.write (by omega) hpl).mono (fun _ a'' e => ?_) fun _ h => h
      subst e
      refine ⟨T2, fun p h3 => ?_⟩
      show byt (upV a.V b _) h p = _
      rw [hby p h3]
      by_cases h4 : p / 480 = size / 480
      · rw [if_pos h4, putAt_getD (by rw [hzl, hL]; omega), hzl]
        by_cases h5 : p < size
        · rw [if_neg (by omega), if_pos h5]
          unfold byt
          rw [h4, if_neg h2', hb, Int.toNat_natCast]
        · rw [if_pos (by omega), if_neg h5, zs_getD]
      · rw [if_neg h4]
        split
        · rfl
        · rename_i h5
          unfold byt
          rw [if_pos (hpz p h3 h5 (.inl h4))]
/-- Pages that are given up, so far. -/
structure TrI (n : Nat) (a0 : Aw) (N0 : Nat → Option Hd) (id K : Nat) (h0 : Hd) (bl k : Nat) (a : Aw) (h : Hd) : Prop where
  st : ∃ own N, NodeSt n a0 N0 id K a own N h
  V : a.V = a0.V
  same : sameF h h0
  rw : h.n.rw = h0.n.rw
  pg : ∀ i, i < 256 → h.page i = if bl ≤ i ∧ i < k then 0 else h0.page i
/-- What Truncate comes to. -/
def CutP (n : Nat) (id K : Nat) (A : Nat → Option AF) (f : AF) (size : Nat) (a' : Aw) : Prop := Has n a' (upO A id (some (f.cut size))) (K - needP (f.cut size).pr)
theorem Does.tr2 (hr : Rdr ask n V0 I) (hn : n ≤ 3840) {size : Nat} (hs : size ≤ 122880) (hA : ∀ id, A id = (N0 id).map (afOf a0.V)) (T : NodeSt n a0 N0 id K a own N h) (hV : a.V = a0.V) (hsame : h.n.kd = h0.n.kd ∧ h.n.lk = h0.n.lk ∧ h.n.sz = (size : Int))
    (hpg : ∀ i, i < 256 → h.page i = if (blocksOf size).toNat ≤ i ∧ i < 256 then 0 else h0.page i) (hrw : h.n.rw ≠ 0 → ∃ i, 16 ≤ i ∧ i < 256 ∧ h.page i ≠ 0) :
    Does n V0 I (wtr2 ask h) a (fun _ a' => CutP n id K A (afOf a0.V h0) size a') E := by
  have hbl : (blocksOf size).toNat = (size + 479) / 480 := by unfold blocksOf; omega
  have hp : ∀ i, i < 256 → size ≤ 480 * i → h.page i = 0 := fun i h1 h2 => by rw [hpg i h1, if_pos ⟨by omega, h1⟩]
  have hfin : h.Fin := ⟨fun i hi hb => hp i hi (by rw [hsame.2.2] at hb; unfold blocksOf at hb; omega), hrw⟩
  refine (Does.cutF hr T hsame.2.2 hs hp).bind fun _ a1 e => ?_
  obtain ⟨T1, hb⟩ := e
  refine (Does.saveDone T1 hn hfin).mono (fun _ a2 e => ?_) fun _ h => h
  subst e
  have hsz : (afOf a0.V h0).sz = h0.n.sz.toNat := rfl
  refine T1.done hn hfin (fun p h1 h2 => ?_) hA ((afOf a0.V h0).cut size) hsame.1 hsame.2.1 hsame.2.2 (fun p h1 => ?_) (fun p h1 => ?_) (fun i hi => ?_) fun i hi => ?_
  · rw [hb p h1, if_neg (by rw [hsame.2.2] at h2; omega)]
  · rw [hb p h1]
    show _ = if p < size then (if p < 122880 then byt a0.V h0 p else 0) else 0
    rw [if_pos h1]
    split
    · rename_i h2
      rw [hV]
      refine byt_page ?_
      rw [hpg _ (by omega), if_neg (by omega)]
    · rfl
  · show (if p < size then (if p < 122880 then byt a0.V h0 p else 0) else 0) = 0
    rw [if_neg (by omega)]
  · show prOf h i = (prOf h0 i && decide (480 * i < size))
    unfold prOf
    rw [hpg i hi]
    by_cases h2 : (blocksOf size).toNat ≤ i
    · rw [if_pos ⟨h2, hi⟩, decide_eq_false (show ¬ 480 * i < size by omega)]; simp
    · rw [if_neg (by omega), decide_eq_true (show 480 * i < size by omega), Bool.and_true]
  · show (prOf h0 i && decide (480 * i < size)) = false
    unfold prOf; simp; omega
theorem Does.trL (hr : Rdr ask n V0 I) (hn : n ≤ 3840) (hn0 : 0 < n) {size : Nat} (hs : size ≤ 122880) (hA : ∀ id, A id = (N0 id).map (afOf a0.V)) (hfin0 : h0.Fin) : ∀ (j : Nat) (a : Aw) (h : Hd), j ≤ 256 - (blocksOf size).toNat → TrI n a0 N0 id K h0 (blocksOf size).toNat (256 - j) a h →
    Does n V0 I (wtrL ask size j h) a (fun _ a' => CutP n id K A (afOf a0.V h0) size a') E := by
  have hbl : (blocksOf size).toNat = (size + 479) / 480 := by unfold blocksOf; omega
  intro j
  induction j with
  | zero =>
    intro a h _ T
    obtain ⟨own, N, T0⟩ := T.st
    have ho := T0.ok
    obtain ⟨s1, s2, s3⟩ := T.same
    by_cases hc : h.n.rw ≠ 0 ∧ h.row = List.replicate 240 0
    · obtain ⟨h1, h2⟩ := hc
      have hz := (row_zero ho.fit).1 h2
      have T1 := T0.freeRow hn h1 hz
      refine Does.congr (m' := wmark ask h.n.rw.toNat false ⇝ fun _ => wtr2 ask ((h.setRw 0).setSz size)) ?_ fun st => if_pos ⟨h1, h2⟩
      refine (Does.mark hr hn0).bind fun _ a' e => ?_
      subst e
      have ho1 := T1.ok
      have T2 := T1.set (h' := (h.setRw 0).setSz size) ⟨ho1.fit, ho1.id, ho1.kd, ho1.lk0, ho1.lk1, show (0 : Int) ≤ (size : Int) by omega, show (size : Int) ≤ 122880 by omega, ho1.rw0, ho1.rw1, ho1.pg, ho1.rz⟩ rfl fun _ _ => rfl
      exact Does.tr2 hr hn hs hA T2 T.V ⟨s1, s2, rfl⟩ T.pg fun h9 => absurd rfl h9
    · refine Does.congr (m' := wtr2 ask (h.setSz size)) ?_ fun st => if_neg hc
      have T2 := T0.set (h' := h.setSz size) ⟨ho.fit, ho.id, ho.kd, ho.lk0, ho.lk1, show (0 : Int) ≤ (size : Int) by omega, show (size : Int) ≤ 122880 by omega, ho.rw0, ho.rw1, ho.pg, ho.rz⟩ rfl fun _ _ => rfl
      refine Does.tr2 hr hn hs hA T2 T.V ⟨s1, s2, rfl⟩ T.pg fun h9 => ?_
      have h10 : h.n.rw ≠ 0 := h9
      have h11 : ¬ ∀ i, 16 ≤ i → i < 256 → h.page i = 0 := fun hz => hc ⟨h10, (row_zero ho.fit).2 hz⟩
      refine Classical.byContradiction fun h12 => h11 fun i i1 i2 => Classical.byContradiction fun h13 => h12 ⟨i, i1, i2, h13⟩
  | succ j ih =>
    intro a h hj T
    obtain ⟨own, N, T0⟩ := T.st
    obtain ⟨k, hk⟩ : ∃ k, 256 - (j + 1) = k := ⟨_, rfl⟩
    have hk256 : k < 256 := by omega
    have hkb : (blocksOf size).toNat ≤ k := by omega
    rw [hk] at T
    by_cases h1 : h.page k = 0
    · refine Does.congr (m' := wtrL ask size j h) ?_ fun st => if_pos (by rw [hk]; exact h1)
      refine ih a h (by omega) ⟨T.st, T.V, T.same, T.rw, fun i hi => ?_⟩
      rw [T.pg i hi, show 256 - j = k + 1 by omega]
      by_cases e : i = k
      · subst e
        have := T.pg i hi
        rw [if_neg (by omega), h1] at this
        rw [if_neg (by omega), if_pos ⟨hkb, by omega⟩]; exact this.symm
      · by_cases h2 : (blocksOf size).toNat ≤ i ∧ i < k
        · rw [if_pos h2, if_pos ⟨h2.1, by omega⟩]
        · rw [if_neg h2, if_neg (by omega)]
    · refine Does.congr (m' := wmark ask (h.page k).toNat false ⇝ fun _ => wtrL ask size j (h.put k 0)) ?_ fun st => by
        refine (if_neg (by rw [hk]; exact h1)).trans ?_
        rw [hk]
      refine (Does.mark hr hn0).bind fun _ a' e => ?_
      subst e
      have T1 := T0.freePage hn hk256 h1
      obtain ⟨s1, s2, s3⟩ := put_sameF h k 0
      obtain ⟨t1, t2, t3⟩ := T.same
      refine ih _ (h.put k 0) (by omega) ⟨⟨_, _, T1⟩, T.V, ⟨s1.trans t1, s2.trans t2, s3.trans t3⟩, by rw [Hd.put_rw]; exact T.rw, fun i hi => ?_⟩
      rw [Hd.page_put T0.ok.fit hk256, show 256 - j = k + 1 by omega]
      by_cases e : i = k
      · subst e; rw [if_pos rfl, if_pos ⟨hkb, by omega⟩]
      · rw [if_neg e, T.pg i hi]
        by_cases h2 : (blocksOf size).toNat ≤ i ∧ i < k
        · rw [if_pos h2, if_pos ⟨h2.1, by omega⟩]
        · rw [if_neg h2, if_neg (by omega)]
theorem Does.trunc (hr : Rdr ask n V0 I) (hn : n ≤ 3840) (hh : Has n a A k) (hf : A id = some f) (size : Nat) (hs : size ≤ 122880) :
    Does n V0 I (wtrunc ask n (id : Int) (size : Int)) a (fun _ a' => CutP n id (k + needP f.pr) A f size a') E := by
  obtain ⟨own, N, S, hk, hA⟩ := hh
  obtain ⟨h, hN, rfl⟩ := Has.at hA hf
  obtain ⟨i0, i1, ho⟩ := S.lay.ok _ _ hN
  obtain ⟨hfin, hsv, ht⟩ := S.rest id h (by omega) hN
  refine (Does.load hr hn S hN).bind fun x a' e => ?_
  obtain ⟨rfl, rfl⟩ := e
  have hnd : needP (afOf a'.V x).pr = x.nds := (ho.nds hfin).symm
  have hbl : (blocksOf size).toNat = (size + 479) / 480 := by unfold blocksOf; omega
  refine Does.congr (m' := wtrL ask size (256 - (blocksOf size).toNat) x) ?_ fun st => if_pos ⟨by omega, by omega⟩
  rw [hnd, ← hk]
  refine Does.trL hr hn (by omega) hs hA hfin (256 - (blocksOf size).toNat) a' x (by omega) ⟨⟨own, N, NodeSt.start S hN⟩, rfl, ⟨rfl, rfl, rfl⟩, rfl, fun i hi => ?_⟩
  rw [if_neg (by omega)]
/-- Pages of a file that goes. -/
theorem Does.freeP (hr : Rdr ask n V0 I) (hn : n ≤ 3840) (hn0 : 0 < n) {P : Unit → Aw → Prop} (hfit : h0.fit) (hP : ∀ a own N h, NodeSt n a0 N0 id K a own N h → a.V = a0.V → h.n.rw = h0.n.rw → (∀ i, i < 256 → h.page i = 0) → P () a) :
    ∀ (j : Nat) (a : Aw) (own : Nat → Own) (N : Nat → Option Hd) (h : Hd), j ≤ 256 → NodeSt n a0 N0 id K a own N h → a.V = a0.V → h.n.rw = h0.n.rw → (∀ i, i < 256 → h.page i = if i < 256 - j then 0 else h0.page i) → Does n V0 I (wfreeP ask (h0.pages.drop (256 - j))) a P E := by
  intro j
  induction j with
  | zero =>
    intro a own N h _ T hV hrw hp
    rw [List.drop_of_length_le (by rw [Hd.pages_length hfit]; omega)]
    exact Does.pure (hP a own N h T hV hrw fun i hi => by rw [hp i hi, if_pos (by omega)])
  | succ j ih =>
    intro a own N h hj T hV hrw hp
    obtain ⟨k, hk⟩ : ∃ k, 256 - (j + 1) = k := ⟨_, rfl⟩
    have hk256 : k < 256 := by omega
    rw [hk] at hp ⊢
    rw [Hd.drop_pages hfit hk256]
    have hpk := hp k hk256
    rw [if_neg (by omega)] at hpk
    have e1 : k + 1 = 256 - j := by omega
    by_cases h1 : h0.page k = 0
    · refine Does.congr (m' := wfreeP ask (h0.pages.drop (k + 1))) ?_ fun st => if_pos h1
      rw [e1]
      refine ih a own N h (by omega) T hV hrw fun i hi => ?_
      rw [hp i hi]
      by_cases e : i = k
      · subst e; rw [if_neg (by omega), if_pos (by omega), h1]
      · by_cases h2 : i < k
        · rw [if_pos h2, if_pos (by omega)]
        · rw [if_neg h2, if_neg (by omega)]
    · refine Does.congr (m' := wmark ask (h0.page k).toNat false ⇝ fun _ => wfreeP ask (h0.pages.drop (k + 1))) ?_ fun st => if_neg h1
      refine (Does.mark hr hn0).bind fun _ a' e => ?_
      subst e
      rw [← hpk, e1]
      refine ih _ _ _ (h.put k 0) (by omega) (T.freePage hn hk256 (by rw [hpk]; exact h1)) hV (by rw [Hd.put_rw]; exact hrw) fun i hi => ?_
      rw [Hd.page_put T.ok.fit hk256]
      by_cases e : i = k
      · subst e; rw [if_pos rfl, if_pos (by omega)]
      · rw [if_neg e, hp i hi]
        by_cases h2 : i < k
        · rw [if_pos h2, if_pos (by omega)]
        · rw [if_neg h2, if_neg (by omega)]
theorem nds_none (hp : ∀ i, i < 256 → h.page i = 0) (hr : h.n.rw = 0) : h.nds = 1 := by
  unfold Hd.nds
  have e : cntP (prOf h) = 0 := by
    unfold cntP
    rw [List.countP_eq_zero]
    intro i hi h9
    exact (prOf_iff.1 h9).2 (hp i (List.mem_range.1 hi))
  rw [e, if_pos hr]
/-- A node that has nothing any more goes. -/
theorem NodeSt.gone (T : NodeSt n a0 N0 id K a own N h) (hn : n ≤ 3840) (hV : a.V = a0.V) (hA : ∀ id, A id = (N0 id).map (afOf a0.V)) (hr0 : h.n.rw = 0) (hp : ∀ i, i < 256 → h.page i = 0) : Has n { a with B := setTo a.B id false } (upO A id none) K := by
  obtain ⟨i0, i1, ho⟩ := T.sp.lay.ok _ _ T.hN
  refine ⟨upO own id frO, upO N id none, (T.sp.step (T.sp.lay.gone T.hN hr0 hp) (T.sp.bm.set hn i1 _ _ (by simp)) fun id' hne => upO_other _ _ hne).shut fun g hg => (by rw [upO_same] at hg; cases hg), ?_, fun id' => ?_⟩
  · have := frN_upd (own := own) (x := frO) i1
    rw [T.sp.lay.ownId T.hN, if_pos rfl, if_neg (by simp)] at this
    have h1 := T.cons
    rw [nds_none hp hr0] at h1
    omega
  · by_cases e : id' = id
    · subst e; rw [upO_same, upO_same]; rfl
    · rw [upO_other _ _ e, upO_other _ _ e, hA id', ← T.oth id' e]
      show _ = (N id').map (afOf a.V)
      rw [hV]
theorem Does.free (hr : Rdr ask n V0 I) (hn : n ≤ 3840) (hh : Has n a A k) (hf : A id = some f) :
    Does n V0 I (wfree ask n (id : Int)) a (fun _ a' => Has n a' (upO A id none) (k + needP f.pr)) E := by
  obtain ⟨own, N, S, hk, hA⟩ := hh
  obtain ⟨h, hN, rfl⟩ := Has.at hA hf
  obtain ⟨i0, i1, ho⟩ := S.lay.ok _ _ hN
  obtain ⟨hfin, hsv, ht⟩ := S.rest id h (by omega) hN
  refine (Does.load hr hn S hN).bind fun x a' e => ?_
  obtain ⟨rfl, rfl⟩ := e
  have hnd : needP (afOf a'.V x).pr = x.nds := (ho.nds hfin).symm
  rw [hnd, ← hk]
  refine Does.bind (P := fun _ a'' => ∃ own' N' h', NodeSt n a' N id (frN own n + x.nds) a'' own' N' h' ∧ a''.V = a'.V ∧ h'.n.rw = x.n.rw ∧ ∀ i, i < 256 → h'.page i = 0) ?_ fun _ a'' e => ?_
  · have := Does.freeP (E := E) hr hn (by omega) (P := fun _ a'' => ∃ own' N' h', NodeSt n a' N id (frN own n + x.nds) a'' own' N' h' ∧ a''.V = a'.V ∧ h'.n.rw = x.n.rw ∧ ∀ i, i < 256 → h'.page i = 0) ho.fit
      (fun a own N h T hV hrw hp => ⟨own, N, h, T, hV, hrw, hp⟩) 256 a' own N x (Nat.le_refl _) (NodeSt.start S hN) rfl rfl fun i hi => by rw [if_neg (by omega)]
    rw [Nat.sub_self, List.drop_zero] at this
    exact this
  · obtain ⟨own', N', h', T, hV, hrw, hp⟩ := e
    have hid := ho.id
    by_cases h0 : x.n.rw = 0
    · refine Does.congr (m' := wmark ask x.id false) ?_ fun st => if_pos h0
      rw [hid]
      refine (Does.mark hr (by omega)).mono (fun _ a3 e => ?_) fun _ h => h
      subst e
      exact T.gone hn hV hA (by rw [hrw]; exact h0) hp
    · refine Does.congr (m' := wmark ask x.n.rw.toNat false ⇝ fun _ => wmark ask x.id false) ?_ fun st => if_neg h0
      rw [hid]
      refine (Does.mark hr (by omega)).bind fun _ a3 e => ?_
      subst e
      refine (Does.mark hr (by omega)).mono (fun _ a4 e => ?_) fun _ h => h
      subst e
      have T2 := T.freeRow hn (by rw [hrw]; exact h0) fun i _ hi => hp i hi
      rw [hrw] at T2
      exact T2.gone hn hV hA rfl hp
end
end Go.SL

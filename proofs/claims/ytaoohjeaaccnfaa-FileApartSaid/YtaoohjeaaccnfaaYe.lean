/- file, plainly: files as who calls a space has them; what is told. -/
import Derived.Test.YtaoohjeaaccnfaaYd
namespace Go.SL
set_option linter.unusedVariables false
set_option linter.unusedSimpArgs false
open Go.RowKit
/-- A file: its kind, its links, its size, its bytes, and which blocks it has. -/
structure AF where
  kd : Int
  lk : Int
  sz : Nat
  dat : Nat → UInt8
  pr : Nat → Bool
def prOf (h : Hd) (i : Nat) : Bool := decide (i < 256) && decide (h.page i ≠ 0)
def afOf (V : Nat → List UInt8) (h : Hd) : AF := ⟨h.n.kd, h.n.lk, h.n.sz.toNat, fun p => if p < 122880 then byt V h p else 0, prOf h⟩
def cntP (pr : Nat → Bool) : Nat := (List.range 256).countP pr
def rowB (pr : Nat → Bool) : Bool := (List.range 256).any fun i => decide (16 ≤ i) && pr i
/-- What a file of such blocks needs. -/
def needP (pr : Nat → Bool) : Nat := 1 + cntP pr + if rowB pr = true then 1 else 0
def Hd.nds (h : Hd) : Nat := 1 + cntP (prOf h) + if h.n.rw = 0 then 0 else 1
theorem rowB_iff {pr : Nat → Bool} : rowB pr = true ↔ ∃ i, 16 ≤ i ∧ i < 256 ∧ pr i = true := by
  unfold rowB
  rw [List.any_eq_true]
  constructor
  · rintro ⟨i, hi, h⟩
    simp only [Bool.and_eq_true, decide_eq_true_eq] at h
    exact ⟨i, h.1, List.mem_range.1 hi, h.2⟩
  · rintro ⟨i, h1, h2, h3⟩
    exact ⟨i, List.mem_range.2 h2, by simp only [Bool.and_eq_true, decide_eq_true_eq]; exact ⟨h1, h3⟩⟩
theorem cntP_congr {p q : Nat → Bool} (h : ∀ i, i < 256 → p i = q i) : cntP p = cntP q := by
  unfold cntP
  exact List.countP_congr fun i hi => by rw [h i (List.mem_range.1 hi)]
theorem needP_congr {p q : Nat → Bool} (h : ∀ i, i < 256 → p i = q i) : needP p = needP q := by
  have e : rowB p = rowB q := by
    cases hq : rowB q with
    | true =>
      obtain ⟨i, h1, h2, h3⟩ := rowB_iff.1 hq
      exact rowB_iff.2 ⟨i, h1, h2, by rw [h i h2]; exact h3⟩
    | false =>
      cases hp : rowB p with
      | false => rfl
      | true =>
        obtain ⟨i, h1, h2, h3⟩ := rowB_iff.1 hp
        rw [rowB_iff.2 ⟨i, h1, h2, by rw [← h i h2]; exact h3⟩] at hq
        cases hq
  unfold needP
  rw [cntP_congr h, e]
theorem countP_upd (p q : Nat → Bool) (k : Nat) (h : ∀ i, i ≠ k → p i = q i) : ∀ m, k < m → (List.range m).countP p + (if q k = true then 1 else 0) = (List.range m).countP q + if p k = true then 1 else 0
  | m + 1, hk => by
    rw [List.range_succ, List.countP_append, List.countP_append]
    simp only [List.countP_cons, List.countP_nil, Nat.zero_add]
    by_cases e : k = m
    · subst e
      have : (List.range k).countP p = (List.range k).countP q := List.countP_congr fun i hi => by rw [h i (by have := List.mem_range.1 hi; omega)]
      omega
    · have := countP_upd p q k h m (by omega)
      rw [h m (Ne.symm e)]
      omega
theorem cntP_upd {p q : Nat → Bool} {k : Nat} (hk : k < 256) (h : ∀ i, i ≠ k → p i = q i) : cntP p + (if q k = true then 1 else 0) = cntP q + if p k = true then 1 else 0 := countP_upd p q k h 256 hk
theorem countP_le_of {p q : Nat → Bool} : ∀ m, (∀ i, i < m → p i = true → q i = true) → (List.range m).countP p ≤ (List.range m).countP q
  | 0, _ => Nat.le_refl _
  | m + 1, h => by
    rw [List.range_succ, List.countP_append, List.countP_append]
    simp only [List.countP_cons, List.countP_nil, Nat.zero_add]
    have := countP_le_of m fun i hi => h i (by omega)
    have h2 := h m (by omega)
    split
    · rename_i e; rw [if_pos (h2 e)]; omega
    · split <;> omega
theorem cntP_le {p q : Nat → Bool} (h : ∀ i, i < 256 → p i = true → q i = true) : cntP p ≤ cntP q := countP_le_of 256 h
theorem cntP_lt {p q : Nat → Bool} {k : Nat} (hk : k < 256) (h : ∀ i, i < 256 → p i = true → q i = true) (h1 : p k = false) (h2 : q k = true) : cntP p + 1 ≤ cntP q := by
  have e := cntP_upd (p := fun i => if i = k then true else p i) (q := p) hk fun i hi => if_neg hi
  rw [if_neg (by rw [h1]; decide), if_pos (if_pos rfl)] at e
  have := cntP_le (p := fun i => if i = k then true else p i) (q := q) fun i hi h3 => by
    by_cases e : i = k
    · subst e; exact h2
    · rw [if_neg e] at h3; exact h i hi h3
  omega
section
variable {n id k i : Nat} {own : Nat → Own} {N : Nat → Option Hd} {h h' : Hd} {a : Aw} {V V' : Nat → List UInt8}
theorem prOf_iff : prOf h i = true ↔ i < 256 ∧ h.page i ≠ 0 := by unfold prOf; simp
theorem prOf_false (hi : i < 256) : prOf h i = false ↔ h.page i = 0 := by
  unfold prOf; simp [hi]
theorem prOf_put (hf : h.fit) (hi : i < 256) (b : Int) (j : Nat) : prOf (h.put i b) j = if j = i then decide (b ≠ 0) else prOf h j := by
  unfold prOf
  rw [Hd.page_put hf hi]
  by_cases e : j = i
  · subst e; rw [if_pos rfl, if_pos rfl]; simp [hi]
  · rw [if_neg e, if_neg e]
/-- At rest a node needs what its blocks tell. -/
theorem Hd.Ok.nds (ho : h.Ok n id) (hf : h.Fin) : h.nds = needP (prOf h) := by
  unfold Hd.nds needP
  congr 1
  by_cases h0 : h.n.rw = 0
  · rw [if_pos h0, if_neg]
    intro h9
    obtain ⟨i, h1, h2, h3⟩ := rowB_iff.1 h9
    exact (prOf_iff.1 h3).2 (ho.rz h0 i h1 h2)
  · obtain ⟨i, h1, h2, h3⟩ := hf.rwp h0
    rw [if_neg h0, if_pos (rowB_iff.2 ⟨i, h1, h2, prOf_iff.2 ⟨h2, h3⟩⟩)]
theorem Hd.pages_map (hf : h.fit) : h.pages = (List.range 256).map h.page := by
  apply List.ext_getElem
  · rw [Hd.pages_length hf]; simp
  · intro i h1 h2
    rw [Hd.pages_length hf] at h1
    rw [List.getElem_map, List.getElem_range, Hd.page_pages hf, List.getD, List.getElem?_eq_getElem]; rfl
theorem Hd.need_nds (hf : h.fit) : h.need = h.nds := by
  have e : h.pages.countP (fun p => decide (p ≠ 0)) = (List.range 256).countP (prOf h) := by
    rw [Hd.pages_map hf, List.countP_map]
    exact List.countP_congr fun i hi => by
      have := List.mem_range.1 hi
      unfold prOf; simp [this]
  unfold Hd.need Hd.nds cntP
  rw [e]
/-- What a space has. -/
def Has (n : Nat) (a : Aw) (A : Nat → Option AF) (k : Nat) : Prop := ∃ own N, SpX n a own N 0 ∧ frN own n = k ∧ ∀ id, A id = (N id).map (afOf a.V)
theorem Has.at {A : Nat → Option AF} {f : AF} (hA : ∀ id, A id = (N id).map (afOf a.V)) (hf : A id = some f) : ∃ h, N id = some h ∧ f = afOf a.V h := by
  rw [hA id] at hf
  cases hN : N id with
  | none => rw [hN] at hf; cases hf
  | some h => rw [hN] at hf; exact ⟨h, rfl, by cases hf; rfl⟩
/-- What may be of a file. -/
structure AF.Wf (f : AF) : Prop where
  kd : f.kd = 1 ∨ f.kd = 2
  lk0 : 0 ≤ f.lk
  lk1 : f.lk ≤ 65535
  sz : f.sz ≤ 122880
  tail : ∀ p, f.sz ≤ p → f.dat p = 0
  hole : ∀ p, f.pr (p / 480) = false → f.dat p = 0
  prs : ∀ i, f.pr i = true → 480 * i < f.sz
theorem SpX.wf (S : SpX n a own N 0) (hN : N id = some h) : (afOf a.V h).Wf := by
  obtain ⟨i0, i1, ho⟩ := S.lay.ok _ _ hN
  obtain ⟨hf, hs, ht⟩ := S.rest id h (by omega) hN
  have z0 := ho.sz0
  have z1 := ho.sz1
  refine ⟨ho.kd, ho.lk0, ho.lk1, show h.n.sz.toNat ≤ 122880 by omega, fun p hp => ?_, fun p hp => ?_, fun i hi => ?_⟩
  · show (if p < 122880 then byt a.V h p else 0) = 0
    split
    · rename_i h1; exact ht p h1 (by have : h.n.sz.toNat ≤ p := hp; omega)
    · rfl
  · show (if p < 122880 then byt a.V h p else 0) = 0
    split
    · rename_i h1
      unfold byt
      rw [if_pos ((prOf_false (by omega)).1 hp)]
    · rfl
  · obtain ⟨h1, h2⟩ := prOf_iff.1 (show prOf h i = true from hi)
    show 480 * i < h.n.sz.toNat
    by_cases h9 : blocksOf h.n.sz ≤ i
    · exact absurd (hf.hi i h1 h9) h2
    · unfold blocksOf at h9; omega
theorem Has.wf {A : Nat → Option AF} {f : AF} (hh : Has n a A k) (hf : A id = some f) : f.Wf ∧ 0 < id ∧ id < n := by
  obtain ⟨own, N, S, _, hA⟩ := hh
  obtain ⟨h, hN, rfl⟩ := Has.at hA hf
  exact ⟨S.wf hN, (S.lay.ok _ _ hN).1, (S.lay.ok _ _ hN).2.1⟩
end
section
variable {σ α : Type} {n id k : Nat} {own : Nat → Own} {N : Nat → Option Hd} {h : Hd} {a : Aw} {V0 : Nat → List UInt8} {I : σ → Prop} {ask : Asks σ} {E : Int → Prop} {A : Nat → Option AF} {f : AF}
theorem Does.node (hr : Rdr ask n V0 I) (hn : n ≤ 3840) (hh : Has n a A k) (hf : A id = some f) : Does n V0 I (wnode ask n (id : Int)) a (fun x a' => x.kd = f.kd ∧ x.lk = f.lk ∧ x.sz = f.sz ∧ a' = a) E := by
  obtain ⟨own, N, S, _, hA⟩ := hh
  obtain ⟨h, hN, rfl⟩ := Has.at hA hf
  have ho := (S.lay.ok _ _ hN).2.2
  refine (Does.load hr hn S hN).bind fun x a' e => ?_
  obtain ⟨rfl, rfl⟩ := e
  have := ho.sz0
  exact Does.pure ⟨rfl, rfl, show x.n.sz = (x.n.sz.toNat : Int) by omega, rfl⟩
theorem Does.need (hr : Rdr ask n V0 I) (hn : n ≤ 3840) (hh : Has n a A k) (hf : A id = some f) : Does n V0 I (wneedb ask n (id : Int)) a (fun x a' => x = needP f.pr ∧ a' = a) E := by
  obtain ⟨own, N, S, _, hA⟩ := hh
  obtain ⟨h, hN, rfl⟩ := Has.at hA hf
  have ho := S.lay.ok _ _ hN
  refine (Does.load hr hn S hN).bind fun x a' e => ?_
  obtain ⟨rfl, rfl⟩ := e
  exact Does.pure ⟨by rw [Hd.need_nds ho.2.2.fit, ho.2.2.nds (S.rest id x (by omega) hN).1]; rfl, rfl⟩
theorem Does.left (hr : Rdr ask n V0 I) (h0 : 0 < n) (hh : Has n a A k) : Does n V0 I (wleft ask n) a (fun x a' => x = k ∧ a' = a) E := by
  obtain ⟨own, N, S, hk, hA⟩ := hh
  intro st hst
  obtain ⟨st', h1, h2, h3⟩ := Does.bits hr h0 st hst
  have e : wleft ask n st = (.ok (n - (takenL a.B n).length), st') := WM.bind_ok h1
  rw [e]
  exact ⟨a, h2, by rw [S.bm.left, hk], rfl⟩
/-- Bytes in place. -/
theorem putAt_getD {l d : List UInt8} {o : Nat} (h : o + d.length ≤ l.length) (j : Nat) : (putAt l o d).getD j 0 = if o ≤ j ∧ j < o + d.length then d.getD (j - o) 0 else l.getD j 0 := by
  unfold putAt
  have h1 : (l.take o ++ d).length = o + d.length := by rw [List.length_append, List.length_take]; omega
  have h2 : (l.take o).length = o := by rw [List.length_take]; omega
  simp only [List.getD]
  by_cases h3 : j < o
  · rw [if_neg (by omega), List.getElem?_append_left (by rw [h1]; omega), List.getElem?_append_left (by rw [h2]; exact h3), List.getElem?_take, if_pos h3]
  · by_cases h4 : j < o + d.length
    · rw [if_pos ⟨by omega, h4⟩, List.getElem?_append_left (by rw [h1]; omega), List.getElem?_append_right (by rw [h2]; omega), h2]
    · rw [if_neg (by omega), List.getElem?_append_right (by rw [h1]; omega), h1, List.getElem?_drop, show o + d.length + (j - (o + d.length)) = j by omega]
theorem Does.rd (hr : Rdr ask n V0 I) (S : SpX n a own N 0) (hN : N id = some h) (off m : Nat) (hm : off + m ≤ 122880) : ∀ (f done : Nat) (L : List UInt8), L.length = m → m - done ≤ f → (∀ j, j < m → L.getD j 0 = if j < done then byt a.V h (off + j) else 0) →
    Does n V0 I (wrd ask h off f done L) a (fun x a' => x.length = m ∧ (∀ j, j < m → x.getD j 0 = byt a.V h (off + j)) ∧ a' = a) E := by
  intro f
  induction f with
  | zero => intro done L hL hf hj; exact Does.pure ⟨hL, fun j h1 => by rw [hj j h1, if_pos (by omega)], rfl⟩
  | succ f ih =>
    intro done L hL hf hj
    obtain ⟨i0, i1, ho⟩ := S.lay.ok _ _ hN
    by_cases hd : done < m
    · obtain ⟨l, hl⟩ : ∃ l, lenN (L.length - done) (off + done) = l := ⟨_, rfl⟩
      have hl2 : l = min (m - done) (480 - (off + done) % 480) := by rw [← hl, hL]; rfl
      have hbyt : ∀ j, done ≤ j → j < done + l → (off + j) / 480 = (off + done) / 480 ∧ (off + j) % 480 = (off + done) % 480 + (j - done) := fun j h1 h2 => by omega
      by_cases h0 : h.page ((off + done) / 480) = 0
      · refine Does.congr (m' := wrd ask h off f (done + l) L) ?_ fun st => by rw [← hl]; exact wrd_z (by omega) h0 st
        refine ih (done + l) L hL (by omega) fun j h1 => ?_
        rw [hj j h1]
        by_cases h2 : j < done
        · rw [if_pos h2, if_pos (by omega)]
        · rw [if_neg h2]
          split
          · unfold byt; rw [(hbyt j (by omega) (by omega)).1, if_pos h0]
          · rfl
      · have hp := ho.pg ((off + done) / 480) (by omega)
        obtain ⟨b, hb⟩ : ∃ b : Nat, h.page ((off + done) / 480) = (b : Int) := ⟨(h.page ((off + done) / 480)).toNat, by omega⟩
        refine Does.congr (m' := wread ask (b : Int) ⇝ fun X => wrd ask h off f (done + l) (putAt L done ((X.drop ((off + done) % 480)).take l))) ?_ fun st => by
          refine (if_pos (by omega)).trans ((if_neg h0).trans ?_)
          rw [hl, hb]
        refine (Does.read hr (by omega) (by omega)).bind fun X a' e => ?_
        obtain ⟨rfl, hX, e3⟩ := e
        rw [e3]
        have hlen : (((a.V b).drop ((off + done) % 480)).take l).length = l := by rw [List.length_take, List.length_drop, hX]; omega
        refine ih (done + l) _ (by rw [putAt_length (by rw [hlen]; omega)]; exact hL) (by omega) fun j h1 => ?_
        rw [putAt_getD (by rw [hlen]; omega), hlen]
        by_cases h2 : done ≤ j ∧ j < done + l
        · rw [if_pos h2, if_pos (by omega)]
          obtain ⟨e1, e2⟩ := hbyt j h2.1 h2.2
          unfold byt
          rw [e1, if_neg h0, hb, e2, Int.toNat_natCast]
          simp only [List.getD]
          rw [List.getElem?_take, if_pos (by omega), List.getElem?_drop]
        · rw [if_neg h2, hj j h1]
          by_cases h3 : j < done
          · rw [if_pos h3, if_pos (by omega)]
          · rw [if_neg h3, if_neg (by omega)]
    · refine Does.congr (m' := WM.pure L) (Does.pure ⟨hL, fun j h1 => by rw [hj j h1, if_pos (by omega)], rfl⟩) fun st => if_neg (by omega)
/-- What is read. -/
def AF.sub (f : AF) (off cnt : Nat) : List UInt8 := (List.range (min cnt (f.sz - off))).map fun j => f.dat (off + j)
theorem Does.readAt (hr : Rdr ask n V0 I) (hn : n ≤ 3840) (hh : Has n a A k) (hf : A id = some f) (off cnt : Nat) : Does n V0 I (wreadAt ask n (id : Int) (off : Int) (cnt : Int)) a (fun x a' => x = f.sub off cnt ∧ a' = a) E := by
  obtain ⟨own, N, S, _, hA⟩ := hh
  obtain ⟨h, hN, rfl⟩ := Has.at hA hf
  obtain ⟨i0, i1, ho⟩ := S.lay.ok _ _ hN
  have z0 := ho.sz0
  have z1 := ho.sz1
  refine (Does.load hr hn S hN).bind fun x a' e => ?_
  obtain ⟨rfl, rfl⟩ := e
  have hsz : (afOf a'.V x).sz = x.n.sz.toNat := rfl
  by_cases h1 : x.n.sz ≤ (off : Int)
  · refine Does.congr (m' := WM.pure []) (Does.pure ⟨?_, rfl⟩) fun st => (if_pos ⟨by omega, by omega⟩).trans (if_pos h1)
    unfold AF.sub
    rw [hsz, show min cnt (x.n.sz.toNat - off) = 0 by omega]; rfl
  · obtain ⟨m, hm⟩ : ∃ m, (min (cnt : Int) (x.n.sz - (off : Int))).toNat = m := ⟨_, rfl⟩
    refine Does.congr (m' := wrd ask x off m 0 (zs m)) ?_ fun st => by
      refine (if_pos ⟨by omega, by omega⟩).trans ((if_neg h1).trans ?_)
      rw [hm, Int.toNat_natCast]
    refine (Does.rd hr S hN off m (by omega) m 0 (zs m) (length_zs m) (by omega) fun j hj => ?_).mono (fun y a'' e => ?_) fun _ h => h
    · rw [if_neg (by omega)]
      show (List.replicate m 0).getD j 0 = 0
      simp only [List.getD, List.getElem?_replicate]; split <;> rfl
    · obtain ⟨e1, e2, e3⟩ := e
      refine ⟨?_, e3⟩
      have hm2 : min cnt ((afOf a'.V x).sz - off) = m := by rw [hsz]; omega
      unfold AF.sub
      rw [hm2]
      apply List.ext_getElem
      · simp [e1]
      · intro j h2 h3
        rw [e1] at h2
        have := e2 j h2
        rw [List.getD, List.getElem?_eq_getElem (by omega)] at this
        simp only [Option.getD_some] at this
        rw [this, List.getElem_map, List.getElem_range]
        show _ = if off + j < 122880 then byt a'.V x (off + j) else 0
        rw [if_pos (by omega)]
end
end Go.SL

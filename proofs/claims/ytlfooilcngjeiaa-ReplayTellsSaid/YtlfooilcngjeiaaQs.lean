/- ReplayTells, the plain half: the state that is told may be, but for two blocks at one place; a device's places, and what is written to them. ReplayTells: rows of tags, and of marks, in memory. -/
import Derived.Test.YtlfooilcngjeiaaQm
import Derived.Deep.MidRow
namespace Go.SL
set_option linter.unusedVariables false
set_option linter.unusedSimpArgs false
open Go.RowKit
theorem astep_fold (id sq : Int) (p : Int → Prop) : ∀ (L : List Fnd), (∀ x ∈ L, p (x.2 : Int)) → ∀ s, p s.1 → p (L.foldl (astep id sq) s).1
  | [], _, s, h => h
  | x :: L, hL, s, h => by
    rw [List.foldl_cons]
    refine astep_fold id sq p L (fun y hy => hL y (by simp [hy])) _ ?_
    unfold astep
    split
    · exact hL x (by simp)
    · exact h
theorem whereL_map (L : List Fnd) (sq : Int) (B : Nat) (h : ∀ x ∈ L, 0 ≤ x.1.id) : whereL L sq B = (List.range B).map fun k : Nat => atR L (k : Int) sq := by
  apply List.ext_getElem
  · rw [whereL_len]; simp
  · intro i h1 h2
    have hi : i < B := by simpa [whereL_len] using h1
    have := whereL_get L sq B i hi h
    rw [List.getD, List.getElem?_eq_getElem h1, Option.getD_some] at this
    rw [this]; simp
theorem where_cases {L : List Fnd} (sq : Int) {B P : Nat} (h : ∀ x ∈ L, 0 ≤ x.1.id ∧ x.2 < P) {k : Nat} (hk : k < B) : (whereL L sq B).getD k 0 = -1 ∨ (0 ≤ (whereL L sq B).getD k 0 ∧ (whereL L sq B).getD k 0 < (P : Int)) := by
  rw [whereL_get L sq B k hk (fun x hx => (h x hx).1)]
  exact astep_fold (k : Int) sq (fun z => z = -1 ∨ (0 ≤ z ∧ z < (P : Int))) L (fun x hx => .inr ⟨by omega, by have := (h x hx).2; omega⟩) (-1, 0) (.inl rfl)
theorem head_range (L : List Fnd) (sq : Int) {P : Nat} (hP : 0 < P) : 0 ≤ headI L sq P ∧ headI L sq P < (P : Int) := by
  have key : ∀ (L : List Fnd) (s : Int × Int), 0 ≤ s.1 ∧ s.1 < (P : Int) → 0 ≤ (L.foldl (hstep sq P) s).1 ∧ (L.foldl (hstep sq P) s).1 < (P : Int) := by
    intro L
    induction L with
    | nil => intro s h; exact h
    | cons x L ih =>
      intro s h
      rw [List.foldl_cons]
      refine ih _ ?_
      unfold hstep
      split
      · exact ⟨Int.emod_nonneg _ (by omega), Int.emod_lt_of_pos _ (by omega)⟩
      · exact h
  exact key L (0, -1) ⟨Int.le_refl 0, by show (0 : Int) < P; omega⟩
def farI (hd : Int) (P : Nat) (p : Int) : Int := if (hd - p) % (P : Int) = 0 then (P : Int) else (hd - p) % (P : Int)
theorem used_fold (hd : Int) {P : Nat} (hP : 0 < P) : ∀ (l : List Int) (n : Int), 0 ≤ n → n ≤ (P : Int) → n ≤ l.foldl (ustep hd P) n ∧ l.foldl (ustep hd P) n ≤ (P : Int) ∧ ∀ p ∈ l, 0 ≤ p → farI hd P p ≤ l.foldl (ustep hd P) n
  | [], n, h0, h1 => ⟨Int.le_refl _, h1, fun p hp => by simp at hp⟩
  | x :: l, n, h0, h1 => by
    have hm0 := Int.emod_nonneg (hd - x) (show (P : Int) ≠ 0 by omega)
    have hm1 := Int.emod_lt_of_pos (hd - x) (show (0 : Int) < P by omega)
    have hf : farI hd P x ≤ (P : Int) ∧ 0 ≤ farI hd P x := by unfold farI; split <;> omega
    have e : ustep hd P n x = if x < 0 then n else max n (farI hd P x) := rfl
    have hn : n ≤ ustep hd P n x ∧ ustep hd P n x ≤ (P : Int) ∧ (0 ≤ x → farI hd P x ≤ ustep hd P n x) := by
      rw [e]
      generalize farI hd P x = f at *
      split <;> omega
    obtain ⟨a, b, c⟩ := used_fold hd hP l (ustep hd P n x) (by omega) hn.2.1
    rw [List.foldl_cons]
    refine ⟨by omega, b, fun p hp h0 => ?_⟩
    rcases List.mem_cons.1 hp with rfl | hp
    · have := hn.2.2 h0; omega
    · exact c p hp h0
theorem far_ahead {hd p : Int} {P : Nat} (h0 : 0 ≤ hd) (h1 : hd < (P : Int)) (p0 : 0 ≤ p) (p1 : p < (P : Int)) : farI hd P p = jAhead P hd p := by
  unfold farI jAhead
  by_cases h : hd - p < 0
  · have e : (hd - p) % (P : Int) = hd - p + P := by rw [← Int.add_emod_right]; exact Int.emod_eq_of_lt (by omega) (by omega)
    rw [e, if_neg (by omega), if_pos (by omega)]
  · have e : (hd - p) % (P : Int) = hd - p := Int.emod_eq_of_lt (by omega) (by omega)
    rw [e]; split <;> split <;> omega
/-- Two blocks at one place. -/
def OverP (l : List Int) : Prop := ∃ i, i < l.length ∧ 0 ≤ l.getD i 0 ∧ l.getD i 0 ∈ l.take i
end Go.SL
namespace Go.Proofs.Ytlfooilcngjeiaa
set_option linter.unusedVariables false
set_option linter.unusedSimpArgs false
open Go.RowKit Go.SL
theorem flr_range {B : Int} {P : Nat} {L : List Fnd} (h : ∀ x ∈ L, FndOk B P x) : 0 ≤ flrI L ∧ flrI L ≤ 281474976710654 :=
  fold_max (fun x : Fnd => x.1.fl) 281474976710654 L (fun x hx => by have := ok_range (h x hx).ok; omega) 0 (by omega) (by omega)
theorem epo_range {B : Int} {P : Nat} {L : List Fnd} (h : ∀ x ∈ L, FndOk B P x) : 0 ≤ epoI L ∧ epoI L ≤ 4294967295 :=
  fold_max (fun x : Fnd => x.1.ep) 4294967295 L (fun x hx => by have := (h x hx).fit.ep1; omega) 0 (by omega) (by omega)
theorem sqI_eq {L : List Fnd} : sqI L = flrI L + 1 ∨ sqI L = flrI L := by unfold sqI; split; exact .inl rfl; exact .inr rfl
theorem scan_right {L : List Fnd} {P B : Nat} (hf : ∀ x ∈ L, FndOk (B : Int) P x) (hP : 0 < P) (hB0 : 1 ≤ B) (hB : B ≤ 3840) {s : Js} (hs : scanSt L P B = some s) : s.Right P ↔ ¬ OverP s.at_ := by
  have hfr := flr_range hf
  have her := epo_range hf
  have hq := sqI_eq (L := L)
  have hfm : ∀ x ∈ freshL L, 0 ≤ x.1.id ∧ x.2 < P := fun x hx => by
    have h := hf x (List.mem_filter.1 hx).1
    exact ⟨by have := ok_range h.ok; omega, h.place⟩
  have hc := fun {k : Nat} (hk : k < B) => where_cases (sqI L) hfm hk
  have hln := whereL_len (freshL L) (sqI L) B
  have hh := head_range (freshL L) (sqI L) hP
  have hu := used_fold (headI (freshL L) (sqI L) P) hP (whereL (freshL L) (sqI L) B) 0 (by omega) (by omega)
  unfold scanSt at hs
  split at hs
  · cases hs
  rename_i hno
  injection hs with hs
  subst hs
  have hno1 : ¬ 281474976710655 ≤ sqI L := fun h => hno (.inr h)
  change 0 ≤ usedI (whereL (freshL L) (sqI L) B) (headI (freshL L) (sqI L) P) P ∧ usedI (whereL (freshL L) (sqI L) B) (headI (freshL L) (sqI L) P) P ≤ (P : Int) ∧ (∀ p ∈ whereL (freshL L) (sqI L) B, 0 ≤ p → farI (headI (freshL L) (sqI L) P) P p ≤ usedI (whereL (freshL L) (sqI L) B) (headI (freshL L) (sqI L) P) P) at hu
  generalize whereL (freshL L) (sqI L) B = at_ at *
  generalize headI (freshL L) (sqI L) P = hd at *
  generalize usedI at_ hd P = us at *
  have gm : ∀ k, k < at_.length → at_.getD k 0 ∈ at_ := fun k hk => by rw [List.getD, List.getElem?_eq_getElem hk]; exact List.getElem_mem hk
  constructor
  · intro hr ho
    obtain ⟨i, hi, h0, hm⟩ := ho
    have := hr.ok i hi
    unfold Js.okAt at this
    dsimp only at this hi h0 hm
    rcases this with h | h
    · omega
    · exact h.2.2.1 hm
  · intro ho
    refine ⟨by show 1 ≤ epoI L + 1; omega, by show sqI L ≤ _; omega, by show 1 ≤ sqI L + 1; omega, by show sqI L + 1 ≤ sqI L + 1; omega, hh.1, hh.2, hu.1, hu.2.1, by show 1 ≤ at_.length; omega, by show at_.length ≤ 3840; omega, fun k hk => ?_⟩
    have hk' : k < at_.length := hk
    unfold Js.okAt
    dsimp only
    rcases hc (by omega : k < B) with h | ⟨h0, h1⟩
    · exact .inl h
    · refine .inr ⟨h0, h1, fun hm => ho ⟨k, hk', h0, hm⟩, ?_⟩
      rw [← far_ahead hh.1 hh.2 h0 h1]
      exact hu.2.2 _ (gm k hk') h0
/-- Places that have something. -/
def foundL (z : Tg) (hs : List Bool) (ts : List Tg) : Nat → List Fnd
  | 0 => []
  | k + 1 => if hs.getD k false = true then foundL z hs ts k ++ [(ts.getD k z, k)] else foundL z hs ts k
theorem foundL_len (z : Tg) (hs : List Bool) (ts : List Tg) (k : Nat) : (foundL z hs ts k).length ≤ k := by
  induction k with
  | zero => exact Nat.le_refl _
  | succ k ih =>
    unfold foundL
    split
    · rw [List.length_append, List.length_singleton]; omega
    · omega
/-- What a place tells: a tag of one of these blocks. -/
def tagB (B : Int) (o : Option (Tg × List UInt8)) : Option Tg := o.bind fun p => if p.1.id < B then some p.1 else none
def slotOf (B : Int) (D : Dev) (k : Nat) : Option Tg := if (D.tells ((k : Int) + 1)).1 = 0 then tagB B (decodeF (D.tells ((k : Int) + 1)).2) else none
theorem fndAdd_tag (B : Int) (k : Nat) (L : List Fnd) (o : Option (Tg × List UInt8)) : fndAdd B k L o = match tagB B o with | some t => L ++ [(t, k)] | none => L := by
  cases o with
  | none => rfl
  | some p =>
    by_cases h : p.1.id < B
    · rw [fndAdd_yes h]; simp [tagB, h]
    · rw [fndAdd_no h]; simp [tagB, h]
def RowT (B : Int) (D : Dev) (P : Nat) (z : Tg) (hs : List Bool) (ts : List Tg) : Prop := ∀ k, k < P → slotOf B D k = if hs.getD k false = true then some (ts.getD k z) else none
theorem fnds_found {B : Int} {D : Dev} {P : Nat} {z : Tg} {hs : List Bool} {ts : List Tg} (h : RowT B D P z hs ts) : ∀ k, k ≤ P → fndsN B D k = foundL z hs ts k := by
  intro k
  induction k with
  | zero => intro _; rfl
  | succ k ih =>
    intro hk
    have h1 := h k (by omega)
    rw [fndsN_succ, ih (by omega)]
    unfold slotOf at h1
    show _ = if hs.getD k false = true then foundL z hs ts k ++ [(ts.getD k z, k)] else foundL z hs ts k
    by_cases hc : (D.tells ((k : Int) + 1)).1 = 0
    · rw [if_pos hc] at h1 ⊢
      rw [fndAdd_tag, h1]
      cases hb : hs.getD k false <;> rfl
    · rw [if_neg hc] at h1 ⊢
      split
      · rename_i hb; rw [if_pos hb] at h1; cases h1
      · rfl
/-- A device that is up, on which nothing waits. -/
structure DRow (D : Dev) (P : Nat) : Prop where
  ok : D.Ok
  calm : D.Calm
  wait : D.wait = []
  len : D.sec.length = P + 1
theorem fresh_row {P : Nat} (h : P ≤ 1000) : DRow (Dev.fresh (P + 1)) P := ⟨fresh_ok _ (by omega), fresh_calm _, rfl, devLen _⟩
theorem row_fresh (B : Int) (P : Nat) (z : Tg) (ts : List Tg) : RowT B (Dev.fresh (P + 1)) P z (List.replicate P false) ts := fun k hk => by
  unfold slotOf
  rw [tells_fresh, if_pos rfl]
  have : (List.replicate P false).getD k false = false := by rw [List.getD, List.getElem?_replicate]; split <;> rfl
  rw [decodeF_zs, this]; rfl
theorem flushed_wait (D : Dev) : D.flushed.wait = [] := rfl
/-- A write that is flushed. -/
theorem put_row {D : Dev} {P q : Nat} (h : DRow D P) (hq : q < P) (hP : P ≤ 1000) {l : List UInt8} (hl : l.length = 512) :
    ∃ D1 D2, D.write ((q : Int) + 1) l = (0, D1) ∧ D1.Ok ∧ D1.flush = (0, D2) ∧ DRow D2 P ∧ ∀ k, k < P → D2.tells ((k : Int) + 1) = if k = q then (0, l) else D.tells ((k : Int) + 1) := by
  have hlen := h.len
  have hhas : ∀ k, k < P → D.has ((k : Int) + 1) := fun k hk => by unfold Dev.has; omega
  have hw := h.calm.write (hhas q hq) hl
  rw [h.wait, List.nil_append] at hw
  have hc1 : ({ D with cw := i64w (D.cw + 1), wait := [((q : Int) + 1, l)] } : Dev).Calm := ⟨h.calm.down, h.calm.armed⟩
  have ho1 : ({ D with cw := i64w (D.cw + 1), wait := [((q : Int) + 1, l)] } : Dev).Ok := ⟨h.ok.n, fun x hx => by
    have : x = ((q : Int) + 1, l) := by simpa using hx
    rw [this]; exact hhas q hq, by simp, h.ok.keep⟩
  refine ⟨_, _, hw, ho1, hc1.flush, ⟨⟨?_, ?_, ?_, ?_⟩, flushed_calm hc1, flushed_wait _, ?_⟩, fun k hk => ?_⟩
  · rw [(flushed_counts _).2.2.2]; exact h.ok.n
  · intro x hx; rw [flushed_wait] at hx; simp at hx
  · rw [flushed_wait]; simp
  · have := (doneAll_same { D with cw := i64w (D.cw + 1), wait := [((q : Int) + 1, l)], cf := i64w (D.cf + 1) } [((q : Int) + 1, l)]).2.2.2.2.2.2.1
    have e : ({ D with cw := i64w (D.cw + 1), wait := [((q : Int) + 1, l)] } : Dev).flushed.keep = D.keep := this
    rw [e]; exact h.ok.keep
  · rw [(flushed_counts _).2.2.2]; exact h.len
  · rw [flushed_tells ho1 _ (hhas k hk)]
    have hwt := write_tells { D with wait := [] } ((q : Int) + 1) l (i64w (D.cw + 1)) ((k : Int) + 1)
    have e : ({ D with cw := i64w (D.cw + 1), wait := [((q : Int) + 1, l)] } : Dev) = { ({ D with wait := [] } : Dev) with cw := i64w (D.cw + 1), wait := ({ D with wait := [] } : Dev).wait ++ [((q : Int) + 1, l)] } := rfl
    rw [e, hwt]
    have e2 : ({ D with wait := [] } : Dev) = D := by
      have := h.wait
      obtain ⟨a1, a2, a3, a4, a5, a6, a7, a8, a9, a10⟩ := D
      simp only at this
      subst this; rfl
    rw [e2]
    by_cases hkq : k = q
    · subst hkq; rw [if_pos rfl, if_pos rfl, padTo_self hl]
    · rw [if_neg hkq, if_neg (by omega)]
/-- A write that is torn. -/
theorem tear_row {D : Dev} {P q : Nat} (h : DRow D P) (hq : q < P) (hP : P ≤ 1000) {l : List UInt8} (hl : l.length = 512) :
    ∃ D1 D2, D.write ((q : Int) + 1) l = (0, D1) ∧ D1.Ok ∧ Dev.start (D1.crash [2]) = (0, D2) ∧ DRow D2 P ∧ ∀ k, k < P → D2.tells ((k : Int) + 1) = if k = q then (3, []) else D.tells ((k : Int) + 1) := by
  have hlen := h.len
  have hhas : ∀ k, k < P → D.has ((k : Int) + 1) := fun k hk => by unfold Dev.has; omega
  have hw := h.calm.write (hhas q hq) hl
  rw [h.wait, List.nil_append] at hw
  have ho1 : ({ D with cw := i64w (D.cw + 1), wait := [((q : Int) + 1, l)] } : Dev).Ok := ⟨h.ok.n, fun x hx => by
    have : x = ((q : Int) + 1, l) := by simpa using hx
    rw [this]; exact hhas q hq, by simp, h.ok.keep⟩
  refine ⟨_, { D with cw := i64w (D.cw + 1), wait := [], torn := SL.upd D.torn ((q : Int) + 1) (), down := false, armed := false, left := 0, keep := [] }, hw, ho1, ?_, ⟨⟨h.ok.n, fun x hx => by simp at hx, by simp, by simp⟩, ⟨rfl, rfl⟩, rfl, h.len⟩, fun k hk => ?_⟩
  · rfl
  · unfold Dev.tells
    simp only [h.wait, newest_nil, kget_upd]
    by_cases hkq : k = q
    · subst hkq; simp
    · have : ¬ (k : Int) + 1 = (q : Int) + 1 := by omega
      rw [if_neg this, if_neg hkq]
theorem slot_set {B : Int} {D D2 : Dev} {P q : Nat} {z t : Tg} {l : List UInt8} {hs : List Bool} {ts : List Tg} (h : RowT B D P z hs ts) (h1 : hs.length = P) (h2 : ts.length = P) (ht : ∀ k, k < P → D2.tells ((k : Int) + 1) = if k = q then (0, l) else D.tells ((k : Int) + 1)) {b : List UInt8} (hd : decodeF l = some (t, b)) (hq : q < P) :
    RowT B D2 P z (hs.set q (decide (t.id < B))) (ts.set q t) := fun k hk => by
  have := h k hk
  unfold slotOf at this ⊢
  rw [ht k hk]
  by_cases hkq : k = q
  · subst hkq
    rw [if_pos rfl, if_pos rfl, hd]
    have e1 : (hs.set k (decide (t.id < B))).getD k false = decide (t.id < B) := by simp [List.getD, List.getElem?_set, h1, hk]
    have e2 : (ts.set k t).getD k z = t := by simp [List.getD, List.getElem?_set, h2, hk]
    rw [e1, e2]
    by_cases hb : t.id < B <;> simp [tagB, hb]
  · rw [if_neg hkq, this]
    have e1 : (hs.set q (decide (t.id < B))).getD k false = hs.getD k false := by simp [List.getD, List.getElem?_set, Ne.symm hkq]
    have e2 : (ts.set q t).getD k z = ts.getD k z := by simp [List.getD, List.getElem?_set, Ne.symm hkq]
    rw [e1, e2]
theorem slot_tear {B : Int} {D D2 : Dev} {P q : Nat} {z : Tg} {hs : List Bool} {ts : List Tg} (h : RowT B D P z hs ts) (h1 : hs.length = P) (ht : ∀ k, k < P → D2.tells ((k : Int) + 1) = if k = q then (3, []) else D.tells ((k : Int) + 1)) (hq : q < P) :
    RowT B D2 P z (hs.set q false) ts := fun k hk => by
  have := h k hk
  unfold slotOf at this ⊢
  rw [ht k hk]
  by_cases hkq : k = q
  · subst hkq
    rw [if_pos rfl, if_neg (by decide)]
    have e1 : (hs.set k false).getD k false = false := by simp [List.getD, List.getElem?_set, h1, hk]
    rw [e1]; rfl
  · rw [if_neg hkq, this]
    have e1 : (hs.set q false).getD k false = hs.getD k false := by simp [List.getD, List.getElem?_set, Ne.symm hkq]
    rw [e1]
end Go.Proofs.Ytlfooilcngjeiaa
namespace Go.SL
set_option linter.unusedVariables false
set_option linter.unusedSimpArgs false
open Go.RowKit
def setLs : Array Value → Nat → List Value → Array Value
  | cs, _, [] => cs
  | cs, o, v :: vs => setLs (cs.setIfInBounds o v) (o + 1) vs
theorem setLs_size : ∀ (vs : List Value) (cs : Array Value) (o : Nat), (setLs cs o vs).size = cs.size
  | [], cs, o => rfl
  | v :: vs, cs, o => by rw [setLs, setLs_size vs]; simp
theorem setLs_get : ∀ (vs : List Value) (cs : Array Value) (o k : Nat), o + vs.length ≤ cs.size → (setLs cs o vs)[k]? = if o ≤ k ∧ k < o + vs.length then vs[k - o]? else cs[k]?
  | [], cs, o, k, h => by rw [setLs, if_neg (by simp)]
  | v :: vs, cs, o, k, h => by
    simp only [List.length_cons] at h
    rw [setLs, setLs_get vs _ (o + 1) k (by simp; omega)]
    by_cases h1 : k = o
    · subst h1
      rw [if_neg (by omega), if_pos (by simp)]
      simp [Array.getElem?_setIfInBounds, show k < cs.size by omega]
    · by_cases h2 : o ≤ k ∧ k < o + (v :: vs).length
      · simp only [List.length_cons] at h2
        rw [if_pos (by omega), if_pos (by simp only [List.length_cons]; omega)]
        rw [show k - o = (k - (o + 1)) + 1 by omega, List.getElem?_cons_succ]
      · simp only [List.length_cons] at h2
        rw [if_neg (by omega), if_neg (by simp only [List.length_cons]; omega)]
        rw [Array.getElem?_setIfInBounds, if_neg (by omega)]
theorem Sat.setCells : ∀ (vs : List Value) (o : Nat) {w : World} {g : Nat} {cs : Array Value} {T : TypeId} {F : Assn}, Sat w (pt g (.cells cs T (0, 0)) * F) → Sat (w.setCells g o vs) (pt g (.cells (setLs cs o vs) T (0, 0)) * F)
  | [], o, w, g, cs, T, F, h => h
  | v :: vs, o, w, g, cs, T, F, h => Sat.setCells vs (o + 1) (h.setCell o v)
theorem Side.setCells : ∀ (vs : List Value) (o : Nat) {a b : World} (g : Nat), Side a b → Side a (b.setCells g o vs)
  | [], o, a, b, g, h => h
  | v :: vs, o, a, b, g, h => Side.setCells vs (o + 1) g (h.setCell ⟨g, o, none⟩ v)
theorem Sat.there {w : World} {g : Nat} {cs : Array Value} {T : TypeId} {F : Assn} (h : Sat w (pt g (.cells cs T (0, 0)) * F)) {o n : Nat} (hn : o + n ≤ cs.size) : w.there g o n := fun j hj =>
  ⟨by rw [h.cell, Array.getElem?_eq_getElem (by omega)]; rfl, h.frozen _⟩
/-- Tags, one behind the other. -/
def flatT (ts : List Tg) : List Value := ts.flatMap fun t => t.cells.toList
def tagsC (ts : List Tg) : Array Value := (flatT ts).toArray
theorem flatT_length (ts : List Tg) : (flatT ts).length = ts.length * 7 := by
  induction ts with
  | nil => rfl
  | cons t ts ih => rw [flatT, List.flatMap_cons, List.length_append]; show 7 + (flatT ts).length = _; rw [ih, List.length_cons]; omega
theorem flatT_get : ∀ (ts : List Tg) (i j : Nat) (h : i < ts.length), j < 7 → (flatT ts)[i * 7 + j]? = (ts[i].cells)[j]? := by
  intro ts
  induction ts with
  | nil => intro i j h; simp at h
  | cons t ts ih =>
    intro i j h hj
    rw [flatT, List.flatMap_cons]
    cases i with
    | zero =>
      rw [List.getElem?_append_left (by show _ < 7; omega)]
      simp
    | succ i =>
      rw [List.getElem?_append_right (by show 7 ≤ _; omega)]
      show (flatT ts)[(i + 1) * 7 + j - 7]? = _
      rw [show (i + 1) * 7 + j - 7 = i * 7 + j by omega, ih i j (by simpa using h) hj]
      simp
theorem tagsC_size (ts : List Tg) : (tagsC ts).size = ts.length * 7 := by simp [tagsC, flatT_length]
theorem tagsC_get (ts : List Tg) (i j : Nat) (h : i < ts.length) (hj : j < 7) : (tagsC ts)[i * 7 + j]? = (ts[i].cells)[j]? := by
  rw [tagsC, List.getElem?_toArray, flatT_get ts i j h hj]
theorem tagsC_set (ts : List Tg) (i : Nat) (t : Tg) (h : i < ts.length) : setLs (tagsC ts) (i * 7) t.cells.toList = tagsC (ts.set i t) := by
  have hl : t.cells.toList.length = 7 := rfl
  apply Array.ext_getElem?
  intro k
  rw [setLs_get _ _ _ _ (by rw [tagsC_size, hl]; have := Nat.mul_le_mul_right 7 (show i + 1 ≤ ts.length by omega); omega), hl]
  by_cases hk : k < ts.length * 7
  · obtain ⟨a, b, hb, rfl⟩ : ∃ a b, b < 7 ∧ k = a * 7 + b := ⟨k / 7, k % 7, Nat.mod_lt _ (by omega), by omega⟩
    have ha : a < ts.length := by omega
    rw [tagsC_get (ts.set i t) a b (by simpa using ha) hb]
    by_cases hai : a = i
    · subst hai
      rw [if_pos (by omega), show a * 7 + b - a * 7 = b by omega]
      simp
    · rw [if_neg (by omega), tagsC_get ts a b ha hb, List.getElem_set, if_neg (Ne.symm hai)]
  · rw [if_neg (by have := Nat.mul_le_mul_right 7 (show i + 1 ≤ ts.length by omega); omega)]
    rw [Array.getElem?_eq_none (by rw [tagsC_size]; omega), Array.getElem?_eq_none (by rw [tagsC_size, List.length_set]; omega)]
theorem made_tags (n : Nat) : madeCells (Value.agg Tg.zero.cells).cells (n * 7) = tagsC (List.replicate n Tg.zero) := by
  apply Array.ext_getElem?
  intro k
  by_cases hk : k < n * 7
  · obtain ⟨a, b, hb, rfl⟩ : ∃ a b, b < 7 ∧ k = a * 7 + b := ⟨k / 7, k % 7, Nat.mod_lt _ (by omega), by omega⟩
    have ha : a < n := by omega
    rw [tagsC_get _ a b (by simpa using ha) hb, List.getElem_replicate, Array.getElem?_eq_getElem (by rw [size_madeCells]; exact hk)]
    have hz : (Value.agg Tg.zero.cells).cells = Tg.zero.cells := rfl
    have hs : Tg.zero.cells.size = 7 := rfl
    rw [Array.getElem?_eq_getElem (by rw [hs]; exact hb)]
    simp only [madeCells, hz, Array.getElem_map, Array.getElem_range, hs]
    rw [show (a * 7 + b) % 7 = b by omega, getElem!_pos Tg.zero.cells b (by rw [hs]; exact hb)]
  · rw [Array.getElem?_eq_none (by rw [size_madeCells]; omega), Array.getElem?_eq_none (by rw [tagsC_size]; simp; omega)]
def mks (l : List Bool) : Array Value := (l.map Value.bool).toArray
theorem size_mks (l : List Bool) : (mks l).size = l.length := by simp [mks]
theorem get_mks {l : List Bool} {i : Nat} (h : i < l.length) : (mks l)[i]? = some (.bool (l.getD i false)) := by
  simp [mks, List.getD, List.getElem?_eq_getElem h]
theorem set_mks (l : List Bool) (i : Nat) (x : Bool) : (mks l).setIfInBounds i (.bool x) = mks (l.set i x) := by simp [mks, List.map_set]
theorem made_mks (n : Nat) : madeCells (Value.bool false).cells (n * 1) = mks (List.replicate n false) := by
  apply Array.ext
  · simp [size_madeCells, size_mks]
  · intro i h1 h2
    simp [madeCells, mks, Value.cells, Nat.mod_one]
end Go.SL
namespace Go.Proofs.Ytlfooilcngjeiaa
set_option linter.unusedVariables false
set_option linter.unusedSimpArgs false
open Go.RowKit Go.SL
theorem info_refTag : (Try.prog.info? 80).map (fun i => (i.zero, i.size, i.bytes)) = some (some (.agg #[.int .u32 0, .int .u64 0, .int .u64 0, .int .u64 0, .int .i64 0, .int .i64 0, .int .i64 0]), 7, 56) := by kernel_rfl
theorem info_mark : (Try.prog.info? 4).map (fun i => (i.zero, i.size, i.bytes)) = some (some (.bool false), 1, 1) := by kernel_rfl
theorem make_mks (n : Nat) (hn : n ≤ 1048576) (w : World) : (Instr.makeSlice 60 (.int .i64 n) (.int .i64 n)).run Try.prog w =
    .ok (.slice (some ⟨w.heap.size, 0, none⟩) n n) (w.alloc (.cells (mks (List.replicate n false)) 4 (0, 0))) := by
  obtain ⟨i, hi, hz, hs, hb⟩ := info_parts info_mark
  have := run_make (P := Try.prog) w 60 4 i _ Try.underlying60 hi hz .i64 .i64 n n (by omega) (by omega) (by rw [hb]; omega) (by omega)
  rw [this, hs]
  simp only [Int.toNat_natCast]
  rw [made_mks]
theorem make_tags (n : Nat) (hn : n ≤ 1048576) (w : World) : (Instr.makeSlice 72 (.int .i64 n) (.int .i64 n)).run Try.prog w =
    .ok (.slice (some ⟨w.heap.size, 0, none⟩) n n) (w.alloc (.cells (tagsC (List.replicate n Tg.zero)) 80 (0, 0))) := by
  obtain ⟨i, hi, hz, hs, hb⟩ := info_parts info_refTag
  have := run_make (P := Try.prog) w 72 80 i _ Try.underlying72 hi hz .i64 .i64 n n (by omega) (by omega) (by rw [hb]; omega) (by omega)
  rw [this, hs]
  simp only [Int.toNat_natCast]
  exact congrArg (fun c => Result.ok _ (w.alloc (.cells c _ (0, 0)))) (made_tags n)
end Go.Proofs.Ytlfooilcngjeiaa

/- file, plainly: a batch over a good reader, and what a work does over views (no program in sight). -/
import Derived.Test.YtaoohjeaaccnfaaOd
namespace Go.SL
set_option linter.unusedVariables false
set_option linter.unusedSimpArgs false
open Go.RowKit
section
variable {σ α β : Type}
/-- A reader that has blocks V, of which there are n, and keeps on. -/
structure Rdr (ask : Asks σ) (n : Nat) (V : Nat → List UInt8) (I : σ → Prop) : Prop where
  len : ∀ i, i < n → (V i).length = 480
  ans : ∀ (s : σ) (i : Nat), I s → i < n → (ask s (i : Int)).1 = (0, V i) ∧ I (ask s (i : Int)).2
/-- A batch that is over it. -/
structure Good (n : Nat) (V : Nat → List UInt8) (I : σ → Prop) (b : Bst σ) : Prop where
  err : b.err = 0
  inv : I b.s
  wr : ∀ (i : Nat) l, i < n → kget b.W (i : Int) = some l → l.length = 480
  rd : ∀ (i : Nat) l, i < n → kget b.D (i : Int) = some l → l = V i
/-- What a block has. -/
def vw (V : Nat → List UInt8) (W : List (Int × List UInt8)) (i : Nat) : List UInt8 := (kget W (i : Int)).getD (V i)
/-- What a work works on: blocks, and the bitmap. -/
structure Aw where
  V : Nat → List UInt8
  B : List UInt8
structure Rel (n : Nat) (V0 : Nat → List UInt8) (I : σ → Prop) (st : Wst σ) (a : Aw) : Prop where
  good : Good n V0 I st.b
  view : ∀ i, 0 < i → i < n → vw V0 st.b.W i = a.V i
  bits : st.bits = some a.B ∨ (st.bits = none ∧ st.dt = false ∧ vw V0 st.b.W 0 = a.B)
  dt : st.dt = false → vw V0 st.b.W 0 = a.B
  len : a.B.length = 480
def upV (V : Nat → List UInt8) (i : Nat) (l : List UInt8) : Nat → List UInt8 := fun k => if k = i then l else V k
theorem vw_upd (V : Nat → List UInt8) (W : List (Int × List UInt8)) (i : Nat) (l : List UInt8) (k : Nat) : vw V (SL.upd W (i : Int) l) k = if k = i then l else vw V W k := by
  unfold vw
  rw [kget_upd]
  by_cases h : k = i
  · subst h; rw [if_pos rfl, if_pos rfl]; rfl
  · rw [if_neg h, if_neg (by omega)]
theorem Good.vlen {n : Nat} {V : Nat → List UInt8} {I : σ → Prop} {b : Bst σ} {ask : Asks σ} (hr : Rdr ask n V I) (h : Good n V I b) {i : Nat} (hi : i < n) : (vw V b.W i).length = 480 := by
  unfold vw
  cases hk : kget b.W (i : Int) with
  | some l => exact h.wr i l hi hk
  | none => exact hr.len i hi
/-- What a method of a work does, from a on: it answers so, or ends with such an error. -/
def Does (n : Nat) (V0 : Nat → List UInt8) (I : σ → Prop) (m : WM σ α) (a : Aw) (P : α → Aw → Prop) (E : Int → Prop) : Prop :=
  ∀ st, Rel n V0 I st a → match m st with
    | (.ok x, st') => ∃ a', Rel n V0 I st' a' ∧ P x a'
    | (.bad c, st') => I st'.b.s ∧ E c
variable {n : Nat} {V0 : Nat → List UInt8} {I : σ → Prop} {ask : Asks σ} {m : WM σ α} {a : Aw} {P : α → Aw → Prop} {E : Int → Prop}
theorem Does.bind {k : α → WM σ β} {R : β → Aw → Prop} (h : Does n V0 I m a P E) (hk : ∀ x a', P x a' → Does n V0 I (k x) a' R E) : Does n V0 I (m ⇝ k) a R E := by
  intro st hst
  have := h st hst
  unfold WM.bind
  match hm : m st, this with
  | (.ok x, st'), ⟨a', h1, h2⟩ => exact hk x a' h2 st' h1
  | (.bad c, st'), h1 => exact h1
theorem Does.mono {P' : α → Aw → Prop} {E' : Int → Prop} (h : Does n V0 I m a P E) (hP : ∀ x a', P x a' → P' x a') (hE : ∀ c, E c → E' c) : Does n V0 I m a P' E' := by
  intro st hst
  have := h st hst
  match hm : m st, this with
  | (.ok x, st'), ⟨a', h1, h2⟩ => exact ⟨a', h1, hP _ _ h2⟩
  | (.bad c, st'), h1 => exact ⟨h1.1, hE _ h1.2⟩
theorem Does.pure {x : α} (h : P x a) : Does n V0 I (WM.pure x) a P E := fun st hst => ⟨a, hst, h⟩
theorem Does.bad {c : Int} (h : E c) : Does n V0 I (fun st => ((.bad c, st) : Rs α × Wst σ)) a P E := fun st hst => ⟨hst.good.inv, h⟩
theorem Does.fail {c : Int} (h : E c) : Does n V0 I (WM.fail c : WM σ α) a P E := fun st hst => ⟨hst.good.inv, h⟩
theorem Does.congr {m' : WM σ α} (h : Does n V0 I m' a P E) (e : ∀ st, m st = m' st) : Does n V0 I m a P E := fun st hst => by
  have := h st hst; rw [← e st] at this; exact this
theorem bread_good (hr : Rdr ask n V0 I) {b : Bst σ} (h : Good n V0 I b) {i : Nat} (hi : i < n) :
    ∃ b', bread ask b (i : Int) = ((0, vw V0 b.W i), b') ∧ b'.W = b.W ∧ Good n V0 I b' := by
  unfold bread vw
  rw [if_neg (by rw [h.err]; simp)]
  cases hw : kget b.W (i : Int) with
  | some l => exact ⟨b, rfl, rfl, h⟩
  | none =>
    cases hd : kget b.D (i : Int) with
    | some l => exact ⟨b, by rw [h.rd i l hi hd]; rfl, rfl, h⟩
    | none =>
      obtain ⟨h1, h2⟩ := hr.ans b.s i h.inv hi
      refine ⟨{ b with D := SL.upd b.D (i : Int) (V0 i), s := (ask b.s (i : Int)).2 }, ?_, rfl, h.err, h2, h.wr, fun k l hk hl => ?_⟩
      · show breadA ask b (i : Int) = _
        unfold breadA
        rw [h1]; rfl
      · rw [kget_upd] at hl
        split at hl
        · rename_i e; cases hl; congr 1; omega
        · exact h.rd k l hk hl
theorem wread_rel (hr : Rdr ask n V0 I) {st : Wst σ} (h : Good n V0 I st.b) {i : Nat} (hi : i < n) :
    ∃ b', wread ask (i : Int) st = (.ok (vw V0 st.b.W i), { st with b := b' }) ∧ b'.W = st.b.W ∧ Good n V0 I b' := by
  obtain ⟨b', h1, h2, h3⟩ := bread_good hr h hi
  refine ⟨b', ?_, h2, h3⟩
  unfold wread
  rw [h1]
  rw [if_neg (by simp), if_neg (by simp [h.vlen hr hi])]
theorem Does.read (hr : Rdr ask n V0 I) {i : Nat} (h0 : 0 < i) (hi : i < n) : Does n V0 I (wread ask (i : Int)) a (fun l a' => l = a.V i ∧ l.length = 480 ∧ a' = a) E := by
  intro st hst
  obtain ⟨b', h1, h2, h3⟩ := wread_rel hr hst.good hi
  rw [h1]
  refine ⟨a, ⟨h3, fun k hk hk2 => ?_, ?_, fun hd => ?_, hst.len⟩, hst.view i h0 hi, hst.good.vlen hr hi, rfl⟩
  · show vw V0 b'.W k = _; rw [h2]; exact hst.view k hk hk2
  · show st.bits = _ ∨ (st.bits = none ∧ st.dt = false ∧ vw V0 b'.W 0 = _); rw [h2]; exact hst.bits
  · show vw V0 b'.W 0 = _; rw [h2]; exact hst.dt hd
theorem Does.write {i : Nat} {l : List UInt8} (h0 : 0 < i) (hl : l.length = 480) : Does n V0 I (wwrite (i : Int) l) a (fun _ a' => a' = { a with V := upV a.V i l }) E := by
  intro st hst
  have e : writeE st.b.err (i : Int) l = 0 := by
    unfold writeE; rw [hst.good.err, if_neg (by simp), if_neg (by omega)]
  have e2 : wwrite (i : Int) l st = (.ok (), { st with b := { st.b with W := SL.upd st.b.W (i : Int) l } }) := if_pos e
  rw [e2]
  refine ⟨{ a with V := upV a.V i l }, ⟨⟨hst.good.err, hst.good.inv, fun k l' hk h' => ?_, hst.good.rd⟩, fun k hk hk2 => ?_, ?_, fun hd => ?_, hst.len⟩, rfl⟩
  · have h'' : kget (SL.upd st.b.W (i : Int) l) (k : Int) = some l' := h'
    rw [kget_upd] at h''
    split at h''
    · cases h''; exact hl
    · exact hst.good.wr k l' hk h''
  · show vw V0 (SL.upd st.b.W (i : Int) l) k = upV a.V i l k
    rw [vw_upd]; unfold upV
    split
    · rfl
    · exact hst.view k hk hk2
  · rcases hst.bits with h | ⟨h, h1, h2⟩
    · exact .inl h
    · refine .inr ⟨h, h1, ?_⟩
      show vw V0 (SL.upd st.b.W (i : Int) l) 0 = a.B
      rw [vw_upd, if_neg (by omega)]; exact h2
  · show vw V0 (SL.upd st.b.W (i : Int) l) 0 = a.B
    rw [vw_upd, if_neg (by omega)]; exact hst.dt hd
theorem Does.bits (hr : Rdr ask n V0 I) (h0 : 0 < n) : ∀ st, Rel n V0 I st a → ∃ st', wbits ask st = (.ok a.B, st') ∧ Rel n V0 I st' a ∧ st'.bits = some a.B := by
  intro st hst
  unfold wbits
  rcases hst.bits with h | ⟨h, h1, h2⟩
  · rw [h]; exact ⟨st, rfl, hst, h⟩
  · rw [h]
    obtain ⟨b', e1, e2, e3⟩ := wread_rel hr hst.good h0
    have e1' : wread ask 0 st = (.ok (vw V0 st.b.W 0), { st with b := b' }) := e1
    dsimp only
    rw [e1', h2]
    refine ⟨_, rfl, ⟨e3, fun k hk hk2 => ?_, .inl rfl, fun hd => ?_, hst.len⟩, rfl⟩
    · show vw V0 b'.W k = _; rw [e2]; exact hst.view k hk hk2
    · show vw V0 b'.W 0 = _; rw [e2]; exact h2
theorem Does.mark (hr : Rdr ask n V0 I) (h0 : 0 < n) {id : Nat} {t : Bool} : Does n V0 I (wmark ask id t) a (fun _ a' => a' = { a with B := setTo a.B id t }) E := by
  intro st hst
  obtain ⟨st', h1, h2, h3⟩ := Does.bits hr h0 st hst
  have e : wmark ask id t st = wmarkK id t a.B st' := WM.bind_ok h1
  rw [e]
  unfold wmarkK
  exact ⟨{ a with B := setTo a.B id t }, ⟨h2.good, h2.view, .inl rfl, fun hd => by simp at hd, by rw [setTo_length]; exact h2.len⟩, rfl⟩
theorem Does.take (hr : Rdr ask n V0 I) (h0 : 0 < n) (hE : freeOf a.B n = none → E 7) : Does n V0 I (wtake ask n) a (fun k a' => freeOf a.B n = some k ∧ a' = { a with B := setTo a.B k true }) E := by
  intro st hst
  obtain ⟨st', h1, h2, h3⟩ := Does.bits hr h0 st hst
  have e : wtake ask n st = wtakeK n a.B st' := WM.bind_ok h1
  rw [e]
  unfold wtakeK
  cases hf : freeOf a.B n with
  | none => exact ⟨h2.good.inv, hE hf⟩
  | some k => exact ⟨{ a with B := setTo a.B k true }, ⟨h2.good, h2.view, .inl rfl, fun hd => by simp at hd, by rw [setTo_length]; exact h2.len⟩, rfl, rfl⟩
/-- How a batch is, as a work's beginning. -/
def awOf (V0 : Nat → List UInt8) (M : Bst σ) : Aw := ⟨vw V0 M.W, vw V0 M.W 0⟩
theorem Rel.start (hr : Rdr ask n V0 I) (h0 : 0 < n) {M : Bst σ} (h : Good n V0 I M) : Rel n V0 I ⟨M, none, false⟩ (awOf V0 M) :=
  ⟨h, fun _ _ _ => rfl, .inr ⟨rfl, rfl, rfl⟩, fun _ => rfl, h.vlen hr h0⟩
/-- A whole call. -/
theorem Does.run (hr : Rdr ask n V0 I) (h0 : 0 < n) {M : Bst σ} (hM : Good n V0 I M) (h : Does n V0 I m (awOf V0 M) P E) :
    (∃ x M' a', wrun m M = (.ok x, M') ∧ Good n V0 I M' ∧ P x a' ∧ vw V0 M'.W 0 = a'.B ∧ ∀ i, 0 < i → i < n → vw V0 M'.W i = a'.V i) ∨
    (∃ c s', wrun m M = (.bad c, { M with s := s' }) ∧ I s' ∧ E c) := by
  have h1 := h _ (Rel.start hr h0 hM)
  match hm : m ⟨M, none, false⟩, h1 with
  | (.ok x, st'), ⟨a', h2, h3⟩ =>
    cases hd : st'.dt with
    | false => exact .inl ⟨x, st'.b, a', wrun_ok hm hd, h2.good, h3, h2.dt hd, h2.view⟩
    | true =>
      have hb : st'.bits = some a'.B := by
        rcases h2.bits with hb | ⟨_, hb, _⟩
        · exact hb
        · rw [hd] at hb; cases hb
      have e : writeE st'.b.err 0 (st'.bits.getD []) = 0 := by
        unfold writeE; rw [h2.good.err, if_neg (by simp), hb]; simp [h2.len]
      have e2 : wwrite 0 (st'.bits.getD []) st' = (.ok (), { st' with b := { st'.b with W := SL.upd st'.b.W 0 (st'.bits.getD []) } }) := if_pos e
      refine .inl ⟨x, _, a', wrun_wr hm hd e2, ⟨h2.good.err, h2.good.inv, fun k l' hk h' => ?_, h2.good.rd⟩, h3, ?_, fun k hk hk2 => ?_⟩
      · have h'' : kget (SL.upd st'.b.W ((0 : Nat) : Int) (st'.bits.getD [])) (k : Int) = some l' := h'
        rw [kget_upd] at h''
        split at h''
        · cases h''; rw [hb]; exact h2.len
        · exact h2.good.wr k l' hk h''
      · have := vw_upd V0 st'.b.W 0 (st'.bits.getD []) 0
        rw [if_pos rfl, hb] at this
        rw [hb]; exact this
      · have := vw_upd V0 st'.b.W 0 (st'.bits.getD []) k
        rw [if_neg (by omega)] at this
        exact this.trans (h2.view k hk hk2)
  | (.bad c, st'), h2 => exact .inr ⟨c, st'.b.s, wrun_bad hm, h2.1, h2.2⟩
end
end Go.SL

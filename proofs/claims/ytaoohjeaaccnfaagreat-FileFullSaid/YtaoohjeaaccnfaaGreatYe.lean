/- file, plainly: a batch over a good reader, and what a work does over views (no program in sight). file, plainly: what a node's block tells is what was written; who has which block; how many are free. file, plainly: the layout of a space, and how it changes. file, plainly: what lies in the blocks; load and save. file, plainly: files as who calls a space has them; what is told. -/
import Derived.Test.YtaoohjeaaccnfaaGreatOd
namespace Go.SL
set_option linter.unusedVariables false
set_option linter.unusedSimpArgs false
open Go.RowKit
section
variable {σ α β : Type}
/-- A reader that has blocks V, of which there are n, and keeps on. -/
structure Rdr (ask : Asks σ) (n : Nat) (V : Nat → List UInt8) (I : σ → Prop) : Prop where
  len : ∀ i, i < n → (V i).length = 480
  ans : ∀ (s : σ) (i : Nat), I s → i < n → (ask s (i : Int)).1 = (0, V i) ∧ I (ask s (i : Int)).2
/-- A batch that is over it. -/
structure Good (n : Nat) (V : Nat → List UInt8) (I : σ → Prop) (b : Bst σ) : Prop where
  err : b.err = 0
  inv : I b.s
  wr : ∀ (i : Nat) l, i < n → kget b.W (i : Int) = some l → l.length = 480
  rd : ∀ (i : Nat) l, i < n → kget b.D (i : Int) = some l → l = V i
  keys : ∀ p ∈ b.W, 0 ≤ p.1 ∧ p.1 < (n : Int)
/-- What a block has. -/
def vw (V : Nat → List UInt8) (W : List (Int × List UInt8)) (i : Nat) : List UInt8 := (kget W (i : Int)).getD (V i)
/-- What a work works on: blocks, and the bitmap. -/
structure Aw where
  V : Nat → List UInt8
  B : List UInt8
structure Rel (n : Nat) (V0 : Nat → List UInt8) (I : σ → Prop) (st : Wst σ) (a : Aw) : Prop where
  good : Good n V0 I st.b
  view : ∀ i, 0 < i → i < n → vw V0 st.b.W i = a.V i
  bits : st.bits = some a.B ∨ (st.bits = none ∧ st.dt = false ∧ vw V0 st.b.W 0 = a.B)
  dt : st.dt = false → vw V0 st.b.W 0 = a.B
  len : a.B.length = 480
def upV (V : Nat → List UInt8) (i : Nat) (l : List UInt8) : Nat → List UInt8 := fun k => if k = i then l else V k
theorem vw_upd (V : Nat → List UInt8) (W : List (Int × List UInt8)) (i : Nat) (l : List UInt8) (k : Nat) : vw V (SL.upd W (i : Int) l) k = if k = i then l else vw V W k := by
  unfold vw
  rw [kget_upd]
  by_cases h : k = i
  · subst h; rw [if_pos rfl, if_pos rfl]; rfl
  · rw [if_neg h, if_neg (by omega)]
theorem Good.vlen {n : Nat} {V : Nat → List UInt8} {I : σ → Prop} {b : Bst σ} {ask : Asks σ} (hr : Rdr ask n V I) (h : Good n V I b) {i : Nat} (hi : i < n) : (vw V b.W i).length = 480 := by
  unfold vw
  cases hk : kget b.W (i : Int) with
  | some l => exact h.wr i l hi hk
  | none => exact hr.len i hi
/-- What a method of a work does, from a on: it answers so, or ends with such an error. -/
def Does (n : Nat) (V0 : Nat → List UInt8) (I : σ → Prop) (m : WM σ α) (a : Aw) (P : α → Aw → Prop) (E : Int → Prop) : Prop :=
  ∀ st, Rel n V0 I st a → match m st with
    | (.ok x, st') => ∃ a', Rel n V0 I st' a' ∧ P x a'
    | (.bad c, st') => I st'.b.s ∧ E c
variable {n : Nat} {V0 : Nat → List UInt8} {I : σ → Prop} {ask : Asks σ} {m : WM σ α} {a : Aw} {P : α → Aw → Prop} {E : Int → Prop}
theorem Does.bind {k : α → WM σ β} {R : β → Aw → Prop} (h : Does n V0 I m a P E) (hk : ∀ x a', P x a' → Does n V0 I (k x) a' R E) : Does n V0 I (WM.bind m k) a R E := by
  intro st hst
  have := h st hst
  unfold WM.bind
  match hm : m st, this with
  | (.ok x, st'), ⟨a', h1, h2⟩ => exact hk x a' h2 st' h1
  | (.bad c, st'), h1 => exact h1
theorem Does.mono {P' : α → Aw → Prop} {E' : Int → Prop} (h : Does n V0 I m a P E) (hP : ∀ x a', P x a' → P' x a') (hE : ∀ c, E c → E' c) : Does n V0 I m a P' E' := by
  intro st hst
  have := h st hst
  match hm : m st, this with
  | (.ok x, st'), ⟨a', h1, h2⟩ => exact ⟨a', h1, hP _ _ h2⟩
  | (.bad c, st'), h1 => exact ⟨h1.1, hE _ h1.2⟩
theorem Does.pure {x : α} (h : P x a) : Does n V0 I (WM.pure x) a P E := fun st hst => ⟨a, hst, h⟩
theorem Does.bad {c : Int} (h : E c) : Does n V0 I (fun st => ((.bad c, st) : Rs α × Wst σ)) a P E := fun st hst => ⟨hst.good.inv, h⟩
theorem Does.fail {c : Int} (h : E c) : Does n V0 I (WM.fail c : WM σ α) a P E := fun st hst => ⟨hst.good.inv, h⟩
theorem Does.congr {m' : WM σ α} (h : Does n V0 I m' a P E) (e : ∀ st, m st = m' st) : Does n V0 I m a P E := fun st hst => by
  have := h st hst; rw [← e st] at this; exact this
theorem bread_good (hr : Rdr ask n V0 I) {b : Bst σ} (h : Good n V0 I b) {i : Nat} (hi : i < n) :
    ∃ b', bread ask b (i : Int) = ((0, vw V0 b.W i), b') ∧ b'.W = b.W ∧ Good n V0 I b' := by
  unfold bread vw
  rw [if_neg (by rw [h.err]; simp)]
  cases hw : kget b.W (i : Int) with
  | some l => exact ⟨b, rfl, rfl, h⟩
  | none =>
    cases hd : kget b.D (i : Int) with
    | some l => exact ⟨b, by rw [h.rd i l hi hd]; rfl, rfl, h⟩
    | none =>
      obtain ⟨h1, h2⟩ := hr.ans b.s i h.inv hi
      refine ⟨{ b with D := SL.upd b.D (i : Int) (V0 i), s := (ask b.s (i : Int)).2 }, ?_, rfl, h.err, h2, h.wr, fun k l hk hl => ?_, h.keys⟩
      · show breadA ask b (i : Int) = _
        unfold breadA
        rw [h1]; rfl
      · rw [kget_upd] at hl
        split at hl
        · rename_i e; cases hl; congr 1; omega
        · exact h.rd k l hk hl
theorem wread_rel (hr : Rdr ask n V0 I) {st : Wst σ} (h : Good n V0 I st.b) {i : Nat} (hi : i < n) :
    ∃ b', wread ask (i : Int) st = (.ok (vw V0 st.b.W i), { st with b := b' }) ∧ b'.W = st.b.W ∧ Good n V0 I b' := by
  obtain ⟨b', h1, h2, h3⟩ := bread_good hr h hi
  refine ⟨b', ?_, h2, h3⟩
  unfold wread
  rw [h1]
  rw [if_neg (by simp), if_neg (by simp [h.vlen hr hi])]
theorem Does.read (hr : Rdr ask n V0 I) {i : Nat} (h0 : 0 < i) (hi : i < n) : Does n V0 I (wread ask (i : Int)) a (fun l a' => l = a.V i ∧ l.length = 480 ∧ a' = a) E := by
  intro st hst
  obtain ⟨b', h1, h2, h3⟩ := wread_rel hr hst.good hi
  rw [h1]
  refine ⟨a, ⟨h3, fun k hk hk2 => ?_, ?_, fun hd => ?_, hst.len⟩, hst.view i h0 hi, hst.good.vlen hr hi, rfl⟩
  · show vw V0 b'.W k = _; rw [h2]; exact hst.view k hk hk2
  · show st.bits = _ ∨ (st.bits = none ∧ st.dt = false ∧ vw V0 b'.W 0 = _); rw [h2]; exact hst.bits
  · show vw V0 b'.W 0 = _; rw [h2]; exact hst.dt hd
theorem Does.write {i : Nat} {l : List UInt8} (h0 : 0 < i) (hin : i < n) (hl : l.length = 480) : Does n V0 I (wwrite (i : Int) l) a (fun _ a' => a' = { a with V := upV a.V i l }) E := by
  intro st hst
  have e : writeE st.b.err (i : Int) l = 0 := by
    unfold writeE; rw [hst.good.err, if_neg (by simp), if_neg (by omega)]
  have e2 : wwrite (i : Int) l st = (.ok (), { st with b := { st.b with W := SL.upd st.b.W (i : Int) l } }) := if_pos e
  rw [e2]
  refine ⟨{ a with V := upV a.V i l }, ⟨⟨hst.good.err, hst.good.inv, fun k l' hk h' => ?_, hst.good.rd, fun p hp => (mem_upd hp).elim (fun e => by rw [e]; exact ⟨by omega, by omega⟩) (hst.good.keys p)⟩, fun k hk hk2 => ?_, ?_, fun hd => ?_, hst.len⟩, rfl⟩
  · have h'' : kget (SL.upd st.b.W (i : Int) l) (k : Int) = some l' := h'
    rw [kget_upd] at h''
    split at h''
    · cases h''; exact hl
    · exact hst.good.wr k l' hk h''
  · show vw V0 (SL.upd st.b.W (i : Int) l) k = upV a.V i l k
    rw [vw_upd]; unfold upV
    split
    · rfl
    · exact hst.view k hk hk2
  · rcases hst.bits with h | ⟨h, h1, h2⟩
    · exact .inl h
    · refine .inr ⟨h, h1, ?_⟩
      show vw V0 (SL.upd st.b.W (i : Int) l) 0 = a.B
      rw [vw_upd, if_neg (by omega)]; exact h2
  · show vw V0 (SL.upd st.b.W (i : Int) l) 0 = a.B
    rw [vw_upd, if_neg (by omega)]; exact hst.dt hd
theorem Does.bits (hr : Rdr ask n V0 I) (h0 : 0 < n) : ∀ st, Rel n V0 I st a → ∃ st', wbits ask st = (.ok a.B, st') ∧ Rel n V0 I st' a ∧ st'.bits = some a.B := by
  intro st hst
  unfold wbits
  rcases hst.bits with h | ⟨h, h1, h2⟩
  · rw [h]; exact ⟨st, rfl, hst, h⟩
  · rw [h]
    obtain ⟨b', e1, e2, e3⟩ := wread_rel hr hst.good h0
    have e1' : wread ask 0 st = (.ok (vw V0 st.b.W 0), { st with b := b' }) := e1
    dsimp only
    rw [e1', h2]
    refine ⟨_, rfl, ⟨e3, fun k hk hk2 => ?_, .inl rfl, fun hd => ?_, hst.len⟩, rfl⟩
    · show vw V0 b'.W k = _; rw [e2]; exact hst.view k hk hk2
    · show vw V0 b'.W 0 = _; rw [e2]; exact h2
theorem Does.mark (hr : Rdr ask n V0 I) (h0 : 0 < n) {id : Nat} {t : Bool} : Does n V0 I (wmark ask id t) a (fun _ a' => a' = { a with B := setTo a.B id t }) E := by
  intro st hst
  obtain ⟨st', h1, h2, h3⟩ := Does.bits hr h0 st hst
  have e : wmark ask id t st = wmarkK id t a.B st' := WM.bind_ok h1
  rw [e]
  unfold wmarkK
  exact ⟨{ a with B := setTo a.B id t }, ⟨h2.good, h2.view, .inl rfl, fun hd => by simp at hd, by rw [setTo_length]; exact h2.len⟩, rfl⟩
theorem Does.take (hr : Rdr ask n V0 I) (h0 : 0 < n) (hE : freeOf a.B n = none → E 7) : Does n V0 I (wtake ask n) a (fun k a' => freeOf a.B n = some k ∧ a' = { a with B := setTo a.B k true }) E := by
  intro st hst
  obtain ⟨st', h1, h2, h3⟩ := Does.bits hr h0 st hst
  have e : wtake ask n st = wtakeK n a.B st' := WM.bind_ok h1
  rw [e]
  unfold wtakeK
  cases hf : freeOf a.B n with
  | none => exact ⟨h2.good.inv, hE hf⟩
  | some k => exact ⟨{ a with B := setTo a.B k true }, ⟨h2.good, h2.view, .inl rfl, fun hd => by simp at hd, by rw [setTo_length]; exact h2.len⟩, rfl, rfl⟩
/-- How a batch is, as a work's beginning. -/
def awOf (V0 : Nat → List UInt8) (M : Bst σ) : Aw := ⟨vw V0 M.W, vw V0 M.W 0⟩
theorem Rel.start (hr : Rdr ask n V0 I) (h0 : 0 < n) {M : Bst σ} (h : Good n V0 I M) : Rel n V0 I ⟨M, none, false⟩ (awOf V0 M) :=
  ⟨h, fun _ _ _ => rfl, .inr ⟨rfl, rfl, rfl⟩, fun _ => rfl, h.vlen hr h0⟩
/-- A whole call. -/
theorem Does.run (hr : Rdr ask n V0 I) (h0 : 0 < n) {M : Bst σ} (hM : Good n V0 I M) (h : Does n V0 I m (awOf V0 M) P E) :
    (∃ x M' a', wrun m M = (.ok x, M') ∧ Good n V0 I M' ∧ P x a' ∧ vw V0 M'.W 0 = a'.B ∧ ∀ i, 0 < i → i < n → vw V0 M'.W i = a'.V i) ∨
    (∃ c s', wrun m M = (.bad c, { M with s := s' }) ∧ I s' ∧ E c) := by
  have h1 := h _ (Rel.start hr h0 hM)
  match hm : m ⟨M, none, false⟩, h1 with
  | (.ok x, st'), ⟨a', h2, h3⟩ =>
    cases hd : st'.dt with
    | false => exact .inl ⟨x, st'.b, a', wrun_ok hm hd, h2.good, h3, h2.dt hd, h2.view⟩
    | true =>
      have hb : st'.bits = some a'.B := by
        rcases h2.bits with hb | ⟨_, hb, _⟩
        · exact hb
        · rw [hd] at hb; cases hb
      have e : writeE st'.b.err 0 (st'.bits.getD []) = 0 := by
        unfold writeE; rw [h2.good.err, if_neg (by simp), hb]; simp [h2.len]
      have e2 : wwrite 0 (st'.bits.getD []) st' = (.ok (), { st' with b := { st'.b with W := SL.upd st'.b.W 0 (st'.bits.getD []) } }) := if_pos e
      refine .inl ⟨x, _, a', wrun_wr hm hd e2, ⟨h2.good.err, h2.good.inv, fun k l' hk h' => ?_, h2.good.rd, fun p hp => (mem_upd hp).elim (fun e => by rw [e]; exact ⟨by omega, by omega⟩) (h2.good.keys p)⟩, h3, ?_, fun k hk hk2 => ?_⟩
      · have h'' : kget (SL.upd st'.b.W ((0 : Nat) : Int) (st'.bits.getD [])) (k : Int) = some l' := h'
        rw [kget_upd] at h''
        split at h''
        · cases h''; rw [hb]; exact h2.len
        · exact h2.good.wr k l' hk h''
      · have := vw_upd V0 st'.b.W 0 (st'.bits.getD []) 0
        rw [if_pos rfl, hb] at this
        rw [hb]; exact this
      · have := vw_upd V0 st'.b.W 0 (st'.bits.getD []) k
        rw [if_neg (by omega)] at this
        exact this.trans (h2.view k hk hk2)
  | (.bad c, st'), h2 => exact .inr ⟨c, st'.b.s, wrun_bad hm, h2.1, h2.2⟩
end
end Go.SL
namespace Go.SL
set_option linter.unusedVariables false
set_option linter.unusedSimpArgs false
open Go.RowKit
/-! The bytes of a node, of a row. -/
theorem leP_cons (x : Int) (xs : List Int) : leP (x :: xs) = leN x 2 ++ leP xs := rfl
theorem ptrsOf_cons (l : List UInt8) (o m : Nat) : ptrsOf l o (m + 1) = leV (l.drop o) 2 :: ptrsOf l (o + 2) m := by
  simp only [ptrsOf, List.range_succ_eq_map, List.map_cons, List.map_map]
  congr 1
  apply List.map_congr_left
  intro i _
  simp only [Function.comp, Nat.mul_succ]
  congr 2; omega
theorem ptrsOf_leP (xs : List Int) : ∀ (pre rest : List UInt8), xs.all ptrOk = true → ptrsOf (pre ++ (leP xs ++ rest)) pre.length xs.length = xs := by
  induction xs with
  | nil => intro pre rest _; rfl
  | cons x xs ih =>
    intro pre rest h
    simp only [List.all_cons, Bool.and_eq_true] at h
    rw [List.length_cons, ptrsOf_cons, List.drop_left, leP_cons, List.append_assoc, leV_leN x 2 _ 2 (Nat.le_refl _)]
    have hx := ptrOk_range h.1
    have e : x % (256 : Int) ^ 2 = x := by rw [show (256 : Int) ^ 2 = 65536 by decide]; omega
    rw [e]
    congr 1
    have := ih (pre ++ leN x 2) rest h.2
    rw [List.length_append, leN_length, List.append_assoc] at this
    exact this
theorem encNd_eq {n : Nd} (h16 : n.dr.length = 16) : encNd n = leN n.kd 1 ++ (leN n.lk 2 ++ (leN n.sz 4 ++ (leP n.dr ++ (leN n.rw 2 ++ zs 439)))) := by
  unfold encNd encN0 padTo
  have hl : (leP [n.rw]) = leN n.rw 2 := by simp [leP]
  rw [hl]
  have hlen : (leN n.kd 1 ++ leN n.lk 2 ++ leN n.sz 4 ++ leP n.dr ++ leN n.rw 2).length = 41 := by simp [leN_length, leP_length, h16]
  rw [List.take_append, hlen, List.take_of_length_le (by omega)]
  have hz : (zs 480).take (480 - 41) = zs 439 := by unfold zs; rw [List.take_replicate]; exact congrArg (fun m => List.replicate m 0) (by decide)
  rw [hz]
  simp only [List.append_assoc]
theorem decP_enc {n : Nd} (h16 : n.dr.length = 16) (hok : n.ok = true) : decP (encNd n) = (n, 0) := by
  have hf := Nd.ok_facts hok
  obtain ⟨hk, l0, l1, s0, s1, hd, hr, -, -⟩ := hf
  have hrr := ptrOk_range hr
  rw [encNd_eq h16]
  obtain ⟨kd, lk, sz, dr, rw'⟩ := n
  dsimp only at *
  have e1 : leV (leN kd 1 ++ (leN lk 2 ++ (leN sz 4 ++ (leP dr ++ (leN rw' 2 ++ zs 439))))) 1 = kd := by
    rw [leV_leN kd 1 _ 1 (Nat.le_refl _), show (256 : Int) ^ 1 = 256 by decide]; omega
  have d1 : (leN kd 1 ++ (leN lk 2 ++ (leN sz 4 ++ (leP dr ++ (leN rw' 2 ++ zs 439))))).drop 1 = leN lk 2 ++ (leN sz 4 ++ (leP dr ++ (leN rw' 2 ++ zs 439))) := List.drop_left' (leN_length _ _)
  have d3 : (leN kd 1 ++ (leN lk 2 ++ (leN sz 4 ++ (leP dr ++ (leN rw' 2 ++ zs 439))))).drop 3 = leN sz 4 ++ (leP dr ++ (leN rw' 2 ++ zs 439)) := by
    rw [show 3 = 1 + 2 from rfl, ← List.drop_drop, d1]; exact List.drop_left' (leN_length _ _)
  have d7 : (leN kd 1 ++ (leN lk 2 ++ (leN sz 4 ++ (leP dr ++ (leN rw' 2 ++ zs 439))))).drop 7 = leP dr ++ (leN rw' 2 ++ zs 439) := by
    rw [show 7 = 3 + 4 from rfl, ← List.drop_drop, d3]; exact List.drop_left' (leN_length _ _)
  have d39 : (leN kd 1 ++ (leN lk 2 ++ (leN sz 4 ++ (leP dr ++ (leN rw' 2 ++ zs 439))))).drop 39 = leN rw' 2 ++ zs 439 := by
    rw [show 39 = 7 + 32 from rfl, ← List.drop_drop, d7]; exact List.drop_left' (by rw [leP_length, h16])
  have d41 : (leN kd 1 ++ (leN lk 2 ++ (leN sz 4 ++ (leP dr ++ (leN rw' 2 ++ zs 439))))).drop 41 = zs 439 := by
    rw [show 41 = 39 + 2 from rfl, ← List.drop_drop, d39]; exact List.drop_left' (leN_length _ _)
  have hp : ptrsOf (leN kd 1 ++ (leN lk 2 ++ (leN sz 4 ++ (leP dr ++ (leN rw' 2 ++ zs 439))))) 7 16 = dr := by
    have := ptrsOf_leP dr (leN kd 1 ++ (leN lk 2 ++ leN sz 4)) (leN rw' 2 ++ zs 439) hd
    rw [h16] at this
    have e : (leN kd 1 ++ (leN lk 2 ++ leN sz 4)).length = 7 := by simp [leN_length]
    rw [e] at this
    simpa only [List.append_assoc] using this
  have hn : ndOf (leN kd 1 ++ (leN lk 2 ++ (leN sz 4 ++ (leP dr ++ (leN rw' 2 ++ zs 439))))) = ⟨kd, lk, sz, dr, rw'⟩ := by
    unfold ndOf
    rw [e1, d1, d3, d39, hp, leV_leN lk 2 _ 2 (Nat.le_refl _), leV_leN sz 4 _ 4 (Nat.le_refl _), leV_leN rw' 2 _ 2 (Nat.le_refl _)]
    have a1 : lk % (256 : Int) ^ 2 = lk := by rw [show (256 : Int) ^ 2 = 65536 by decide]; omega
    have a2 : sz % (256 : Int) ^ 4 = sz := by rw [show (256 : Int) ^ 4 = 4294967296 by decide]; omega
    have a3 : rw' % (256 : Int) ^ 2 = rw' := by rw [show (256 : Int) ^ 2 = 65536 by decide]; omega
    rw [a1, a2, a3]
  unfold decP
  rw [hn, d41, hok]
  have hz : (zs 439).all (· == 0) = true := List.all_eq_true.2 fun x hx => by rw [List.eq_of_mem_replicate hx]; rfl
  rw [hz]
  rfl
theorem rowP_enc {l : List Int} (h : l.length = 240) (hok : l.all ptrOk = true) : rowP (leP l) = (l, 0) := by
  have := ptrsOf_leP l [] [] hok
  simp only [List.nil_append, List.append_nil, List.length_nil, h] at this
  unfold rowP
  rw [this, hok]
  rfl
/-! Who has a block. -/
abbrev Own := Nat × Nat × Nat
abbrev frO : Own := (0, 0, 0)
abbrev bmO : Own := (1, 0, 0)
abbrev ndO : Own := (2, 0, 0)
abbrev rwO (id : Nat) : Own := (3, id, 0)
abbrev pgO (id i : Nat) : Own := (4, id, i)
def upO {α : Type} (f : Nat → α) (k : Nat) (x : α) : Nat → α := fun b => if b = k then x else f b
theorem upO_same {α : Type} (f : Nat → α) (k : Nat) (x : α) : upO f k x k = x := if_pos rfl
theorem upO_other {α : Type} (f : Nat → α) {k b : Nat} (x : α) (h : b ≠ k) : upO f k x b = f b := if_neg h
/-- How many are free. -/
def frN (own : Nat → Own) (n : Nat) : Nat := (List.range n).countP fun b => own b == frO
theorem frN_succ (own : Nat → Own) (n : Nat) : frN own (n + 1) = frN own n + if own n = frO then 1 else 0 := by
  unfold frN
  rw [List.range_succ, List.countP_append]
  simp [List.countP_cons]
theorem frN_congr {own own' : Nat → Own} {n : Nat} (h : ∀ b, b < n → own b = own' b) : frN own n = frN own' n := by
  unfold frN
  apply List.countP_congr
  intro b hb
  rw [h b (List.mem_range.1 hb)]
theorem frN_upd {own : Nat → Own} {k : Nat} {x : Own} : ∀ {n : Nat}, k < n → frN (upO own k x) n + (if own k = frO then 1 else 0) = frN own n + if x = frO then 1 else 0
  | n + 1, h => by
    rw [frN_succ, frN_succ]
    by_cases hk : k = n
    · subst hk
      rw [upO_same, frN_congr (own := upO own k x) (own' := own) fun b hb => upO_other _ _ (by omega)]
      omega
    · have := frN_upd (own := own) (x := x) (show k < n by omega)
      rw [upO_other _ _ (by omega : n ≠ k)]
      omega
/-- A bitmap tells just these. -/
structure Bm (n : Nat) (own : Nat → Own) (B : List UInt8) : Prop where
  len : B.length = 480
  bit : ∀ b, b < n → (bitAt B b = true ↔ own b ≠ frO)
theorem Bm.set {n : Nat} {own : Nat → Own} {B : List UInt8} (h : Bm n own B) (hn : n ≤ 3840) {k : Nat} (hk : k < n) (x : Own) (t : Bool) (ht : t = true ↔ x ≠ frO) : Bm n (upO own k x) (setTo B k t) := by
  refine ⟨by rw [setTo_length]; exact h.len, fun b hb => ?_⟩
  rw [bitAt_set (by rw [h.len]; omega)]
  by_cases hbk : b = k
  · subst hbk; rw [if_pos rfl, upO_same]; exact ht
  · rw [if_neg hbk, upO_other _ _ hbk]; exact h.bit b hb
theorem Bm.free_some {n : Nat} {own : Nat → Own} {B : List UInt8} (h : Bm n own B) {k : Nat} (hf : freeOf B n = some k) : k < n ∧ own k = frO := by
  unfold freeOf at hf
  have h1 := List.mem_of_find?_eq_some hf
  have h2 := List.find?_some hf
  have hk := List.mem_range.1 h1
  refine ⟨hk, ?_⟩
  have := (h.bit k hk)
  by_cases h9 : own k = frO
  · exact h9
  · have h10 := this.2 h9
    rw [h10] at h2; simp at h2
theorem Bm.free_none {n : Nat} {own : Nat → Own} {B : List UInt8} (h : Bm n own B) (hf : freeOf B n = none) : frN own n = 0 := by
  unfold freeOf at hf
  rw [List.find?_eq_none] at hf
  unfold frN
  rw [List.countP_eq_zero]
  intro b hb h9
  have hbn := List.mem_range.1 hb
  have h1 := hf b hb
  have h2 : own b = frO := by simpa using h9
  have h3 := (h.bit b hbn)
  have h4 : bitAt B b = true := by
    cases hbb : bitAt B b with
    | true => rfl
    | false => rw [hbb] at h1; simp at h1
  exact h3.1 h4 h2
theorem Bm.left {n : Nat} {own : Nat → Own} {B : List UInt8} (h : Bm n own B) : n - (takenL B n).length = frN own n := by
  have h1 : ∀ m, m ≤ n → (takenL B m).length + frN own m = m := by
    intro m
    induction m with
    | zero => intro _; rfl
    | succ m ih =>
      intro hm
      have := ih (by omega)
      rw [takenL_succ, frN_succ]
      have hb := h.bit m (by omega)
      by_cases h9 : own m = frO
      · rw [if_neg (fun h10 => hb.1 h10 h9), if_pos h9]; omega
      · rw [if_pos (hb.2 h9), if_neg h9, List.length_append]; simp; omega
  have := h1 n (Nat.le_refl _)
  omega
end Go.SL
namespace Go.SL
set_option linter.unusedVariables false
set_option linter.unusedSimpArgs false
open Go.RowKit
structure Hd.Ok (n id : Nat) (h : Hd) : Prop where
  fit : h.fit
  id : h.id = id
  kd : h.n.kd = 1 ∨ h.n.kd = 2
  lk0 : 0 ≤ h.n.lk
  lk1 : h.n.lk ≤ 65535
  sz0 : 0 ≤ h.n.sz
  sz1 : h.n.sz ≤ 122880
  rw0 : 0 ≤ h.n.rw
  rw1 : h.n.rw < n
  pg : ∀ i, i < 256 → 0 ≤ h.page i ∧ h.page i < n
  rz : h.n.rw = 0 → ∀ i, 16 ≤ i → i < 256 → h.page i = 0
def usesRw (N : Nat → Option Hd) (b id : Nat) : Prop := ∃ h, N id = some h ∧ h.n.rw = (b : Int) ∧ b ≠ 0
def usesPg (N : Nat → Option Hd) (b id i : Nat) : Prop := ∃ h, N id = some h ∧ i < 256 ∧ h.page i = (b : Int) ∧ b ≠ 0
structure Lay (n : Nat) (own : Nat → Own) (N : Nat → Option Hd) : Prop where
  bm : ∀ b, own b = bmO ↔ b = 0
  out : ∀ b, n ≤ b → own b = frO
  ok : ∀ id h, N id = some h → 0 < id ∧ id < n ∧ h.Ok n id
  nd : ∀ b, own b = ndO ↔ (N b).isSome = true
  rw : ∀ b id, own b = rwO id ↔ usesRw N b id
  pg : ∀ b id i, own b = pgO id i ↔ usesPg N b id i
section
variable {n id k i : Nat} {own : Nat → Own} {N : Nat → Option Hd} {h h' : Hd}
theorem Lay.ownId (L : Lay n own N) (hN : N id = some h) : own id = ndO := (L.nd id).2 (by rw [hN]; rfl)
theorem Lay.ownRw (L : Lay n own N) (hN : N id = some h) (h0 : h.n.rw ≠ 0) : own h.n.rw.toNat = rwO id := by
  have := (L.ok id h hN).2.2.rw0
  exact (L.rw _ _).2 ⟨h, hN, by omega, by omega⟩
theorem Lay.ownPg (L : Lay n own N) (hN : N id = some h) (hi : i < 256) (h0 : h.page i ≠ 0) : own (h.page i).toNat = pgO id i := by
  have := ((L.ok id h hN).2.2.pg i hi).1
  exact (L.pg _ _ _).2 ⟨h, hN, hi, by omega, by omega⟩
theorem Lay.zero (L : Lay n own N) : own 0 = bmO := (L.bm 0).2 rfl
theorem Lay.free_ne (L : Lay n own N) (hk : own k = frO) : k ≠ 0 := by rintro rfl; rw [L.zero] at hk; cases hk
theorem Lay.free_none (L : Lay n own N) (hk : own k = frO) : N k = none := by
  cases hN : N k with
  | none => rfl
  | some h => have := L.ownId hN; rw [hk] at this; cases this
/-- One block has another owner. -/
theorem Lay.upd (L : Lay n own N) {x : Own} {N' : Nat → Option Hd} (hk : k ≠ 0) (hkn : k < n) (hx : x ≠ bmO) (hok : ∀ id h, N' id = some h → 0 < id ∧ id < n ∧ h.Ok n id)
    (hnd : ∀ b, b ≠ k → (N' b).isSome = (N b).isSome) (hnk : x = ndO ↔ (N' k).isSome = true)
    (hrw : ∀ b id, b ≠ k → (usesRw N' b id ↔ usesRw N b id)) (hrk : ∀ id, x = rwO id ↔ usesRw N' k id)
    (hpg : ∀ b id i, b ≠ k → (usesPg N' b id i ↔ usesPg N b id i)) (hpk : ∀ id i, x = pgO id i ↔ usesPg N' k id i) : Lay n (upO own k x) N' := by
  refine ⟨fun b => ?_, fun b hb => ?_, hok, fun b => ?_, fun b id => ?_, fun b id i => ?_⟩
  · by_cases hbk : b = k
    · subst hbk; rw [upO_same]; exact ⟨fun h => absurd h hx, fun h => absurd h hk⟩
    · rw [upO_other _ _ hbk]; exact L.bm b
  · rw [upO_other _ _ (by omega)]; exact L.out b hb
  · by_cases hbk : b = k
    · subst hbk; rw [upO_same]; exact hnk
    · rw [upO_other _ _ hbk, hnd b hbk]; exact L.nd b
  · by_cases hbk : b = k
    · subst hbk; rw [upO_same]; exact hrk id
    · rw [upO_other _ _ hbk, hrw b id hbk]; exact L.rw b id
  · by_cases hbk : b = k
    · subst hbk; rw [upO_same]; exact hpk id i
    · rw [upO_other _ _ hbk, hpg b id i hbk]; exact L.pg b id i
theorem up_some {N : Nat → Option Hd} {o : Option Hd} {id id' : Nat} {g : Hd} (h : upO N id o id' = some g) : (id' = id ∧ o = some g) ∨ (id' ≠ id ∧ N id' = some g) := by
  by_cases e : id' = id
  · subst e; rw [upO_same] at h; exact .inl ⟨rfl, h⟩
  · rw [upO_other _ _ e] at h; exact .inr ⟨e, h⟩
theorem up_isSome {N : Nat → Option Hd} {id b : Nat} (hN : N id = some h) : (upO N id (some h') b).isSome = (N b).isSome := by
  by_cases e : b = id
  · subst e; rw [upO_same, hN]; rfl
  · rw [upO_other _ _ e]
/-- Rows, but at one node. -/
theorem usesRw_up (hN : N id = some h) {b id' : Nat} (hs : b ≠ 0 → (h'.n.rw = (b : Int) ↔ h.n.rw = (b : Int))) : usesRw (upO N id (some h')) b id' ↔ usesRw N b id' := by
  by_cases e : id' = id
  · subst e
    unfold usesRw
    rw [upO_same, hN]
    constructor
    · rintro ⟨g, e, h1, h2⟩; cases e; exact ⟨h, rfl, (hs h2).1 h1, h2⟩
    · rintro ⟨g, e, h1, h2⟩; cases e; exact ⟨h', rfl, (hs h2).2 h1, h2⟩
  · unfold usesRw; rw [upO_other _ _ e]
theorem usesPg_up (hN : N id = some h) {b id' j : Nat} (hs : j < 256 → b ≠ 0 → (h'.page j = (b : Int) ↔ h.page j = (b : Int))) : usesPg (upO N id (some h')) b id' j ↔ usesPg N b id' j := by
  by_cases e : id' = id
  · subst e
    unfold usesPg
    rw [upO_same, hN]
    constructor
    · rintro ⟨g, e, hj, h1, h2⟩; cases e; exact ⟨h, rfl, hj, (hs hj h2).1 h1, h2⟩
    · rintro ⟨g, e, hj, h1, h2⟩; cases e; exact ⟨h', rfl, hj, (hs hj h2).2 h1, h2⟩
  · unfold usesPg; rw [upO_other _ _ e]
theorem Lay.okUp (L : Lay n own N) (hN : N id = some h) (ho : h'.Ok n id) : ∀ id' g, upO N id (some h') id' = some g → 0 < id' ∧ id' < n ∧ g.Ok n id' := by
  intro id' g hg
  rcases up_some hg with ⟨rfl, e⟩ | ⟨_, e⟩
  · cases e; exact ⟨(L.ok _ _ hN).1, (L.ok _ _ hN).2.1, ho⟩
  · exact L.ok _ _ e
theorem Lay.no_rw (L : Lay n own N) {x : Own} (hk : own k = x) (hx : ∀ id, x ≠ rwO id) : ∀ id, ¬ usesRw N k id := fun id h => hx id (hk.symm.trans ((L.rw k id).2 h))
theorem Lay.no_pg (L : Lay n own N) {x : Own} (hk : own k = x) (hx : ∀ id i, x ≠ pgO id i) : ∀ id i, ¬ usesPg N k id i := fun id i h => hx id i (hk.symm.trans ((L.pg k id i).2 h))
/-- A new node. -/
theorem Lay.new (L : Lay n own N) (hk : own k = frO) (hkn : k < n) (ho : h'.Ok n k) (hp : ∀ i, i < 256 → h'.page i = 0) (hr : h'.n.rw = 0) : Lay n (upO own k ndO) (upO N k (some h')) := by
  have hN := L.free_none hk
  have hk0 := L.free_ne hk
  have hR : ∀ b id, usesRw (upO N k (some h')) b id ↔ usesRw N b id := by
    intro b id
    by_cases e : id = k
    · subst e
      unfold usesRw
      rw [upO_same, hN]
      constructor
      · rintro ⟨g, e, h1, h2⟩; cases e; rw [hr] at h1; exact absurd h1 (by omega)
      · rintro ⟨g, e, _⟩; cases e
    · unfold usesRw; rw [upO_other _ _ e]
  have hP : ∀ b id i, usesPg (upO N k (some h')) b id i ↔ usesPg N b id i := by
    intro b id i
    by_cases e : id = k
    · subst e
      unfold usesPg
      rw [upO_same, hN]
      constructor
      · rintro ⟨g, e, hi, h1, h2⟩; cases e; rw [hp i hi] at h1; exact absurd h1 (by omega)
      · rintro ⟨g, e, _⟩; cases e
    · unfold usesPg; rw [upO_other _ _ e]
  refine L.upd hk0 hkn (by decide) ?_ (fun b hb => by rw [upO_other _ _ hb]) (by rw [upO_same]; simp) (fun b id _ => hR b id) (fun id => ?_) (fun b id i _ => hP b id i) (fun id i => ?_)
  · intro id g hg
    rcases up_some hg with ⟨rfl, e⟩ | ⟨_, e⟩
    · cases e; exact ⟨by omega, hkn, ho⟩
    · exact L.ok _ _ e
  · rw [hR]
    exact ⟨fun h => absurd h (by simp), fun h => absurd h (L.no_rw hk (by simp) id)⟩
  · rw [hP]
    exact ⟨fun h => absurd h (by simp), fun h => absurd h (L.no_pg hk (by simp) id i)⟩
/-- A node has one page more. -/
theorem Lay.page (L : Lay n own N) (hN : N id = some h) (hk : own k = frO) (hkn : k < n) (hi : i < 256) (h0 : h.page i = 0) (hr : 16 ≤ i → h.n.rw ≠ 0) : Lay n (upO own k (pgO id i)) (upO N id (some (h.put i (k : Int)))) := by
  have hk0 := L.free_ne hk
  have ho := (L.ok _ _ hN).2.2
  have hpp := fun j => Hd.page_put ho.fit hi (k : Int) j
  have hR : ∀ b id', usesRw (upO N id (some (h.put i (k : Int)))) b id' ↔ usesRw N b id' := fun b id' => usesRw_up hN (by rw [Hd.put_rw]; exact fun _ => Iff.rfl)
  refine L.upd hk0 hkn (by simp) (L.okUp hN ?_) (fun b _ => up_isSome hN) ?_ (fun b id _ => hR b id) (fun id' => ?_) (fun b id' j hb => usesPg_up hN fun hj => ?_) (fun id' j => ?_)
  · refine ⟨Hd.put_fit ho.fit _ _, by rw [Hd.put_id]; exact ho.id, ?_, ?_, ?_, ?_, ?_, by rw [Hd.put_rw]; exact ho.rw0, by rw [Hd.put_rw]; exact ho.rw1, fun j hj => ?_, fun h9 j hj1 hj2 => ?_⟩
    · unfold Hd.put; split <;> exact ho.kd
    · unfold Hd.put; split <;> exact ho.lk0
    · unfold Hd.put; split <;> exact ho.lk1
    · rw [Hd.put_sz]; exact ho.sz0
    · rw [Hd.put_sz]; exact ho.sz1
    · rw [hpp]; split
      · exact ⟨by omega, by omega⟩
      · exact ho.pg j hj
    · rw [Hd.put_rw] at h9
      rw [hpp, if_neg (by rintro rfl; exact hr hj1 h9)]
      exact ho.rz h9 j hj1 hj2
  · have : (N k) = none := L.free_none hk
    rw [up_isSome hN, this]; simp
  · rw [hR]; exact ⟨fun h => absurd h (by simp), fun h => absurd h (L.no_rw hk (by simp) id')⟩
  · rw [hpp]
    intro hb0
    split
    · rename_i e; subst e; rw [h0]
      exact ⟨fun h => absurd (by omega) hb, fun h => absurd h.symm (by omega)⟩
    · exact Iff.rfl
  · by_cases e : id' = id
    · subst e
      by_cases ej : j = i
      · subst ej
        exact ⟨fun _ => ⟨_, upO_same _ _ _, hi, by rw [hpp, if_pos rfl], hk0⟩, fun _ => rfl⟩
      · refine ⟨fun h => absurd h (by simp; omega), fun h9 => ?_⟩
        obtain ⟨g, e, hj, h1, h2⟩ := h9
        rw [upO_same] at e; cases e
        rw [hpp, if_neg ej] at h1
        exact absurd ⟨h, hN, hj, h1, h2⟩ (L.no_pg hk (by simp) _ _)
    · refine ⟨fun h => absurd h (by simp; omega), fun h9 => ?_⟩
      obtain ⟨g, e2, h9⟩ := h9
      rw [upO_other _ _ e] at e2
      exact absurd ⟨g, e2, h9⟩ (L.no_pg hk (by simp) _ _)
/-- A node has a row. -/
theorem Lay.row (L : Lay n own N) (hN : N id = some h) (hk : own k = frO) (hkn : k < n) (h0 : h.n.rw = 0) : Lay n (upO own k (rwO id)) (upO N id (some (h.setRw (k : Int)))) := by
  have hk0 := L.free_ne hk
  have ho := (L.ok _ _ hN).2.2
  have hP : ∀ b id' j, usesPg (upO N id (some (h.setRw (k : Int)))) b id' j ↔ usesPg N b id' j := fun b id' j => usesPg_up hN fun _ _ => Iff.rfl
  refine L.upd hk0 hkn (by simp) (L.okUp hN ?_) (fun b _ => up_isSome hN) ?_ (fun b id' hb => usesRw_up hN fun hb0 => ?_) (fun id' => ?_) (fun b id i _ => hP b id i) (fun id' j => ?_)
  · exact ⟨ho.fit, ho.id, ho.kd, ho.lk0, ho.lk1, ho.sz0, ho.sz1, show 0 ≤ (k : Int) by omega, show (k : Int) < n by omega, ho.pg, fun h9 => absurd (show (k : Int) = 0 from h9) (by omega)⟩
  · rw [up_isSome hN, L.free_none hk]; simp
  · rw [h0]; show (k : Int) = b ↔ _; constructor <;> intro h9 <;> omega
  · by_cases e : id' = id
    · subst e
      exact ⟨fun _ => ⟨_, upO_same _ _ _, rfl, hk0⟩, fun _ => rfl⟩
    · refine ⟨fun h => absurd h (by simp; omega), fun h9 => ?_⟩
      obtain ⟨g, e2, h9⟩ := h9
      rw [upO_other _ _ e] at e2
      exact absurd ⟨g, e2, h9⟩ (L.no_rw hk (by simp) _)
  · rw [hP]; exact ⟨fun h => absurd h (by simp), fun h => absurd h (L.no_pg hk (by simp) id' j)⟩
/-- A page is given up. -/
theorem Lay.unpage (L : Lay n own N) (hN : N id = some h) (hi : i < 256) (h0 : h.page i ≠ 0) : Lay n (upO own (h.page i).toNat frO) (upO N id (some (h.put i 0))) := by
  have ho := (L.ok _ _ hN).2.2
  have hp := ho.pg i hi
  obtain ⟨k, hk⟩ : ∃ k : Nat, h.page i = (k : Int) := ⟨(h.page i).toNat, by omega⟩
  have hown := L.ownPg hN hi h0
  rw [hk, Int.toNat_natCast] at hown ⊢
  have hk0 : k ≠ 0 := by omega
  have hpp := fun j => Hd.page_put ho.fit hi 0 j
  have hR : ∀ b id', usesRw (upO N id (some (h.put i 0))) b id' ↔ usesRw N b id' := fun b id' => usesRw_up hN (by rw [Hd.put_rw]; exact fun _ => Iff.rfl)
  refine L.upd hk0 (by omega) (by decide) (L.okUp hN ?_) (fun b _ => up_isSome hN) ?_ (fun b id _ => hR b id) (fun id' => ?_) (fun b id' j hb => ?_) (fun id' j => ?_)
  · refine ⟨Hd.put_fit ho.fit _ _, by rw [Hd.put_id]; exact ho.id, ?_, ?_, ?_, ?_, ?_, by rw [Hd.put_rw]; exact ho.rw0, by rw [Hd.put_rw]; exact ho.rw1, fun j hj => ?_, fun h9 j hj1 hj2 => ?_⟩
    · unfold Hd.put; split <;> exact ho.kd
    · unfold Hd.put; split <;> exact ho.lk0
    · unfold Hd.put; split <;> exact ho.lk1
    · rw [Hd.put_sz]; exact ho.sz0
    · rw [Hd.put_sz]; exact ho.sz1
    · rw [hpp]; split
      · exact ⟨by omega, by omega⟩
      · exact ho.pg j hj
    · rw [Hd.put_rw] at h9
      rw [hpp]; split
      · rfl
      · exact ho.rz h9 j hj1 hj2
  · rw [up_isSome hN]
    refine ⟨fun h => absurd h (by simp), fun h9 => ?_⟩
    have := (L.nd k).2 h9
    rw [hown] at this; cases this
  · rw [hR]; exact ⟨fun h => absurd h (by simp), fun h => absurd h (L.no_rw hown (by simp) id')⟩
  · by_cases e : id' = id
    · subst e
      refine usesPg_up hN fun hj hb0 => ?_
      rw [hpp]
      split
      · rename_i e; subst e; rw [hk]
        constructor <;> intro h9 <;> omega
      · exact Iff.rfl
    · unfold usesPg; rw [upO_other _ _ e]
  · refine ⟨fun h => absurd h (by simp), fun h9 => ?_⟩
    obtain ⟨g, e, hj, h1, h2⟩ := h9
    rcases up_some e with ⟨rfl, e2⟩ | ⟨e1, e⟩
    · cases e2
      rw [hpp] at h1
      split at h1
      · omega
      · have := (L.pg k id' j).2 ⟨h, hN, hj, h1, h2⟩
        rw [hown] at this
        simp at this
        omega
    · have := (L.pg k id' j).2 ⟨g, e, hj, h1, h2⟩
      rw [hown] at this
      simp at this
      omega
/-- A row is given up. -/
theorem Lay.unrow (L : Lay n own N) (hN : N id = some h) (h0 : h.n.rw ≠ 0) (hz : ∀ i, 16 ≤ i → i < 256 → h.page i = 0) : Lay n (upO own h.n.rw.toNat frO) (upO N id (some (h.setRw 0))) := by
  have ho := (L.ok _ _ hN).2.2
  have hr0 := ho.rw0
  have hr1 := ho.rw1
  obtain ⟨k, hk⟩ : ∃ k : Nat, h.n.rw = (k : Int) := ⟨h.n.rw.toNat, by omega⟩
  have hown := L.ownRw hN h0
  rw [hk, Int.toNat_natCast] at hown ⊢
  have hk0 : k ≠ 0 := by omega
  have hP : ∀ b id' j, usesPg (upO N id (some (h.setRw 0))) b id' j ↔ usesPg N b id' j := fun b id' j => usesPg_up hN fun _ _ => Iff.rfl
  refine L.upd hk0 (by omega) (by decide) (L.okUp hN ?_) (fun b _ => up_isSome hN) ?_ (fun b id' hb => ?_) (fun id' => ?_) (fun b id i _ => hP b id i) (fun id' j => ?_)
  · exact ⟨ho.fit, ho.id, ho.kd, ho.lk0, ho.lk1, ho.sz0, ho.sz1, Int.le_refl _, show (0 : Int) < n by omega, ho.pg, fun _ => hz⟩
  · rw [up_isSome hN]
    refine ⟨fun h => absurd h (by simp), fun h9 => ?_⟩
    have := (L.nd k).2 h9
    rw [hown] at this; cases this
  · by_cases e : id' = id
    · subst e
      refine usesRw_up hN fun hb0 => ?_
      rw [hk]; show (0 : Int) = b ↔ _; constructor <;> intro h9 <;> omega
    · unfold usesRw; rw [upO_other _ _ e]
  · refine ⟨fun h => absurd h (by simp), fun h9 => ?_⟩
    obtain ⟨g, e, h1, h2⟩ := h9
    rcases up_some e with ⟨rfl, e2⟩ | ⟨e1, e⟩
    · cases e2
      exact absurd (show (0 : Int) = k from h1) (by omega)
    · have := (L.rw k id').2 ⟨g, e, h1, h2⟩
      rw [hown] at this
      simp at this
      omega
  · rw [hP]; exact ⟨fun h => absurd h (by simp), fun h => absurd h (L.no_pg hown (by simp) id' j)⟩
/-- A node that has nothing is given up. -/
theorem Lay.gone (L : Lay n own N) (hN : N id = some h) (h0 : h.n.rw = 0) (hz : ∀ i, i < 256 → h.page i = 0) : Lay n (upO own id frO) (upO N id none) := by
  have ho := (L.ok _ _ hN)
  have hown := L.ownId hN
  have hR : ∀ b id', usesRw (upO N id none) b id' ↔ usesRw N b id' := by
    intro b id'
    by_cases e : id' = id
    · subst e
      unfold usesRw
      rw [upO_same, hN]
      constructor
      · rintro ⟨g, e, _⟩; cases e
      · rintro ⟨g, e, h1, h2⟩; cases e; rw [h0] at h1; exact absurd h1 (by omega)
    · unfold usesRw; rw [upO_other _ _ e]
  have hP : ∀ b id' j, usesPg (upO N id none) b id' j ↔ usesPg N b id' j := by
    intro b id' j
    by_cases e : id' = id
    · subst e
      unfold usesPg
      rw [upO_same, hN]
      constructor
      · rintro ⟨g, e, _⟩; cases e
      · rintro ⟨g, e, hj, h1, h2⟩; cases e; rw [hz j hj] at h1; exact absurd h1 (by omega)
    · unfold usesPg; rw [upO_other _ _ e]
  refine L.upd (by omega) ho.2.1 (by decide) ?_ (fun b hb => by rw [upO_other _ _ hb]) (by rw [upO_same]; simp) (fun b id _ => hR b id) (fun id' => ?_) (fun b id' j _ => hP b id' j) (fun id' j => ?_)
  · intro id' g hg
    rcases up_some hg with ⟨rfl, e⟩ | ⟨_, e⟩
    · cases e
    · exact L.ok _ _ e
  · rw [hR]; exact ⟨fun h => absurd h (by simp), fun h => absurd h (L.no_rw hown (by simp) id')⟩
  · rw [hP]; exact ⟨fun h => absurd h (by simp), fun h => absurd h (L.no_pg hown (by simp) id' j)⟩
/-- A node's own fields change. -/
theorem Lay.set (L : Lay n own N) (hN : N id = some h) (ho : h'.Ok n id) (hr : h'.n.rw = h.n.rw) (hp : ∀ i, i < 256 → h'.page i = h.page i) : Lay n own (upO N id (some h')) := by
  refine ⟨L.bm, L.out, L.okUp hN ho, fun b => ?_, fun b id' => ?_, fun b id' j => ?_⟩
  · rw [up_isSome hN]; exact L.nd b
  · rw [usesRw_up hN fun _ => by rw [hr]]; exact L.rw b id'
  · rw [usesPg_up hN fun hj _ => by rw [hp j hj]]; exact L.pg b id' j
end
end Go.SL
namespace Go.SL
set_option linter.unusedVariables false
set_option linter.unusedSimpArgs false
open Go.RowKit
/-- A byte of a file. -/
def byt (V : Nat → List UInt8) (h : Hd) (p : Nat) : UInt8 := if h.page (p / 480) = 0 then 0 else (V (h.page (p / 480)).toNat).getD (p % 480) 0
structure Saved (V : Nat → List UInt8) (h : Hd) : Prop where
  dec : decP (V h.id) = (h.n, 0)
  row : h.n.rw ≠ 0 → rowP (V h.n.rw.toNat) = (h.row, 0)
structure Hd.Fin (h : Hd) : Prop where
  hi : ∀ i : Nat, i < 256 → blocksOf h.n.sz ≤ i → h.page i = 0
  rwp : h.n.rw ≠ 0 → ∃ i, 16 ≤ i ∧ i < 256 ∧ h.page i ≠ 0
def Tail (V : Nat → List UInt8) (h : Hd) : Prop := ∀ p : Nat, p < 122880 → h.n.sz ≤ p → byt V h p = 0
/-- A space, of which all but a node (0: all) is at rest. -/
structure SpX (n : Nat) (a : Aw) (own : Nat → Own) (N : Nat → Option Hd) (id : Nat) : Prop where
  lay : Lay n own N
  bm : Bm n own a.B
  len : ∀ b, 0 < b → b < n → (a.V b).length = 480
  rest : ∀ id' h, id' ≠ id → N id' = some h → h.Fin ∧ Saved a.V h ∧ Tail a.V h
section
variable {n id k i : Nat} {own : Nat → Own} {N : Nat → Option Hd} {h h' : Hd} {a : Aw} {V V' : Nat → List UInt8}
theorem Lay.no0 (L : Lay n own N) : N 0 = none := by
  cases hN : N 0 with
  | none => rfl
  | some h => exact absurd (L.ok 0 h hN).1 (by omega)
theorem upV_same (V : Nat → List UInt8) (k : Nat) (l : List UInt8) : upV V k l k = l := if_pos rfl
theorem upV_other (V : Nat → List UInt8) {k b : Nat} (l : List UInt8) (h : b ≠ k) : upV V k l b = V b := if_neg h
theorem Saved.frame (L : Lay n own N) (hN : N id = some h) (hs : Saved V h) (hV : ∀ b, b = id ∨ own b = rwO id → V' b = V b) : Saved V' h := by
  have ho := (L.ok _ _ hN).2.2
  refine ⟨?_, fun h0 => ?_⟩
  · rw [hV _ (.inl ho.id)]; exact hs.dec
  · rw [hV _ (.inr (L.ownRw hN h0))]; exact hs.row h0
theorem byt_frame (L : Lay n own N) (hN : N id = some h) (hV : ∀ b i, own b = pgO id i → V' b = V b) {p : Nat} (hp : p < 122880) : byt V' h p = byt V h p := by
  unfold byt
  split
  · rfl
  · rename_i h0
    rw [hV _ _ (L.ownPg hN (by omega) h0)]
theorem Tail.frame (L : Lay n own N) (hN : N id = some h) (ht : Tail V h) (hV : ∀ b i, own b = pgO id i → V' b = V b) : Tail V' h := fun p h1 h2 => by
  rw [byt_frame L hN hV h1]; exact ht p h1 h2
/-- What belongs to a node, or to nobody. -/
def mine (own : Nat → Own) (id k : Nat) : Prop := own k = frO ∨ (own k = ndO ∧ k = id) ∨ own k = rwO id ∨ ∃ i, own k = pgO id i
theorem mine_not {id' : Nat} (L : Lay n own N) (hN : N id' = some h) (hne : id' ≠ id) (hm : mine own id k) : k ≠ id' ∧ own k ≠ rwO id' ∧ ∀ i, own k ≠ pgO id' i := by
  have := L.ownId hN
  refine ⟨?_, ?_, ?_⟩
  · rintro rfl
    rcases hm with h1 | ⟨_, h1⟩ | h1 | ⟨i, h1⟩
    · rw [this] at h1; cases h1
    · exact hne h1
    · rw [this] at h1; cases h1
    · rw [this] at h1; cases h1
  · intro h2
    rcases hm with h1 | ⟨h1, _⟩ | h1 | ⟨i, h1⟩
    · rw [h2] at h1; cases h1
    · rw [h2] at h1; cases h1
    · rw [h2] at h1; simp at h1; exact hne h1
    · rw [h2] at h1; cases h1
  · intro j h2
    rcases hm with h1 | ⟨h1, _⟩ | h1 | ⟨i, h1⟩
    · rw [h2] at h1; cases h1
    · rw [h2] at h1; cases h1
    · rw [h2] at h1; cases h1
    · rw [h2] at h1; simp at h1; exact hne h1.1
theorem SpX.restF (S : SpX n a own N id) {id' : Nat} (hne : id' ≠ id) (hN : N id' = some h) (hV : ∀ b, ¬ mine own id b → V' b = a.V b) : h.Fin ∧ Saved V' h ∧ Tail V' h := by
  obtain ⟨h1, h2, h3⟩ := S.rest id' h hne hN
  refine ⟨h1, h2.frame S.lay hN fun b hb => hV b fun hm => ?_, h3.frame S.lay hN fun b i hb => hV b fun hm => ?_⟩
  · have := mine_not S.lay hN hne hm
    rcases hb with rfl | hb
    · exact this.1 rfl
    · exact this.2.1 hb
  · exact (mine_not S.lay hN hne hm).2.2 i hb
theorem byt_other (L : Lay n own N) {id' : Nat} (hne : id' ≠ id) (hN : N id' = some h) (hV : ∀ b, ¬ mine own id b → V' b = V b) {p : Nat} (hp : p < 122880) : byt V' h p = byt V h p :=
  byt_frame L hN (fun b i hb => hV b fun hm => (mine_not L hN hne hm).2.2 i hb) hp
theorem SpX.weak (S : SpX n a own N 0) (id : Nat) : SpX n a own N id := ⟨S.lay, S.bm, S.len, fun id' h hne hN => S.rest id' h (by rintro rfl; rw [S.lay.no0] at hN; cases hN) hN⟩
/-- A node's block is written. -/
theorem SpX.write (S : SpX n a own N id) (hk : mine own id k) {l : List UInt8} (hl : l.length = 480) : SpX n { a with V := upV a.V k l } own N id := by
  refine ⟨S.lay, S.bm, fun b h0 hb => ?_, fun id' h hne hN => S.restF hne hN fun b hm => upV_other _ _ (by rintro rfl; exact hm hk)⟩
  by_cases e : b = k
  · subst e; show (upV a.V b l b).length = 480; rw [upV_same]; exact hl
  · show (upV a.V k l b).length = 480; rw [upV_other _ _ e]; exact S.len b h0 hb
/-- The layout changes at a node. -/
theorem SpX.step (S : SpX n a own N id) {own' : Nat → Own} {N' : Nat → Option Hd} {B' : List UInt8} (L' : Lay n own' N') (hb : Bm n own' B') (hN : ∀ id', id' ≠ id → N' id' = N id') : SpX n { a with B := B' } own' N' id :=
  ⟨L', hb, S.len, fun id' h hne hN' => S.rest id' h hne ((hN id' hne).symm.trans hN')⟩
theorem SpX.shut (S : SpX n a own N id) (h1 : ∀ h, N id = some h → h.Fin ∧ Saved a.V h ∧ Tail a.V h) : SpX n a own N 0 :=
  ⟨S.lay, S.bm, S.len, fun id' h _ hN => by
    by_cases e : id' = id
    · subst e; exact h1 h hN
    · exact S.rest id' h e hN⟩
/-- It may be written down. -/
theorem Hd.Ok.ok (ho : h.Ok n id) (hn : n ≤ 3840) (hf : h.Fin) : h.n.ok = true := by
  have hpg : ∀ i, i < 16 → h.page i = h.n.dr.getD i 0 := fun i hi => by unfold Hd.page; rw [if_pos hi]
  unfold Nd.ok
  have e1 : h.n.dr.all ptrOk = true := by
    rw [List.all_eq_true]
    intro p hp
    obtain ⟨i, hi, rfl⟩ := List.getElem_of_mem hp
    have hi16 : i < 16 := by have := ho.fit.1; omega
    have h1 := ho.pg i (by omega)
    have h2 := hpg i hi16
    rw [List.getD, List.getElem?_eq_getElem hi] at h2
    simp only [Option.getD_some] at h2
    unfold ptrOk
    simp only [Bool.and_eq_true, decide_eq_true_eq]
    omega
  have e2 : ptrOk h.n.rw = true := by
    have := ho.rw0; have := ho.rw1
    unfold ptrOk; simp only [Bool.and_eq_true, decide_eq_true_eq]; omega
  have e3 : (16 < blocksOf h.n.sz) ∨ h.n.rw = 0 := by
    by_cases h0 : h.n.rw = 0
    · exact .inr h0
    · obtain ⟨i, i1, i2, i3⟩ := hf.rwp h0
      left
      by_cases h9 : blocksOf h.n.sz ≤ i
      · exact absurd (hf.hi i i2 h9) i3
      · omega
  have e4 : ((List.range 16).all fun i => decide ((i : Int) < blocksOf h.n.sz) || decide (h.n.dr.getD i 0 = 0)) = true := by
    rw [List.all_eq_true]
    intro i hi
    have hi := List.mem_range.1 hi
    simp only [Bool.or_eq_true, decide_eq_true_eq]
    by_cases h9 : blocksOf h.n.sz ≤ i
    · right; rw [← hpg i hi]; exact hf.hi i (by omega) h9
    · left; omega
  rw [e1, e2, e4]
  have := ho.kd; have := ho.lk0; have := ho.lk1; have := ho.sz0; have := ho.sz1
  simp only [Bool.and_eq_true, Bool.or_eq_true, decide_eq_true_eq]
  exact ⟨⟨⟨⟨⟨⟨⟨⟨ho.kd, ho.lk0⟩, ho.lk1⟩, ho.sz0⟩, ho.sz1⟩, trivial⟩, trivial⟩, e3⟩, trivial⟩
theorem Hd.Ok.row (ho : h.Ok n id) (hn : n ≤ 3840) : h.row.all ptrOk = true ∧ h.row.all (fun x => decide (x < n)) = true := by
  have key : ∀ x ∈ h.row, 0 ≤ x ∧ x < n := by
    intro x hx
    obtain ⟨i, hi, rfl⟩ := List.getElem_of_mem hx
    have h240 := ho.fit.2
    have h1 := ho.pg (16 + i) (by omega)
    have h2 : h.page (16 + i) = h.row[i] := by
      unfold Hd.page; rw [if_neg (by omega), show 16 + i - 16 = i by omega, List.getD, List.getElem?_eq_getElem hi]; rfl
    omega
  constructor
  · rw [List.all_eq_true]; intro x hx; have := key x hx; unfold ptrOk; simp only [Bool.and_eq_true, decide_eq_true_eq]; omega
  · rw [List.all_eq_true]; intro x hx; have := key x hx; simp only [decide_eq_true_eq]; omega
theorem Hd.Ok.dr (ho : h.Ok n id) : h.n.dr.all (fun x => decide (x < n)) = true := by
  rw [List.all_eq_true]; intro x hx
  obtain ⟨i, hi, rfl⟩ := List.getElem_of_mem hx
  have h16 := ho.fit.1
  have h1 := ho.pg i (by omega)
  have h2 : h.page i = h.n.dr[i] := by
    unfold Hd.page; rw [if_pos (by omega), List.getD, List.getElem?_eq_getElem hi]; rfl
  simp only [decide_eq_true_eq]; omega
theorem Hd.Ok.row0 (ho : h.Ok n id) (h0 : h.n.rw = 0) : h.row = List.replicate 240 0 := by
  rw [List.eq_replicate_iff]
  refine ⟨ho.fit.2, fun x hx => ?_⟩
  obtain ⟨i, hi, rfl⟩ := List.getElem_of_mem hx
  have h240 := ho.fit.2
  have h1 := ho.rz h0 (16 + i) (by omega) (by omega)
  unfold Hd.page at h1
  rw [if_neg (by omega), show 16 + i - 16 = i by omega, List.getD, List.getElem?_eq_getElem hi] at h1
  exact h1
end
section
variable {σ : Type} {n id : Nat} {own : Nat → Own} {N : Nat → Option Hd} {h : Hd} {a : Aw} {V0 : Nat → List UInt8} {I : σ → Prop} {ask : Asks σ} {E : Int → Prop}
theorem Does.load_no {z : Int} (hz : ¬ (1 ≤ z ∧ z < n)) (hE : E 1) {P : Hd → Aw → Prop} : Does n V0 I (wload ask n z) a P E :=
  (Does.bad hE).congr fun st => if_neg hz
theorem Does.within {l : List Int} (hl : l.all (fun x => decide (x < n)) = true) : Does n V0 I (wwithin n l) a (fun _ a' => a' = a) E :=
  Does.congr (m' := WM.pure ()) (Does.pure rfl) fun st => by unfold wwithin WM.pure; rw [if_pos hl]
theorem Does.load (hr : Rdr ask n V0 I) (hn : n ≤ 3840) (S : SpX n a own N 0) (hN : N id = some h) : Does n V0 I (wload ask n (id : Int)) a (fun x a' => x = h ∧ a' = a) E := by
  obtain ⟨i0, i1, ho⟩ := S.lay.ok _ _ hN
  obtain ⟨hf, hs, ht⟩ := S.rest id h (by omega) hN
  have hL2 : ∀ a, Does n V0 I (wload2 n id h.n h.row) a (fun x a' => x = h ∧ a' = a) E := by
    intro a
    refine (Does.within ho.dr).bind fun _ a' e => ?_
    subst e
    refine (Does.within (ho.row hn).2).bind fun _ a' e => ?_
    subst e
    exact Does.pure ⟨by rw [← ho.id], rfl⟩
  refine Does.congr (m' := WM.bind (wread ask (id : Int)) fun L => wdec (decP L) (wload1 ask n id)) ?_ fun st => if_pos ⟨by omega, by omega⟩
  refine (Does.read hr i0 i1).bind fun L a' e => ?_
  obtain ⟨rfl, -, rfl⟩ := e
  have hd := hs.dec
  rw [ho.id] at hd
  rw [hd]
  refine Does.congr (m' := wload1 ask n id h.n) ?_ fun st => if_pos rfl
  by_cases h0 : h.n.rw = 0
  · refine Does.congr (m' := wload2 n id h.n h.row) (hL2 _) fun st => ?_
    rw [ho.row0 h0]
    exact if_pos h0
  · have r0 := ho.rw0
    have r1 := ho.rw1
    obtain ⟨k, hk⟩ : ∃ k : Nat, h.n.rw = (k : Int) := ⟨h.n.rw.toNat, by omega⟩
    have hrow := hs.row h0
    refine Does.congr (m' := WM.bind (wwithin n [h.n.rw]) fun _ => WM.bind (wread ask h.n.rw) fun L => wdecR (rowP L) (wload2 n id h.n)) ?_ fun st => if_neg h0
    refine (Does.within (by simp; omega)).bind fun _ a' e => ?_
    subst e
    rw [hk] at hrow ⊢
    refine (Does.read hr (by omega) (by omega)).bind fun L a' e => ?_
    obtain ⟨rfl, -, rfl⟩ := e
    rw [Int.toNat_natCast] at hrow
    rw [hrow]
    exact (hL2 _).congr fun st => if_pos rfl
/-- What save leaves. -/
def savV (V : Nat → List UInt8) (h : Hd) : Nat → List UInt8 := if h.n.rw = 0 then upV V h.id (encNd h.n) else upV (upV V h.id (encNd h.n)) h.n.rw.toNat (leP h.row)
theorem Does.save (hid : 0 < h.id) (hidn : h.id < n) (hrn : h.n.rw < n) (hr0 : 0 ≤ h.n.rw) (hok : h.n.ok = true) (hrow : h.row.all ptrOk = true) (h240 : h.row.length = 240) : Does n V0 I (wsave h) a (fun _ a' => a' = { a with V := savV a.V h }) E := by
  refine Does.congr (m' := WM.bind (wwrite (h.id : Int) (encNd h.n)) fun _ => wsaveR h) ?_ fun st => if_pos hok
  refine (Does.write hid hidn (encNd_length _)).bind fun _ a' e => ?_
  subst e
  by_cases h0 : h.n.rw = 0
  · refine Does.congr (m' := WM.pure ()) (Does.pure ?_) fun st => if_pos h0
    unfold savV; rw [if_pos h0]
  · obtain ⟨k, hk⟩ : ∃ k : Nat, h.n.rw = (k : Int) := ⟨h.n.rw.toNat, by omega⟩
    refine Does.congr (m' := wwrite h.n.rw (leP h.row)) ?_ fun st => (if_neg h0).trans (if_pos hrow)
    unfold savV; rw [if_neg h0]
    rw [hk, Int.toNat_natCast]
    exact Does.write (by omega) (by omega) (by rw [leP_length, h240])
theorem savV_other {V : Nat → List UInt8} {b : Nat} (h1 : b ≠ h.id) (h2 : h.n.rw ≠ 0 → b ≠ h.n.rw.toNat) : savV V h b = V b := by
  unfold savV
  split
  · exact upV_other _ _ h1
  · rename_i h0; rw [upV_other _ _ (h2 h0), upV_other _ _ h1]
/-- A space whose last node is saved. -/
theorem SpX.saved (S : SpX n a own N id) (hn : n ≤ 3840) (hN : N id = some h) (hf : h.Fin) (ht : Tail a.V h) : SpX n { a with V := savV a.V h } own N 0 ∧ ∀ p, p < 122880 → byt (savV a.V h) h p = byt a.V h p := by
  obtain ⟨i0, i1, ho⟩ := S.lay.ok _ _ hN
  have hid := ho.id
  have hm : ∀ b, ¬ mine own id b → savV a.V h b = a.V b := by
    intro b hb
    refine savV_other ?_ fun h0 => ?_
    · rintro rfl; exact hb (.inr (.inl ⟨by rw [hid]; exact S.lay.ownId hN, hid⟩))
    · rintro rfl; exact hb (.inr (.inr (.inl (S.lay.ownRw hN h0))))
  have hp : ∀ b i, own b = pgO id i → savV a.V h b = a.V b := by
    intro b i hb
    refine savV_other ?_ fun h0 => ?_
    · rintro rfl; rw [hid, S.lay.ownId hN] at hb; cases hb
    · rintro rfl; rw [S.lay.ownRw hN h0] at hb; cases hb
  refine ⟨⟨S.lay, S.bm, fun b h0 hb => ?_, fun id' g _ hg => ?_⟩, fun p hp' => byt_frame S.lay hN hp hp'⟩
  · show (savV a.V h b).length = 480
    unfold savV
    have e1 : (upV a.V h.id (encNd h.n) b).length = 480 := by
      by_cases e : b = h.id
      · subst e; rw [upV_same]; exact encNd_length _
      · rw [upV_other _ _ e]; exact S.len b h0 hb
    split
    · exact e1
    · by_cases e : b = h.n.rw.toNat
      · subst e; rw [upV_same, leP_length, ho.fit.2]
      · rw [upV_other _ _ e]; exact e1
  · by_cases e : id' = id
    · subst e
      rw [hN] at hg; cases hg
      refine ⟨hf, ⟨?_, fun h0 => ?_⟩, ht.frame S.lay hN hp⟩
      · show decP (savV a.V h h.id) = _
        have e : savV a.V h h.id = encNd h.n := by
          unfold savV
          split
          · exact upV_same _ _ _
          · rename_i h0
            rw [upV_other _ _ ?_, upV_same]
            intro h9
            have := S.lay.ownRw hN h0
            rw [← h9, hid, S.lay.ownId hN] at this
            cases this
        rw [e]; exact decP_enc ho.fit.1 (ho.ok hn hf)
      · show rowP (savV a.V h h.n.rw.toNat) = _
        unfold savV; rw [if_neg h0, upV_same]
        exact rowP_enc ho.fit.2 (ho.row hn).1
    · exact S.restF e hg hm
end
end Go.SL
namespace Go.SL
set_option linter.unusedVariables false
set_option linter.unusedSimpArgs false
open Go.RowKit
/-- A file: its kind, its links, its size, its bytes, and which blocks it has. -/
structure AF where
  kd : Int
  lk : Int
  sz : Nat
  dat : Nat → UInt8
  pr : Nat → Bool
def prOf (h : Hd) (i : Nat) : Bool := decide (i < 256) && decide (h.page i ≠ 0)
def afOf (V : Nat → List UInt8) (h : Hd) : AF := ⟨h.n.kd, h.n.lk, h.n.sz.toNat, fun p => if p < 122880 then byt V h p else 0, prOf h⟩
def cntP (pr : Nat → Bool) : Nat := (List.range 256).countP pr
def rowB (pr : Nat → Bool) : Bool := (List.range 256).any fun i => decide (16 ≤ i) && pr i
/-- What a file of such blocks needs. -/
def needP (pr : Nat → Bool) : Nat := 1 + cntP pr + if rowB pr = true then 1 else 0
def Hd.nds (h : Hd) : Nat := 1 + cntP (prOf h) + if h.n.rw = 0 then 0 else 1
theorem rowB_iff {pr : Nat → Bool} : rowB pr = true ↔ ∃ i, 16 ≤ i ∧ i < 256 ∧ pr i = true := by
  unfold rowB
  rw [List.any_eq_true]
  constructor
  · rintro ⟨i, hi, h⟩
    simp only [Bool.and_eq_true, decide_eq_true_eq] at h
    exact ⟨i, h.1, List.mem_range.1 hi, h.2⟩
  · rintro ⟨i, h1, h2, h3⟩
    exact ⟨i, List.mem_range.2 h2, by simp only [Bool.and_eq_true, decide_eq_true_eq]; exact ⟨h1, h3⟩⟩
theorem cntP_congr {p q : Nat → Bool} (h : ∀ i, i < 256 → p i = q i) : cntP p = cntP q := by
  unfold cntP
  exact List.countP_congr fun i hi => by rw [h i (List.mem_range.1 hi)]
theorem needP_congr {p q : Nat → Bool} (h : ∀ i, i < 256 → p i = q i) : needP p = needP q := by
  have e : rowB p = rowB q := by
    cases hq : rowB q with
    | true =>
      obtain ⟨i, h1, h2, h3⟩ := rowB_iff.1 hq
      exact rowB_iff.2 ⟨i, h1, h2, by rw [h i h2]; exact h3⟩
    | false =>
      cases hp : rowB p with
      | false => rfl
      | true =>
        obtain ⟨i, h1, h2, h3⟩ := rowB_iff.1 hp
        rw [rowB_iff.2 ⟨i, h1, h2, by rw [← h i h2]; exact h3⟩] at hq
        cases hq
  unfold needP
  rw [cntP_congr h, e]
theorem countP_upd (p q : Nat → Bool) (k : Nat) (h : ∀ i, i ≠ k → p i = q i) : ∀ m, k < m → (List.range m).countP p + (if q k = true then 1 else 0) = (List.range m).countP q + if p k = true then 1 else 0
  | m + 1, hk => by
    rw [List.range_succ, List.countP_append, List.countP_append]
    simp only [List.countP_cons, List.countP_nil, Nat.zero_add]
    by_cases e : k = m
    · subst e
      have : (List.range k).countP p = (List.range k).countP q := List.countP_congr fun i hi => by rw [h i (by have := List.mem_range.1 hi; omega)]
      omega
    · have := countP_upd p q k h m (by omega)
      rw [h m (Ne.symm e)]
      omega
theorem cntP_upd {p q : Nat → Bool} {k : Nat} (hk : k < 256) (h : ∀ i, i ≠ k → p i = q i) : cntP p + (if q k = true then 1 else 0) = cntP q + if p k = true then 1 else 0 := countP_upd p q k h 256 hk
theorem countP_le_of {p q : Nat → Bool} : ∀ m, (∀ i, i < m → p i = true → q i = true) → (List.range m).countP p ≤ (List.range m).countP q
  | 0, _ => Nat.le_refl _
  | m + 1, h => by
    rw [List.range_succ, List.countP_append, List.countP_append]
    simp only [List.countP_cons, List.countP_nil, Nat.zero_add]
    have := countP_le_of m fun i hi => h i (by omega)
    have h2 := h m (by omega)
    split
    · rename_i e; rw [if_pos (h2 e)]; omega
    · split <;> omega
theorem cntP_le {p q : Nat → Bool} (h : ∀ i, i < 256 → p i = true → q i = true) : cntP p ≤ cntP q := countP_le_of 256 h
theorem cntP_lt {p q : Nat → Bool} {k : Nat} (hk : k < 256) (h : ∀ i, i < 256 → p i = true → q i = true) (h1 : p k = false) (h2 : q k = true) : cntP p + 1 ≤ cntP q := by
  have e := cntP_upd (p := fun i => if i = k then true else p i) (q := p) hk fun i hi => if_neg hi
  rw [if_neg (by rw [h1]; decide), if_pos (if_pos rfl)] at e
  have := cntP_le (p := fun i => if i = k then true else p i) (q := q) fun i hi h3 => by
    by_cases e : i = k
    · subst e; exact h2
    · rw [if_neg e] at h3; exact h i hi h3
  omega
section
variable {n id k i : Nat} {own : Nat → Own} {N : Nat → Option Hd} {h h' : Hd} {a : Aw} {V V' : Nat → List UInt8}
theorem prOf_iff : prOf h i = true ↔ i < 256 ∧ h.page i ≠ 0 := by unfold prOf; simp
theorem prOf_false (hi : i < 256) : prOf h i = false ↔ h.page i = 0 := by
  unfold prOf; simp [hi]
theorem prOf_put (hf : h.fit) (hi : i < 256) (b : Int) (j : Nat) : prOf (h.put i b) j = if j = i then decide (b ≠ 0) else prOf h j := by
  unfold prOf
  rw [Hd.page_put hf hi]
  by_cases e : j = i
  · subst e; rw [if_pos rfl, if_pos rfl]; simp [hi]
  · rw [if_neg e, if_neg e]
/-- At rest a node needs what its blocks tell. -/
theorem Hd.Ok.nds (ho : h.Ok n id) (hf : h.Fin) : h.nds = needP (prOf h) := by
  unfold Hd.nds needP
  congr 1
  by_cases h0 : h.n.rw = 0
  · rw [if_pos h0, if_neg]
    intro h9
    obtain ⟨i, h1, h2, h3⟩ := rowB_iff.1 h9
    exact (prOf_iff.1 h3).2 (ho.rz h0 i h1 h2)
  · obtain ⟨i, h1, h2, h3⟩ := hf.rwp h0
    rw [if_neg h0, if_pos (rowB_iff.2 ⟨i, h1, h2, prOf_iff.2 ⟨h2, h3⟩⟩)]
theorem Hd.pages_map (hf : h.fit) : h.pages = (List.range 256).map h.page := by
  apply List.ext_getElem
  · rw [Hd.pages_length hf]; simp
  · intro i h1 h2
    rw [Hd.pages_length hf] at h1
    rw [List.getElem_map, List.getElem_range, Hd.page_pages hf, List.getD, List.getElem?_eq_getElem]; rfl
theorem Hd.need_nds (hf : h.fit) : h.need = h.nds := by
  have e : h.pages.countP (fun p => decide (p ≠ 0)) = (List.range 256).countP (prOf h) := by
    rw [Hd.pages_map hf, List.countP_map]
    exact List.countP_congr fun i hi => by
      have := List.mem_range.1 hi
      unfold prOf; simp [this]
  unfold Hd.need Hd.nds cntP
  rw [e]
/-- What a space has. -/
def Has (n : Nat) (a : Aw) (A : Nat → Option AF) (k : Nat) : Prop := ∃ own N, SpX n a own N 0 ∧ frN own n = k ∧ ∀ id, A id = (N id).map (afOf a.V)
theorem Has.at {A : Nat → Option AF} {f : AF} (hA : ∀ id, A id = (N id).map (afOf a.V)) (hf : A id = some f) : ∃ h, N id = some h ∧ f = afOf a.V h := by
  rw [hA id] at hf
  cases hN : N id with
  | none => rw [hN] at hf; cases hf
  | some h => rw [hN] at hf; exact ⟨h, rfl, by cases hf; rfl⟩
/-- What may be of a file. -/
structure AF.Wf (f : AF) : Prop where
  kd : f.kd = 1 ∨ f.kd = 2
  lk0 : 0 ≤ f.lk
  lk1 : f.lk ≤ 65535
  sz : f.sz ≤ 122880
  tail : ∀ p, f.sz ≤ p → f.dat p = 0
  hole : ∀ p, f.pr (p / 480) = false → f.dat p = 0
  prs : ∀ i, f.pr i = true → 480 * i < f.sz
theorem SpX.wf (S : SpX n a own N 0) (hN : N id = some h) : (afOf a.V h).Wf := by
  obtain ⟨i0, i1, ho⟩ := S.lay.ok _ _ hN
  obtain ⟨hf, hs, ht⟩ := S.rest id h (by omega) hN
  have z0 := ho.sz0
  have z1 := ho.sz1
  refine ⟨ho.kd, ho.lk0, ho.lk1, show h.n.sz.toNat ≤ 122880 by omega, fun p hp => ?_, fun p hp => ?_, fun i hi => ?_⟩
  · show (if p < 122880 then byt a.V h p else 0) = 0
    split
    · rename_i h1; exact ht p h1 (by have : h.n.sz.toNat ≤ p := hp; omega)
    · rfl
  · show (if p < 122880 then byt a.V h p else 0) = 0
    split
    · rename_i h1
      unfold byt
      rw [if_pos ((prOf_false (by omega)).1 hp)]
    · rfl
  · obtain ⟨h1, h2⟩ := prOf_iff.1 (show prOf h i = true from hi)
    show 480 * i < h.n.sz.toNat
    by_cases h9 : blocksOf h.n.sz ≤ i
    · exact absurd (hf.hi i h1 h9) h2
    · unfold blocksOf at h9; omega
theorem Has.wf {A : Nat → Option AF} {f : AF} (hh : Has n a A k) (hf : A id = some f) : f.Wf ∧ 0 < id ∧ id < n := by
  obtain ⟨own, N, S, _, hA⟩ := hh
  obtain ⟨h, hN, rfl⟩ := Has.at hA hf
  exact ⟨S.wf hN, (S.lay.ok _ _ hN).1, (S.lay.ok _ _ hN).2.1⟩
end
section
variable {σ α : Type} {n id k : Nat} {own : Nat → Own} {N : Nat → Option Hd} {h : Hd} {a : Aw} {V0 : Nat → List UInt8} {I : σ → Prop} {ask : Asks σ} {E : Int → Prop} {A : Nat → Option AF} {f : AF}
theorem Does.node (hr : Rdr ask n V0 I) (hn : n ≤ 3840) (hh : Has n a A k) (hf : A id = some f) : Does n V0 I (wnode ask n (id : Int)) a (fun x a' => x.kd = f.kd ∧ x.lk = f.lk ∧ x.sz = f.sz ∧ a' = a) E := by
  obtain ⟨own, N, S, _, hA⟩ := hh
  obtain ⟨h, hN, rfl⟩ := Has.at hA hf
  have ho := (S.lay.ok _ _ hN).2.2
  refine (Does.load hr hn S hN).bind fun x a' e => ?_
  obtain ⟨rfl, rfl⟩ := e
  have := ho.sz0
  exact Does.pure ⟨rfl, rfl, show x.n.sz = (x.n.sz.toNat : Int) by omega, rfl⟩
theorem Does.need (hr : Rdr ask n V0 I) (hn : n ≤ 3840) (hh : Has n a A k) (hf : A id = some f) : Does n V0 I (wneedb ask n (id : Int)) a (fun x a' => x = needP f.pr ∧ a' = a) E := by
  obtain ⟨own, N, S, _, hA⟩ := hh
  obtain ⟨h, hN, rfl⟩ := Has.at hA hf
  have ho := S.lay.ok _ _ hN
  refine (Does.load hr hn S hN).bind fun x a' e => ?_
  obtain ⟨rfl, rfl⟩ := e
  exact Does.pure ⟨by rw [Hd.need_nds ho.2.2.fit, ho.2.2.nds (S.rest id x (by omega) hN).1]; rfl, rfl⟩
theorem Does.left (hr : Rdr ask n V0 I) (h0 : 0 < n) (hh : Has n a A k) : Does n V0 I (wleft ask n) a (fun x a' => x = k ∧ a' = a) E := by
  obtain ⟨own, N, S, hk, hA⟩ := hh
  intro st hst
  obtain ⟨st', h1, h2, h3⟩ := Does.bits hr h0 st hst
  have e : wleft ask n st = (.ok (n - (takenL a.B n).length), st') := WM.bind_ok h1
  rw [e]
  exact ⟨a, h2, by rw [S.bm.left, hk], rfl⟩
/-- Bytes in place. -/
theorem putAt_getD {l d : List UInt8} {o : Nat} (h : o + d.length ≤ l.length) (j : Nat) : (putAt l o d).getD j 0 = if o ≤ j ∧ j < o + d.length then d.getD (j - o) 0 else l.getD j 0 := by
  unfold putAt
  have h1 : (l.take o ++ d).length = o + d.length := by rw [List.length_append, List.length_take]; omega
  have h2 : (l.take o).length = o := by rw [List.length_take]; omega
  simp only [List.getD]
  by_cases h3 : j < o
  · rw [if_neg (by omega), List.getElem?_append_left (by rw [h1]; omega), List.getElem?_append_left (by rw [h2]; exact h3), List.getElem?_take, if_pos h3]
  · by_cases h4 : j < o + d.length
    · rw [if_pos ⟨by omega, h4⟩, List.getElem?_append_left (by rw [h1]; omega), List.getElem?_append_right (by rw [h2]; omega), h2]
    · rw [if_neg (by omega), List.getElem?_append_right (by rw [h1]; omega), h1, List.getElem?_drop, show o + d.length + (j - (o + d.length)) = j by omega]
theorem Does.rd (hr : Rdr ask n V0 I) (S : SpX n a own N 0) (hN : N id = some h) (off m : Nat) (hm : off + m ≤ 122880) : ∀ (f done : Nat) (L : List UInt8), L.length = m → m - done ≤ f → (∀ j, j < m → L.getD j 0 = if j < done then byt a.V h (off + j) else 0) →
    Does n V0 I (wrd ask h off f done L) a (fun x a' => x.length = m ∧ (∀ j, j < m → x.getD j 0 = byt a.V h (off + j)) ∧ a' = a) E := by
  intro f
  induction f with
  | zero => intro done L hL hf hj; exact Does.pure ⟨hL, fun j h1 => by rw [hj j h1, if_pos (by omega)], rfl⟩
  | succ f ih =>
    intro done L hL hf hj
    obtain ⟨i0, i1, ho⟩ := S.lay.ok _ _ hN
    by_cases hd : done < m
    · obtain ⟨l, hl⟩ : ∃ l, lenN (L.length - done) (off + done) = l := ⟨_, rfl⟩
      have hl2 : l = min (m - done) (480 - (off + done) % 480) := by rw [← hl, hL]; rfl
      have hbyt : ∀ j, done ≤ j → j < done + l → (off + j) / 480 = (off + done) / 480 ∧ (off + j) % 480 = (off + done) % 480 + (j - done) := fun j h1 h2 => by omega
      by_cases h0 : h.page ((off + done) / 480) = 0
      · refine Does.congr (m' := wrd ask h off f (done + l) L) ?_ fun st => by rw [← hl]; exact wrd_z (by omega) h0 st
        refine ih (done + l) L hL (by omega) fun j h1 => ?_
        rw [hj j h1]
        by_cases h2 : j < done
        · rw [if_pos h2, if_pos (by omega)]
        · rw [if_neg h2]
          split
          · unfold byt; rw [(hbyt j (by omega) (by omega)).1, if_pos h0]
          · rfl
      · have hp := ho.pg ((off + done) / 480) (by omega)
        obtain ⟨b, hb⟩ : ∃ b : Nat, h.page ((off + done) / 480) = (b : Int) := ⟨(h.page ((off + done) / 480)).toNat, by omega⟩
        refine Does.congr (m' := WM.bind (wread ask (b : Int)) fun X => wrd ask h off f (done + l) (putAt L done ((X.drop ((off + done) % 480)).take l))) ?_ fun st => by
          refine (if_pos (by omega)).trans ((if_neg h0).trans ?_)
          rw [hl, hb]
        refine (Does.read hr (by omega) (by omega)).bind fun X a' e => ?_
        obtain ⟨rfl, hX, e3⟩ := e
        rw [e3]
        have hlen : (((a.V b).drop ((off + done) % 480)).take l).length = l := by rw [List.length_take, List.length_drop, hX]; omega
        refine ih (done + l) _ (by rw [putAt_length (by rw [hlen]; omega)]; exact hL) (by omega) fun j h1 => ?_
        rw [putAt_getD (by rw [hlen]; omega), hlen]
        by_cases h2 : done ≤ j ∧ j < done + l
        · rw [if_pos h2, if_pos (by omega)]
          obtain ⟨e1, e2⟩ := hbyt j h2.1 h2.2
          unfold byt
          rw [e1, if_neg h0, hb, e2, Int.toNat_natCast]
          simp only [List.getD]
          rw [List.getElem?_take, if_pos (by omega), List.getElem?_drop]
        · rw [if_neg h2, hj j h1]
          by_cases h3 : j < done
          · rw [if_pos h3, if_pos (by omega)]
          · rw [if_neg h3, if_neg (by omega)]
    · refine Does.congr (m' := WM.pure L) (Does.pure ⟨hL, fun j h1 => by rw [hj j h1, if_pos (by omega)], rfl⟩) fun st => if_neg (by omega)
/-- What is read. -/
def AF.sub (f : AF) (off cnt : Nat) : List UInt8 := (List.range (min cnt (f.sz - off))).map fun j => f.dat (off + j)
theorem Does.readAt (hr : Rdr ask n V0 I) (hn : n ≤ 3840) (hh : Has n a A k) (hf : A id = some f) (off cnt : Nat) : Does n V0 I (wreadAt ask n (id : Int) (off : Int) (cnt : Int)) a (fun x a' => x = f.sub off cnt ∧ a' = a) E := by
  obtain ⟨own, N, S, _, hA⟩ := hh
  obtain ⟨h, hN, rfl⟩ := Has.at hA hf
  obtain ⟨i0, i1, ho⟩ := S.lay.ok _ _ hN
  have z0 := ho.sz0
  have z1 := ho.sz1
  refine (Does.load hr hn S hN).bind fun x a' e => ?_
  obtain ⟨rfl, rfl⟩ := e
  have hsz : (afOf a'.V x).sz = x.n.sz.toNat := rfl
  by_cases h1 : x.n.sz ≤ (off : Int)
  · refine Does.congr (m' := WM.pure []) (Does.pure ⟨?_, rfl⟩) fun st => (if_pos ⟨by omega, by omega⟩).trans (if_pos h1)
    unfold AF.sub
    rw [hsz, show min cnt (x.n.sz.toNat - off) = 0 by omega]; rfl
  · obtain ⟨m, hm⟩ : ∃ m, (min (cnt : Int) (x.n.sz - (off : Int))).toNat = m := ⟨_, rfl⟩
    refine Does.congr (m' := wrd ask x off m 0 (zs m)) ?_ fun st => by
      refine (if_pos ⟨by omega, by omega⟩).trans ((if_neg h1).trans ?_)
      rw [hm, Int.toNat_natCast]
    refine (Does.rd hr S hN off m (by omega) m 0 (zs m) (length_zs m) (by omega) fun j hj => ?_).mono (fun y a'' e => ?_) fun _ h => h
    · rw [if_neg (by omega)]
      show (List.replicate m 0).getD j 0 = 0
      simp only [List.getD, List.getElem?_replicate]; split <;> rfl
    · obtain ⟨e1, e2, e3⟩ := e
      refine ⟨?_, e3⟩
      have hm2 : min cnt ((afOf a'.V x).sz - off) = m := by rw [hsz]; omega
      unfold AF.sub
      rw [hm2]
      apply List.ext_getElem
      · simp [e1]
      · intro j h2 h3
        rw [e1] at h2
        have := e2 j h2
        rw [List.getD, List.getElem?_eq_getElem (by omega)] at this
        simp only [Option.getD_some] at this
        rw [this, List.getElem_map, List.getElem_range]
        show _ = if off + j < 122880 then byt a'.V x (off + j) else 0
        rw [if_pos (by omega)]
end
end Go.SL

/- file, plainly: what each call of a space comes to. -/
import Derived.Test.YtaoohjeaaccnfaaYh
namespace Go.SL
set_option linter.unusedVariables false
set_option linter.unusedSimpArgs false
open Go.RowKit
section
variable {σ α : Type} {n id k : Nat} {own : Nat → Own} {N : Nat → Option Hd} {a a' : Aw} {V0 : Nat → List UInt8} {I : σ → Prop} {ask : Asks σ} {E : Int → Prop} {P : α → Aw → Prop} {A : Nat → Option AF} {f : AF} {M : Bst σ} {m : WM σ α}
theorem Has.congr (h : Has n a A k) (hV : ∀ i, 0 < i → i < n → a'.V i = a.V i) (hB : a'.B = a.B) : Has n a' A k := by
  obtain ⟨own, N, S, hk, hA⟩ := h
  have key : ∀ id g, N id = some g → (∀ b, b = id ∨ own b = rwO id → a'.V b = a.V b) ∧ ∀ b i, own b = pgO id i → a'.V b = a.V b := by
    intro id g hg
    obtain ⟨i0, i1, ho⟩ := S.lay.ok _ _ hg
    have hlt : ∀ b, own b ≠ frO → own b ≠ bmO → a'.V b = a.V b := fun b h1 h2 => by
      refine hV b ?_ ?_
      · rcases Nat.eq_zero_or_pos b with e | e
        · subst e; exact absurd S.lay.zero h2
        · exact e
      · refine Nat.lt_of_not_le fun h9 => h1 (S.lay.out b h9)
    refine ⟨fun b hb => ?_, fun b i hb => hlt b (by rw [hb]; simp) (by rw [hb]; simp)⟩
    rcases hb with rfl | hb
    · exact hV b i0 i1
    · exact hlt b (by rw [hb]; simp) (by rw [hb]; simp)
  refine ⟨own, N, ⟨S.lay, by rw [hB]; exact S.bm, fun b h0 hb => by rw [hV b h0 hb]; exact S.len b h0 hb, fun id g hne hg => ?_⟩, hk, fun id => ?_⟩
  · obtain ⟨h1, h2, h3⟩ := S.rest id g hne hg
    exact ⟨h1, h2.frame S.lay hg (key id g hg).1, h3.frame S.lay hg (key id g hg).2⟩
  · rw [hA id]
    cases hg : N id with
    | none => rfl
    | some g =>
      show some (afOf a.V g) = some (afOf a'.V g)
      congr 1
      unfold afOf
      congr 1
      funext p
      split
      · rename_i hp; exact (byt_frame S.lay hg (key id g hg).2 hp).symm
      · rfl
/-- A batch that has a space. -/
structure Abs (n : Nat) (V0 : Nat → List UInt8) (I : σ → Prop) (M : Bst σ) (A : Nat → Option AF) (k : Nat) : Prop where
  good : Good n V0 I M
  has : Has n (awOf V0 M) A k
theorem Abs.reader (h : Abs n V0 I M A k) {s : σ} (hs : I s) : Abs n V0 I { M with s := s } A k := ⟨⟨h.good.err, hs, h.good.wr, h.good.rd⟩, h.has⟩
theorem Abs.run (hr : Rdr ask n V0 I) (h0 : 0 < n) (h : Abs n V0 I M A k) (hD : Does n V0 I m (awOf V0 M) P E) :
    (∃ x M' a', wrun m M = (.ok x, M') ∧ P x a' ∧ ∀ A' k', Has n a' A' k' → Abs n V0 I M' A' k') ∨ ∃ c s', wrun m M = (.bad c, { M with s := s' }) ∧ E c ∧ Abs n V0 I { M with s := s' } A k := by
  rcases Does.run hr h0 h.good hD with ⟨x, M', a', h1, h2, h3, h4, h5⟩ | ⟨c, s', h1, h2, h3⟩
  · exact .inl ⟨x, M', a', h1, h3, fun A' k' hh => ⟨h2, hh.congr h5 h4⟩⟩
  · exact .inr ⟨c, s', h1, h3, h.reader h2⟩
theorem Abs.wf (h : Abs n V0 I M A k) (hf : A id = some f) : f.Wf ∧ 0 < id ∧ id < n := h.has.wf hf
variable (hr : Rdr ask n V0 I) (h0 : 0 < n) (hn : n ≤ 3840)
include hr h0
/-- Format. -/
theorem abs_format (h4 : 4 ≤ n) (hn : n ≤ 3840) (hM : Good n V0 I M) : ∃ M', wrun (wformat ask) M = (.ok (), M') ∧ Abs n V0 I M' (fun id => if id = 1 then some (newF 2) else none) (n - 2) := by
  rcases Does.run hr h0 hM (Does.format (E := fun _ => False) hr h4 hn fun b _ hb => hM.vlen hr hb) with ⟨x, M', a', h1, h2, h3, h4, h5⟩ | ⟨c, s', h1, h2, h3⟩
  · exact ⟨M', h1, h2, h3.congr h5 h4⟩
  · exact h3.elim
include hn
theorem abs_node (h : Abs n V0 I M A k) (hf : A id = some f) : ∃ x M', wrun (wnode ask n (id : Int)) M = (.ok x, M') ∧ x.kd = f.kd ∧ x.lk = f.lk ∧ x.sz = f.sz ∧ Abs n V0 I M' A k := by
  rcases h.run hr h0 (Does.node (E := fun _ => False) hr hn h.has hf) with ⟨x, M', a', h1, ⟨h2, h3, h4, h5⟩, h6⟩ | ⟨c, s', h1, h2, h3⟩
  · exact ⟨x, M', h1, h2, h3, h4, h6 _ _ (by rw [h5]; exact h.has)⟩
  · exact h2.elim
theorem abs_need (h : Abs n V0 I M A k) (hf : A id = some f) : ∃ M', wrun (wneedb ask n (id : Int)) M = (.ok (needP f.pr), M') ∧ Abs n V0 I M' A k := by
  rcases h.run hr h0 (Does.need (E := fun _ => False) hr hn h.has hf) with ⟨x, M', a', h1, ⟨h2, h5⟩, h6⟩ | ⟨c, s', h1, h2, h3⟩
  · exact ⟨M', by rw [h1, h2], h6 _ _ (by rw [h5]; exact h.has)⟩
  · exact h2.elim
theorem abs_readAt (h : Abs n V0 I M A k) (hf : A id = some f) (off cnt : Nat) : ∃ M', wrun (wreadAt ask n (id : Int) (off : Int) (cnt : Int)) M = (.ok (f.sub off cnt), M') ∧ Abs n V0 I M' A k := by
  rcases h.run hr h0 (Does.readAt (E := fun _ => False) hr hn h.has hf off cnt) with ⟨x, M', a', h1, ⟨h2, h5⟩, h6⟩ | ⟨c, s', h1, h2, h3⟩
  · exact ⟨M', by rw [h1, h2], h6 _ _ (by rw [h5]; exact h.has)⟩
  · exact h2.elim
theorem abs_new (h : Abs n V0 I M A k) {kd : Int} (hkd : kd = 1 ∨ kd = 2) :
    (∃ id M', wrun (wnew ask n kd) M = (.ok id, M') ∧ A id = none ∧ 0 < id ∧ id < n ∧ 0 < k ∧ Abs n V0 I M' (upO A id (some (newF kd))) (k - 1)) ∨ (∃ s', wrun (wnew ask n kd) M = (.bad 7, { M with s := s' }) ∧ k = 0 ∧ Abs n V0 I { M with s := s' } A k) := by
  rcases h.run hr h0 (Does.new hr h0 hn h.has hkd) with ⟨x, M', a', h1, ⟨h2, h3, h4, h5, h6⟩, h7⟩ | ⟨c, s', h1, ⟨rfl, h2⟩, h3⟩
  · exact .inl ⟨x, M', h1, h2, h3, h4, h5, h7 _ _ h6⟩
  · exact .inr ⟨s', h1, h2, h3⟩
theorem abs_links (h : Abs n V0 I M A k) (hf : A id = some f) (d : Int) :
    (∃ M', wrun (wlinks ask n (id : Int) d) M = (.ok (), M') ∧ (0 ≤ wrap64 (f.lk + d) ∧ wrap64 (f.lk + d) ≤ 65535) ∧ Abs n V0 I M' (upO A id (some { f with lk := wrap64 (f.lk + d) })) k) ∨
    (∃ s', wrun (wlinks ask n (id : Int) d) M = (.bad 1, { M with s := s' }) ∧ ¬ (0 ≤ wrap64 (f.lk + d) ∧ wrap64 (f.lk + d) ≤ 65535) ∧ Abs n V0 I { M with s := s' } A k) := by
  rcases h.run hr h0 (Does.links hr hn h.has hf d) with ⟨x, M', a', h1, ⟨h2, h3⟩, h7⟩ | ⟨c, s', h1, ⟨rfl, h2⟩, h3⟩
  · exact .inl ⟨M', h1, h2, h7 _ _ h3⟩
  · exact .inr ⟨s', h1, h2, h3⟩
theorem abs_trunc (h : Abs n V0 I M A k) (hf : A id = some f) (size : Nat) (hs : size ≤ 122880) :
    ∃ M', wrun (wtrunc ask n (id : Int) (size : Int)) M = (.ok (), M') ∧ Abs n V0 I M' (upO A id (some (f.cut size))) (k + needP f.pr - needP (f.cut size).pr) := by
  rcases h.run hr h0 (Does.trunc (E := fun _ => False) hr hn h.has hf size hs) with ⟨x, M', a', h1, h2, h6⟩ | ⟨c, s', h1, h2, h3⟩
  · exact ⟨M', h1, h6 _ _ h2⟩
  · exact h2.elim
theorem abs_free (h : Abs n V0 I M A k) (hf : A id = some f) : ∃ M', wrun (wfree ask n (id : Int)) M = (.ok (), M') ∧ Abs n V0 I M' (upO A id none) (k + needP f.pr) := by
  rcases h.run hr h0 (Does.free (E := fun _ => False) hr hn h.has hf) with ⟨x, M', a', h1, h2, h6⟩ | ⟨c, s', h1, h2, h3⟩
  · exact ⟨M', h1, h6 _ _ h2⟩
  · exact h2.elim
theorem abs_writeAt (h : Abs n V0 I M A k) (hf : A id = some f) (off : Nat) (d : List UInt8) (hd : d.length ≤ 4096) (hm : off + d.length ≤ 122880) :
    (∃ M', wrun (wwriteAt ask n (id : Int) (off : Int) d) M = (.ok (), M') ∧ needP (f.wr off d).pr ≤ k + needP f.pr ∧ Abs n V0 I M' (upO A id (some (f.wr off d))) (k + needP f.pr - needP (f.wr off d).pr)) ∨
    (∃ s', wrun (wwriteAt ask n (id : Int) (off : Int) d) M = (.bad 7, { M with s := s' }) ∧ k + needP f.pr < needP (f.wr off d).pr ∧ Abs n V0 I { M with s := s' } A k) := by
  rcases h.run hr h0 (Does.writeAt hr hn h.has hf off d hd hm) with ⟨x, M', a', h1, ⟨h2, h3⟩, h7⟩ | ⟨c, s', h1, ⟨rfl, h2⟩, h3⟩
  · exact .inl ⟨M', h1, h3, h7 _ _ h2⟩
  · exact .inr ⟨s', h1, h2, h3⟩
omit hn in
theorem abs_left (h : Abs n V0 I M A k) : ∃ M', wrun (wleft ask n) M = (.ok k, M') ∧ Abs n V0 I M' A k := by
  rcases h.run hr h0 (Does.left (E := fun _ => False) hr h0 h.has) with ⟨x, M', a', h1, ⟨h2, h5⟩, h6⟩ | ⟨c, s', h1, h2, h3⟩
  · exact ⟨M', by rw [h1, h2], h6 _ _ (by rw [h5]; exact h.has)⟩
  · exact h2.elim
end
end Go.SL

/- file: what a work does, plainly; batch.Read over any reader; check, need; work.read, write. -/
import Derived.Test.YtaoohjeaaccnfaaBb
import Derived.Test.YtaoohjeaaccnfaaFg
namespace Go.SL
set_option linter.unusedVariables false
set_option linter.unusedSimpArgs false
open Go.RowKit
/-- An answer, or what is panicked with. -/
inductive Rs (α : Type) where
  | ok (a : α)
  | bad (c : Int)
/-- A batch: its error, its writes, what it was told, and how its reader is. -/
structure Bst (σ : Type) where
  err : Int
  W : List (Int × List UInt8)
  D : List (Int × List UInt8)
  s : σ
/-- A work: its batch, its bitmap, and whether that is to be written. -/
structure Wst (σ : Type) where
  b : Bst σ
  bits : Option (List UInt8)
  dt : Bool
abbrev Asks (σ : Type) := σ → Int → (Int × List UInt8) × σ
abbrev WM (σ α : Type) := Wst σ → Rs α × Wst σ
def WM.bind {σ α β : Type} (m : WM σ α) (k : α → WM σ β) : WM σ β := fun st => match m st with | (.ok a, st') => k a st' | (.bad c, st') => (.bad c, st')
def WM.pure {σ α : Type} (a : α) : WM σ α := fun st => (.ok a, st)
def WM.fail {σ α : Type} (c : Int) : WM σ α := fun st => (.bad c, st)
infixr:55 " ⇝ " => WM.bind
section
variable {σ α β : Type} {m : WM σ α} {k : α → WM σ β} {st st' : Wst σ}
theorem WM.bind_ok {a : α} (h : m st = (.ok a, st')) : WM.bind m k st = k a st' := by unfold WM.bind; rw [h]
theorem WM.bind_bad {c : Int} (h : m st = (.bad c, st')) : WM.bind m k st = (.bad c, st') := by unfold WM.bind; rw [h]
end
def breadA {σ : Type} (ask : Asks σ) (b : Bst σ) (id : Int) : (Int × List UInt8) × Bst σ :=
  if (ask b.s id).1.1 = 0 then ((0, (ask b.s id).1.2), { b with D := SL.upd b.D id (ask b.s id).1.2, s := (ask b.s id).2 })
  else (((ask b.s id).1.1, (ask b.s id).1.2), { b with err := (ask b.s id).1.1, s := (ask b.s id).2 })
/-- batch.Read. -/
def bread {σ : Type} (ask : Asks σ) (b : Bst σ) (id : Int) : (Int × List UInt8) × Bst σ :=
  if b.err ≠ 0 then ((b.err, []), b) else
  match kget b.W id with
  | some l => ((0, l), b)
  | none => match kget b.D id with
    | some l => ((0, l), b)
    | none => breadA ask b id
def wread {σ : Type} (ask : Asks σ) (id : Int) : WM σ (List UInt8) := fun st =>
  if (bread ask st.b id).1.1 ≠ 0 then (.bad (bread ask st.b id).1.1, { st with b := (bread ask st.b id).2 })
  else if (bread ask st.b id).1.2.length ≠ 480 then (.bad 4, { st with b := (bread ask st.b id).2 })
  else (.ok (bread ask st.b id).1.2, { st with b := (bread ask st.b id).2 })
def wneed {σ : Type} (b : Bool) : WM σ Unit := fun st => (if b = true then .ok () else .bad 1, st)
end Go.SL
namespace Go.Proofs.Ytaoohjeaaccnfaa.Fs
set_option linter.unusedVariables false
set_option linter.unusedSimpArgs false
open Go.RowKit Go.SL Go.Proofs.Ytaoohjeaaccnfaa.Ba
/-- A reader. -/
structure Cx (σ : Type) where
  T : TypeId
  rv : Value
  fr : FuncId
  ask : Asks σ
  RI : σ → Assn
def Cx.rd {σ : Type} (c : Cx σ) : Value := .iface c.T c.rv
structure Cx.Ok {σ : Type} (c : Cx σ) : Prop where
  hm : ∀ (k : Nat) (w : World), (method (k + 1) c.T c.rv "Read").run Try.prog w = .ok (c.fr, c.rv) w
  hcf : ∀ (args : Array Value) (w : World), (callFunc c.fr args).run Try.prog w = .ok (.enter c.fr args) w
  hR : ∀ (s : σ) (id : Int) (F : Assn) (w : World), Sat w (c.RI s * F) → Calls Try.prog c.fr #[c.rv, .int .i64 id] w (ReadAns (c.ask s id).1 (c.RI (c.ask s id).2) F w)
  hs : ∀ (s : σ) (id : Int), (c.ask s id).1.1 = 0 → small (c.ask s id).1.2
/-- A batch over a reader. -/
def btA {σ : Type} (c : Cx σ) (S : Hp) (b : Nat) (x : Bst σ) : Assn := batchA 95 5 S b c.rd x.err x.W x.D * c.RI x.s
def BReadQ {σ : Type} (c : Cx σ) (b : Nat) (S : Hp) (p : (Int × List UInt8) × Bst σ) (F : Assn) (w : World) (e : Ending) (w' : World) : Prop :=
  ∃ S' dv, Ext S S' ∧ e = .returned (.tuple #[dv, .int .i64 p.1.1]) ∧ Sat w' (ansA 5 p.1 dv * (btA c S' b p.2 * (pool S' * F))) ∧ Side w w'
theorem bread_any {σ : Type} {c : Cx σ} (hc : c.Ok) (w : World) (S : Hp) (b : Nat) (x : Bst σ) (id : Int) (F : Assn) (h : Sat w (btA c S b x * (pool S * F))) :
    Calls Try.prog 68 #[.pointer (some ⟨b, 0, none⟩), .int .i64 id] w (BReadQ c b S (bread c.ask x id) F w) := by
  obtain ⟨err, W, D, s⟩ := x
  have h' : Sat w (batchA 95 5 S b c.rd err W D * (pool S * (c.RI s * F))) := h.to (by unfold btA; ac_rfl)
  by_cases he : err = 0
  · subst he
    cases hw : kget W id with
    | some l =>
      have e1 : bread c.ask ⟨0, W, D, s⟩ id = ((0, l), ⟨0, W, D, s⟩) := by unfold bread; simp only [ne_eq, not_true_eq_false, if_false, hw]
      rw [e1]
      refine (read_W w S b c.rd W D id l _ h' hw).mono ?_
      rintro e w' ⟨S', dv, h1, rfl, h2, h3⟩
      exact ⟨S', dv, h1, rfl, h2.to (by unfold btA; ac_rfl), h3⟩
    | none =>
      cases hd : kget D id with
      | some l =>
        have e1 : bread c.ask ⟨0, W, D, s⟩ id = ((0, l), ⟨0, W, D, s⟩) := by unfold bread; simp only [ne_eq, not_true_eq_false, if_false, hw, hd]
        rw [e1]
        refine (read_D w S b c.rd W D id l _ h' hw hd).mono ?_
        rintro e w' ⟨S', dv, h1, rfl, h2, h3⟩
        exact ⟨S', dv, h1, rfl, h2.to (by unfold btA; ac_rfl), h3⟩
      | none =>
        have e1 : bread c.ask ⟨0, W, D, s⟩ id = breadA c.ask ⟨0, W, D, s⟩ id := by unfold bread; simp only [ne_eq, not_true_eq_false, if_false, hw, hd]
        have hR := fun F w => hc.hR s id F w
        have hs := hc.hs s id
        rw [e1]
        unfold breadA
        dsimp only
        generalize c.ask s id = p at *
        obtain ⟨⟨c1, l⟩, s'⟩ := p
        dsimp only at hR hs ⊢
        by_cases h1 : c1 = 0
        · subst h1
          rw [if_pos rfl]
          refine (read_ok w S b c.T c.rv c.fr W D id l (c.RI s) (c.RI s') F hc.hm hc.hcf hR h' hw hd (hs rfl)).mono ?_
          rintro e w' ⟨S', dv, h1, rfl, h2, h3⟩
          exact ⟨S', dv, h1, rfl, h2.to (by unfold btA Cx.rd; ac_rfl), h3⟩
        · rw [if_neg h1]
          refine (read_no w S b c.T c.rv c.fr W D id c1 l (c.RI s) (c.RI s') F hc.hm hc.hcf hR h1 h' hw hd).mono ?_
          rintro e w' ⟨S', dv, h1, rfl, h2, h3⟩
          exact ⟨S', dv, h1, rfl, h2.to (by unfold btA Cx.rd; ac_rfl), h3⟩
  · have e1 : bread c.ask ⟨err, W, D, s⟩ id = ((err, []), ⟨err, W, D, s⟩) := by unfold bread; rw [if_pos he]
    rw [e1]
    refine (read_err w S b c.rd err W D id _ h' he).mono ?_
    rintro e w' ⟨S', dv, h1, rfl, h2, h3⟩
    exact ⟨S', dv, h1, rfl, h2.to (by unfold btA; ac_rfl), h3⟩
/-- What is panicked with. -/
def flt (c : Int) : List PanicEntry := [{ v := .iface 96 (.int .i64 c), recovered := false }]
theorem check_ok (w : World) : Calls Try.prog 57 #[.int .i64 0] w fun e w' => e = .returned (.tuple #[]) ∧ w = w' := by
  go_enter Try.func57, Try.ntmps57
  go_wp2
  go_end0
  exact ⟨rfl, rfl⟩
theorem check_bad (w : World) (c : Int) (hc : c ≠ 0) : Calls Try.prog 57 #[.int .i64 c] w fun e w' => e = .panicked (flt c) ∧ w = w' := by
  have h1 : (c != 0) = true := by simpa using hc
  go_enter Try.func57, Try.ntmps57
  go_wp2
  exact ⟨rfl, rfl, rfl⟩
theorem need_yes (w : World) : Calls Try.prog 26 #[.bool true] w fun e w' => e = .returned (.tuple #[]) ∧ w = w' := by
  go_enter Try.func26, Try.ntmps26
  go_wp2
  go_end0
  exact ⟨rfl, rfl⟩
theorem need_no (w : World) : Calls Try.prog 26 #[.bool false] w fun e w' => e = .panicked (flt 1) ∧ w = w' := by
  have hc := check_bad w 1 (by decide)
  go_enter Try.func26, Try.ntmps26
  go_wp2_with fail
  (with_reducible refine hc.mono ?_)
  rintro e w2 ⟨rfl, rfl⟩
  clear hc
  go_wp2
  exact ⟨rfl, rfl, rfl⟩
/-- A bitmap that was asked for, or not. -/
def bitsA (o : Option (List UInt8)) (v : Value) : Assn := fun h => (o = none ∧ v = .slice none 0 0 ∧ h = fun _ => none) ∨ ∃ l, o = some l ∧ l.length = 480 ∧ bs 5 v l h
/-- Where a work lies. -/
structure Wk (σ : Type) where
  c : Cx σ
  n : Nat
  k : Nat
  b : Nat
def Wk.cells {σ : Type} (x : Wk σ) (v : Value) (t : Bool) : Array Value := #[.pointer (some ⟨x.b, 0, none⟩), .int .i64 (x.n : Int), v, .bool t]
def workX {σ : Type} (x : Wk σ) (v : Value) (S : Hp) (st : Wst σ) : Assn := pt x.k (.cells (x.cells v st.dt) 85 (0, 0)) * btA x.c S x.b st.b
def workA {σ : Type} (x : Wk σ) (S : Hp) (st : Wst σ) : Assn := ex fun v => workX x v S st * bitsA st.bits v
/-- What a method of a work comes to. -/
def WQ {σ α : Type} (x : Wk σ) (R : α → Value → Assn) (S : Hp) (F : Assn) (w : World) : Rs α × Wst σ → Ending → World → Prop
  | (.ok a, st'), e, w' => ∃ S' v, Ext S S' ∧ Side w w' ∧ e = .returned v ∧ Sat w' (R a v * (workA x S' st' * (pool S' * F)))
  | (.bad c, st'), e, w' => ∃ S', Ext S S' ∧ Side w w' ∧ e = .panicked (flt c) ∧ Sat w' (workA x S' st' * (pool S' * F))
/-- The same, by where the bitmap lies, which is left alone. -/
def WXQ {σ α : Type} (x : Wk σ) (bv : Value) (R : α → Value → Assn) (S : Hp) (F : Assn) (w : World) : Rs α × Wst σ → Ending → World → Prop
  | (.ok a, st'), e, w' => ∃ S' v, Ext S S' ∧ Side w w' ∧ e = .returned v ∧ Sat w' (R a v * (workX x bv S' st' * (pool S' * F)))
  | (.bad c, st'), e, w' => ∃ S', Ext S S' ∧ Side w w' ∧ e = .panicked (flt c) ∧ Sat w' (workX x bv S' st' * (pool S' * F))
def unitR (a : Unit) (v : Value) : Assn := fact (v = .tuple #[])
def bytesR (l : List UInt8) (v : Value) : Assn := bs 5 v l
set_option maxRecDepth 100000 in
set_option maxHeartbeats 1000000 in
theorem readX_any {σ : Type} (x : Wk σ) (hc : x.c.Ok) (w : World) (bv : Value) (S : Hp) (st : Wst σ) (id : Int) (F : Assn) (h : Sat w (workX x bv S st * (pool S * F))) :
    Calls Try.prog 37 #[.pointer (some ⟨x.k, 0, none⟩), .int .i64 id] w (WXQ x bv bytesR S F w (wread x.c.ask id st)) := by
  have h0 : Sat w (btA x.c S x.b st.b * (pool S * (pt x.k (.cells (x.cells bv st.dt) 85 (0, 0)) * F))) := h.to (by unfold workX; ac_rfl)
  have c0 : w.cell? ⟨x.k, 0, none⟩ = some (.pointer (some ⟨x.b, 0, none⟩)) := h0.front3.cell 0
  have hr := bread_any hc w S x.b st.b id _ h0
  have hE : ∀ p, bread x.c.ask st.b id = p → wread x.c.ask id st = if p.1.1 ≠ 0 then (.bad p.1.1, { st with b := p.2 }) else if p.1.2.length ≠ 480 then (.bad 4, { st with b := p.2 }) else (.ok p.1.2, { st with b := p.2 }) := fun p hp => by subst hp; rfl
  obtain ⟨⟨⟨c1, l⟩, b'⟩, hp⟩ : ∃ p, bread x.c.ask st.b id = p := ⟨_, rfl⟩
  have hE2 := hE _ hp
  rw [hp] at hr
  clear hE hp h
  dsimp only at hE2
  rw [hE2]
  clear hE2
  by_cases h1 : c1 = 0
  · subst h1
    rw [if_neg (by simp)]
    have hck := fun w => check_ok w
    by_cases hl : l.length = 480
    · rw [if_neg (by simp [hl])]
      have hb1 : ((480 : Int) != 480) = false := by decide
      have Hl := SL.hid hl
      clear hl
      go_enter Try.func37, Try.ntmps37
      go_wp2_with fail
      (with_reducible refine hr.mono ?_)
      rintro e w1 ⟨S', dv, hS, rfl, h2, d2⟩
      have h3 := h2.ansYes
      obtain ⟨va, vc, rfl⟩ := sl_shape h3
      rw [Hl.out] at h3 ⊢
      clear hr c0 h2
      go_wp2_with fail
      (with_reducible refine (check_ok w1).mono ?_)
      rintro e w2 ⟨rfl, rfl⟩
      go_wp2_with fail
      go_ret
      exact ⟨S', _, hS, d2, rfl, by unfold workX btA bytesR; exact h3.to (by unfold btA; ac_rfl)⟩
    · rw [if_pos hl]
      have hb1 : ((l.length : Int) != 480) = true := by rw [bne_iff_ne]; omega
      have Hl := SL.hid hl
      clear hl
      go_enter Try.func37, Try.ntmps37
      go_wp2_with fail
      (with_reducible refine hr.mono ?_)
      rintro e w1 ⟨S', dv, hS, rfl, h2, d2⟩
      have h3 := h2.ansYes
      obtain ⟨va, vc, rfl⟩ := sl_shape h3
      clear hr c0 h2
      go_wp2_with fail
      (with_reducible refine (check_ok w1).mono ?_)
      rintro e w2 ⟨rfl, rfl⟩
      go_wp2_with fail
      (with_reducible refine (check_bad w1 4 (by decide)).mono ?_)
      rintro e w2 ⟨rfl, rfl⟩
      go_wp2_with fail
      exact ⟨rfl, S', hS, d2, rfl, by unfold workX; exact h3.right.to (by ac_rfl)⟩
  · rw [if_pos h1]
    have H1 := SL.hid h1
    go_enter Try.func37, Try.ntmps37
    go_wp2_with fail
    (with_reducible refine hr.mono ?_)
    rintro e w1 ⟨S', dv, hS, rfl, h2, d2⟩
    obtain ⟨rfl, h3⟩ := h2.ansNo H1.out
    clear hr c0 h2
    go_wp2_with fail
    (with_reducible refine (check_bad w1 c1 H1.out).mono ?_)
    rintro e w2 ⟨rfl, rfl⟩
    go_wp2_with fail
    exact ⟨rfl, S', hS, d2, rfl, by unfold workX; exact h3.to (by ac_rfl)⟩
end Go.Proofs.Ytaoohjeaaccnfaa.Fs

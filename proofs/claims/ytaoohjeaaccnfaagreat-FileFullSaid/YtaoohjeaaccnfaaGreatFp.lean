/- file: what a work does, plainly; batch.Read over any reader; check, need; work.read, write. file: work.write, bitmap, mark, take. file: within, page, put. file: load. file: save. -/
import Derived.Test.YtaoohjeaaccnfaaGreatBb
import Derived.Test.YtaoohjeaaccnfaaGreatFh
import Derived.Test.YtaoohjeaaccnfaaGreatFe
import Derived.Deep.MidRow
namespace Go.SL
set_option linter.unusedVariables false
set_option linter.unusedSimpArgs false
open Go.RowKit
/-- An answer, or what is panicked with. -/
inductive Rs (α : Type) where
  | ok (a : α)
  | bad (c : Int)
/-- A batch: its error, its writes, what it was told, and how its reader is. -/
structure Bst (σ : Type) where
  err : Int
  W : List (Int × List UInt8)
  D : List (Int × List UInt8)
  s : σ
/-- A work: its batch, its bitmap, and whether that is to be written. -/
structure Wst (σ : Type) where
  b : Bst σ
  bits : Option (List UInt8)
  dt : Bool
abbrev Asks (σ : Type) := σ → Int → (Int × List UInt8) × σ
abbrev WM (σ α : Type) := Wst σ → Rs α × Wst σ
def WM.bind {σ α β : Type} (m : WM σ α) (k : α → WM σ β) : WM σ β := fun st => match m st with | (.ok a, st') => k a st' | (.bad c, st') => (.bad c, st')
def WM.pure {σ α : Type} (a : α) : WM σ α := fun st => (.ok a, st)
def WM.fail {σ α : Type} (c : Int) : WM σ α := fun st => (.bad c, st)
section
variable {σ α β : Type} {m : WM σ α} {k : α → WM σ β} {st st' : Wst σ}
theorem WM.bind_ok {a : α} (h : m st = (.ok a, st')) : WM.bind m k st = k a st' := by unfold WM.bind; rw [h]
theorem WM.bind_bad {c : Int} (h : m st = (.bad c, st')) : WM.bind m k st = (.bad c, st') := by unfold WM.bind; rw [h]
end
def breadA {σ : Type} (ask : Asks σ) (b : Bst σ) (id : Int) : (Int × List UInt8) × Bst σ :=
  if (ask b.s id).1.1 = 0 then ((0, (ask b.s id).1.2), { b with D := SL.upd b.D id (ask b.s id).1.2, s := (ask b.s id).2 })
  else (((ask b.s id).1.1, (ask b.s id).1.2), { b with err := (ask b.s id).1.1, s := (ask b.s id).2 })
/-- batch.Read. -/
def bread {σ : Type} (ask : Asks σ) (b : Bst σ) (id : Int) : (Int × List UInt8) × Bst σ :=
  if b.err ≠ 0 then ((b.err, []), b) else
  match kget b.W id with
  | some l => ((0, l), b)
  | none => match kget b.D id with
    | some l => ((0, l), b)
    | none => breadA ask b id
def wread {σ : Type} (ask : Asks σ) (id : Int) : WM σ (List UInt8) := fun st =>
  if (bread ask st.b id).1.1 ≠ 0 then (.bad (bread ask st.b id).1.1, { st with b := (bread ask st.b id).2 })
  else if (bread ask st.b id).1.2.length ≠ 480 then (.bad 4, { st with b := (bread ask st.b id).2 })
  else (.ok (bread ask st.b id).1.2, { st with b := (bread ask st.b id).2 })
def wneed {σ : Type} (b : Bool) : WM σ Unit := fun st => (if b = true then .ok () else .bad 1, st)
end Go.SL
namespace Go.Proofs.YtaoohjeaaccnfaaGreat.Fs
set_option linter.unusedVariables false
set_option linter.unusedSimpArgs false
open Go.RowKit Go.SL Go.Proofs.YtaoohjeaaccnfaaGreat.Ba
/-- A reader. -/
structure Cx (σ : Type) where
  T : TypeId
  rv : Value
  fr : FuncId
  ask : Asks σ
  RI : σ → Assn
def Cx.rd {σ : Type} (c : Cx σ) : Value := .iface c.T c.rv
structure Cx.Ok {σ : Type} (c : Cx σ) : Prop where
  hm : ∀ (k : Nat) (w : World), (method (k + 1) c.T c.rv "Read").run Tryz.prog w = .ok (c.fr, c.rv) w
  hcf : ∀ (args : Array Value) (w : World), (callFunc c.fr args).run Tryz.prog w = .ok (.enter c.fr args) w
  hR : ∀ (s : σ) (id : Int) (F : Assn) (w : World), Sat w (c.RI s * F) → Calls Tryz.prog c.fr #[c.rv, .int .i64 id] w (ReadAns (c.ask s id).1 (c.RI (c.ask s id).2) F w)
  hs : ∀ (s : σ) (id : Int), (c.ask s id).1.1 = 0 → small (c.ask s id).1.2
/-- A batch over a reader. -/
def btA {σ : Type} (c : Cx σ) (S : Hp) (b : Nat) (x : Bst σ) : Assn := batchA 113 5 S b c.rd x.err x.W x.D * c.RI x.s
def BReadQ {σ : Type} (c : Cx σ) (b : Nat) (S : Hp) (p : (Int × List UInt8) × Bst σ) (F : Assn) (w : World) (e : Ending) (w' : World) : Prop :=
  ∃ S' dv, Ext S S' ∧ e = .returned (.tuple #[dv, .int .i64 p.1.1]) ∧ Sat w' (ansA 5 p.1 dv * (btA c S' b p.2 * (pool S' * F))) ∧ Side w w'
theorem bread_any {σ : Type} {c : Cx σ} (hc : c.Ok) (w : World) (S : Hp) (b : Nat) (x : Bst σ) (id : Int) (F : Assn) (h : Sat w (btA c S b x * (pool S * F))) :
    Calls Tryz.prog 111 #[.pointer (some ⟨b, 0, none⟩), .int .i64 id] w (BReadQ c b S (bread c.ask x id) F w) := by
  obtain ⟨err, W, D, s⟩ := x
  have h' : Sat w (batchA 113 5 S b c.rd err W D * (pool S * (c.RI s * F))) := h.to (by unfold btA; ac_rfl)
  by_cases he : err = 0
  · subst he
    cases hw : kget W id with
    | some l =>
      have e1 : bread c.ask ⟨0, W, D, s⟩ id = ((0, l), ⟨0, W, D, s⟩) := by unfold bread; simp only [ne_eq, not_true_eq_false, if_false, hw]
      rw [e1]
      refine (read_W w S b c.rd W D id l _ h' hw).mono ?_
      rintro e w' ⟨S', dv, h1, rfl, h2, h3⟩
      exact ⟨S', dv, h1, rfl, h2.to (by unfold btA; ac_rfl), h3⟩
    | none =>
      cases hd : kget D id with
      | some l =>
        have e1 : bread c.ask ⟨0, W, D, s⟩ id = ((0, l), ⟨0, W, D, s⟩) := by unfold bread; simp only [ne_eq, not_true_eq_false, if_false, hw, hd]
        rw [e1]
        refine (read_D w S b c.rd W D id l _ h' hw hd).mono ?_
        rintro e w' ⟨S', dv, h1, rfl, h2, h3⟩
        exact ⟨S', dv, h1, rfl, h2.to (by unfold btA; ac_rfl), h3⟩
      | none =>
        have e1 : bread c.ask ⟨0, W, D, s⟩ id = breadA c.ask ⟨0, W, D, s⟩ id := by unfold bread; simp only [ne_eq, not_true_eq_false, if_false, hw, hd]
        have hR := fun F w => hc.hR s id F w
        have hs := hc.hs s id
        rw [e1]
        unfold breadA
        dsimp only
        generalize c.ask s id = p at *
        obtain ⟨⟨c1, l⟩, s'⟩ := p
        dsimp only at hR hs ⊢
        by_cases h1 : c1 = 0
        · subst h1
          rw [if_pos rfl]
          refine (read_ok w S b c.T c.rv c.fr W D id l (c.RI s) (c.RI s') F hc.hm hc.hcf hR h' hw hd (hs rfl)).mono ?_
          rintro e w' ⟨S', dv, h1, rfl, h2, h3⟩
          exact ⟨S', dv, h1, rfl, h2.to (by unfold btA Cx.rd; ac_rfl), h3⟩
        · rw [if_neg h1]
          refine (read_no w S b c.T c.rv c.fr W D id c1 l (c.RI s) (c.RI s') F hc.hm hc.hcf hR h1 h' hw hd).mono ?_
          rintro e w' ⟨S', dv, h1, rfl, h2, h3⟩
          exact ⟨S', dv, h1, rfl, h2.to (by unfold btA Cx.rd; ac_rfl), h3⟩
  · have e1 : bread c.ask ⟨err, W, D, s⟩ id = ((err, []), ⟨err, W, D, s⟩) := by unfold bread; rw [if_pos he]
    rw [e1]
    refine (read_err w S b c.rd err W D id _ h' he).mono ?_
    rintro e w' ⟨S', dv, h1, rfl, h2, h3⟩
    exact ⟨S', dv, h1, rfl, h2.to (by unfold btA; ac_rfl), h3⟩
/-- What is panicked with. -/
def flt (c : Int) : List PanicEntry := [{ v := .iface 123 (.int .i64 c), recovered := false }]
theorem check_ok (w : World) : Calls Tryz.prog 75 #[.int .i64 0] w fun e w' => e = .returned (.tuple #[]) ∧ w = w' := by
  go_enter Tryz.func75, Tryz.ntmps75
  go_wp2
  go_end0
  exact ⟨rfl, rfl⟩
theorem check_bad (w : World) (c : Int) (hc : c ≠ 0) : Calls Tryz.prog 75 #[.int .i64 c] w fun e w' => e = .panicked (flt c) ∧ w = w' := by
  have h1 : (c != 0) = true := by simpa using hc
  go_enter Tryz.func75, Tryz.ntmps75
  go_wp2
  exact ⟨rfl, rfl, rfl⟩
theorem need_yes (w : World) : Calls Tryz.prog 41 #[.bool true] w fun e w' => e = .returned (.tuple #[]) ∧ w = w' := by
  go_enter Tryz.func41, Tryz.ntmps41
  go_wp2
  go_end0
  exact ⟨rfl, rfl⟩
theorem need_no (w : World) : Calls Tryz.prog 41 #[.bool false] w fun e w' => e = .panicked (flt 1) ∧ w = w' := by
  have hc := check_bad w 1 (by decide)
  go_enter Tryz.func41, Tryz.ntmps41
  go_wp2_with fail
  (with_reducible refine hc.mono ?_)
  rintro e w2 ⟨rfl, rfl⟩
  clear hc
  go_wp2
  exact ⟨rfl, rfl, rfl⟩
/-- A bitmap that was asked for, or not. -/
def bitsA (o : Option (List UInt8)) (v : Value) : Assn := fun h => (o = none ∧ v = .slice none 0 0 ∧ h = fun _ => none) ∨ ∃ l, o = some l ∧ l.length = 480 ∧ bs 5 v l h
/-- Where a work lies. -/
structure Wk (σ : Type) where
  c : Cx σ
  n : Nat
  k : Nat
  b : Nat
def Wk.cells {σ : Type} (x : Wk σ) (v : Value) (t : Bool) : Array Value := #[.pointer (some ⟨x.b, 0, none⟩), .int .i64 (x.n : Int), v, .bool t]
def workX {σ : Type} (x : Wk σ) (v : Value) (S : Hp) (st : Wst σ) : Assn := pt x.k (.cells (x.cells v st.dt) 81 (0, 0)) * btA x.c S x.b st.b
def workA {σ : Type} (x : Wk σ) (S : Hp) (st : Wst σ) : Assn := ex fun v => workX x v S st * bitsA st.bits v
/-- What a method of a work comes to. -/
def WQ {σ α : Type} (x : Wk σ) (R : α → Value → Assn) (S : Hp) (F : Assn) (w : World) : Rs α × Wst σ → Ending → World → Prop
  | (.ok a, st'), e, w' => ∃ S' v, Ext S S' ∧ Side w w' ∧ e = .returned v ∧ Sat w' (R a v * (workA x S' st' * (pool S' * F)))
  | (.bad c, st'), e, w' => ∃ S', Ext S S' ∧ Side w w' ∧ e = .panicked (flt c) ∧ Sat w' (workA x S' st' * (pool S' * F))
/-- The same, by where the bitmap lies, which is left alone. -/
def WXQ {σ α : Type} (x : Wk σ) (bv : Value) (R : α → Value → Assn) (S : Hp) (F : Assn) (w : World) : Rs α × Wst σ → Ending → World → Prop
  | (.ok a, st'), e, w' => ∃ S' v, Ext S S' ∧ Side w w' ∧ e = .returned v ∧ Sat w' (R a v * (workX x bv S' st' * (pool S' * F)))
  | (.bad c, st'), e, w' => ∃ S', Ext S S' ∧ Side w w' ∧ e = .panicked (flt c) ∧ Sat w' (workX x bv S' st' * (pool S' * F))
def unitR (a : Unit) (v : Value) : Assn := fact (v = .tuple #[])
def bytesR (l : List UInt8) (v : Value) : Assn := bs 5 v l
set_option maxRecDepth 100000 in
set_option maxHeartbeats 1000000 in
theorem readX_any {σ : Type} (x : Wk σ) (hc : x.c.Ok) (w : World) (bv : Value) (S : Hp) (st : Wst σ) (id : Int) (F : Assn) (h : Sat w (workX x bv S st * (pool S * F))) :
    Calls Tryz.prog 74 #[.pointer (some ⟨x.k, 0, none⟩), .int .i64 id] w (WXQ x bv bytesR S F w (wread x.c.ask id st)) := by
  have h0 : Sat w (btA x.c S x.b st.b * (pool S * (pt x.k (.cells (x.cells bv st.dt) 81 (0, 0)) * F))) := h.to (by unfold workX; ac_rfl)
  have c0 : w.cell? ⟨x.k, 0, none⟩ = some (.pointer (some ⟨x.b, 0, none⟩)) := h0.front3.cell 0
  have hr := bread_any hc w S x.b st.b id _ h0
  have hE : ∀ p, bread x.c.ask st.b id = p → wread x.c.ask id st = if p.1.1 ≠ 0 then (.bad p.1.1, { st with b := p.2 }) else if p.1.2.length ≠ 480 then (.bad 4, { st with b := p.2 }) else (.ok p.1.2, { st with b := p.2 }) := fun p hp => by subst hp; rfl
  obtain ⟨⟨⟨c1, l⟩, b'⟩, hp⟩ : ∃ p, bread x.c.ask st.b id = p := ⟨_, rfl⟩
  have hE2 := hE _ hp
  rw [hp] at hr
  clear hE hp h
  dsimp only at hE2
  rw [hE2]
  clear hE2
  by_cases h1 : c1 = 0
  · subst h1
    rw [if_neg (by simp)]
    have hck := fun w => check_ok w
    by_cases hl : l.length = 480
    · rw [if_neg (by simp [hl])]
      have hb1 : ((480 : Int) != 480) = false := by decide
      have Hl := SL.hid hl
      clear hl
      go_enter Tryz.func74, Tryz.ntmps74
      go_wp2_with fail
      (with_reducible refine hr.mono ?_)
      rintro e w1 ⟨S', dv, hS, rfl, h2, d2⟩
      have h3 := h2.ansYes
      obtain ⟨va, vc, rfl⟩ := sl_shape h3
      rw [Hl.out] at h3 ⊢
      clear hr c0 h2
      go_wp2_with fail
      (with_reducible refine (check_ok w1).mono ?_)
      rintro e w2 ⟨rfl, rfl⟩
      go_wp2_with fail
      go_ret
      exact ⟨S', _, hS, d2, rfl, by unfold workX btA bytesR; exact h3.to (by unfold btA; ac_rfl)⟩
    · rw [if_pos hl]
      have hb1 : ((l.length : Int) != 480) = true := by rw [bne_iff_ne]; omega
      have Hl := SL.hid hl
      clear hl
      go_enter Tryz.func74, Tryz.ntmps74
      go_wp2_with fail
      (with_reducible refine hr.mono ?_)
      rintro e w1 ⟨S', dv, hS, rfl, h2, d2⟩
      have h3 := h2.ansYes
      obtain ⟨va, vc, rfl⟩ := sl_shape h3
      clear hr c0 h2
      go_wp2_with fail
      (with_reducible refine (check_ok w1).mono ?_)
      rintro e w2 ⟨rfl, rfl⟩
      go_wp2_with fail
      (with_reducible refine (check_bad w1 4 (by decide)).mono ?_)
      rintro e w2 ⟨rfl, rfl⟩
      go_wp2_with fail
      exact ⟨rfl, S', hS, d2, rfl, by unfold workX; exact h3.right.to (by ac_rfl)⟩
  · rw [if_pos h1]
    have H1 := SL.hid h1
    go_enter Tryz.func74, Tryz.ntmps74
    go_wp2_with fail
    (with_reducible refine hr.mono ?_)
    rintro e w1 ⟨S', dv, hS, rfl, h2, d2⟩
    obtain ⟨rfl, h3⟩ := h2.ansNo H1.out
    clear hr c0 h2
    go_wp2_with fail
    (with_reducible refine (check_bad w1 c1 H1.out).mono ?_)
    rintro e w2 ⟨rfl, rfl⟩
    go_wp2_with fail
    exact ⟨rfl, S', hS, d2, rfl, by unfold workX; exact h3.to (by ac_rfl)⟩
end Go.Proofs.YtaoohjeaaccnfaaGreat.Fs
namespace Go.SL
set_option linter.unusedVariables false
set_option linter.unusedSimpArgs false
open Go.RowKit
section
variable {σ : Type}
def writeE (err id : Int) (l : List UInt8) : Int := if err ≠ 0 then err else if id < 0 ∨ l.length ≠ 480 then 1 else 0
def wwrite (id : Int) (l : List UInt8) : WM σ Unit := fun st =>
  if writeE st.b.err id l = 0 then (.ok (), { st with b := { st.b with W := SL.upd st.b.W id l } }) else (.bad (writeE st.b.err id l), st)
def wbits (ask : Asks σ) : WM σ (List UInt8) := fun st => match st.bits with
  | some l => (.ok l, st)
  | none => match wread ask 0 st with
    | (.ok l, st') => (.ok l, { st' with bits := some l })
    | (.bad c, st') => (.bad c, st')
def wmarkK (id : Nat) (t : Bool) (l : List UInt8) : WM σ Unit := fun st => (.ok (), { st with bits := some (setTo l id t), dt := true })
def wmark (ask : Asks σ) (id : Nat) (t : Bool) : WM σ Unit := WM.bind (wbits ask) (wmarkK id t)
def wtakeO (l : List UInt8) (st : Wst σ) : Option Nat → Rs Nat × Wst σ
  | some k => (.ok k, { st with bits := some (setTo l k true), dt := true })
  | none => (.bad 7, st)
def wtakeK (n : Nat) (l : List UInt8) : WM σ Nat := fun st => wtakeO l st (freeOf l n)
def wtake (ask : Asks σ) (n : Nat) : WM σ Nat := WM.bind (wbits ask) (wtakeK n)
theorem wread_bits (ask : Asks σ) (id : Int) (st : Wst σ) : (wread ask id st).2.bits = st.bits := by
  unfold wread; split
  · rfl
  · split <;> rfl
theorem wread_len {ask : Asks σ} {id : Int} {st st' : Wst σ} {l : List UInt8} (h : wread ask id st = (.ok l, st')) : l.length = 480 := by
  unfold wread at h
  split at h
  · cases h
  · split at h
    · cases h
    · rename_i h9; simp only [Prod.mk.injEq, Rs.ok.injEq] at h; rw [← h.1]; exact Decidable.of_not_not h9
theorem wwrite_bits (id : Int) (l : List UInt8) (st : Wst σ) : (wwrite id l st).2.bits = st.bits := by
  unfold wwrite; split <;> rfl
theorem wbits_ok {ask : Asks σ} {st st' : Wst σ} {l : List UInt8} (h : wbits ask st = (.ok l, st')) (hb : ∀ l, st.bits = some l → l.length = 480) : st'.bits = some l ∧ l.length = 480 := by
  unfold wbits at h
  split at h
  · rename_i l0 h0
    simp only [Prod.mk.injEq, Rs.ok.injEq] at h
    obtain ⟨rfl, rfl⟩ := h
    exact ⟨h0, hb _ h0⟩
  · split at h
    · rename_i l1 st1 h1
      simp only [Prod.mk.injEq, Rs.ok.injEq] at h
      obtain ⟨rfl, rfl⟩ := h
      exact ⟨rfl, wread_len h1⟩
    · cases h
end
end Go.SL
namespace Go.Proofs.YtaoohjeaaccnfaaGreat.Fs
set_option linter.unusedVariables false
set_option linter.unusedSimpArgs false
open Go.RowKit Go.SL Go.Proofs.YtaoohjeaaccnfaaGreat.Ba
section
variable {σ α : Type}
theorem Sat.workOpen {w : World} {x : Wk σ} {S : Hp} {st : Wst σ} {F : Assn} (h : Sat w (workA x S st * F)) : ∃ v, Sat w (workX x v S st * (bitsA st.bits v * F)) := by
  obtain ⟨v, h⟩ := Sat.ex_star_iff.1 h
  exact ⟨v, h.to (by ac_rfl)⟩
theorem Sat.workShut {w : World} {x : Wk σ} {S : Hp} {st : Wst σ} {F : Assn} (v : Value) (h : Sat w (workX x v S st * (bitsA st.bits v * F))) : Sat w (workA x S st * F) :=
  Sat.ex_star_iff.2 ⟨v, h.to (by ac_rfl)⟩
theorem Sat.bitsNil {w : World} {F : Assn} (h : Sat w F) : Sat w (bitsA none (.slice none 0 0) * F) :=
  (h.to (emp_star _).symm).weak fun k hk => .inl ⟨rfl, rfl, hk⟩
theorem Sat.bitsSome {w : World} {F : Assn} {v : Value} {l : List UInt8} (hl : l.length = 480) (h : Sat w (bs 5 v l * F)) : Sat w (bitsA (some l) v * F) :=
  h.weak fun k hk => .inr ⟨l, rfl, hl, hk⟩
theorem Sat.bitsCases {w : World} {o : Option (List UInt8)} {v : Value} {F : Assn} (h : Sat w (bitsA o v * F)) :
    (o = none ∧ v = .slice none 0 0 ∧ Sat w F) ∨ ∃ l, o = some l ∧ l.length = 480 ∧ Sat w (bs 5 v l * F) := by
  obtain ⟨k, a, h1, h2, p, q, d, rfl⟩ := h
  rcases p with ⟨rfl, rfl, rfl⟩ | ⟨l, rfl, hl, hb⟩
  · refine .inl ⟨rfl, rfl, _, a, ?_⟩
    have : join (fun _ => none) h2 = h2 := by funext c; simp [join]
    rw [this]; exact q
  · exact .inr ⟨l, rfl, hl, _, a, h1, h2, hb, q, d, rfl⟩
/-- What leaves the bitmap alone, of a whole work. -/
theorem WXQ.lift {x : Wk σ} {bv : Value} {R : α → Value → Assn} {S : Hp} {F : Assn} {w : World} {st : Wst σ} : ∀ {p : Rs α × Wst σ} {e : Ending} {w' : World},
    WXQ x bv R S (bitsA st.bits bv * F) w p e w' → p.2.bits = st.bits → WQ x R S F w p e w'
  | (.ok a, st'), e, w', ⟨S', v, h1, h2, h3, h4⟩, hb => by
    refine ⟨S', v, h1, h2, h3, ?_⟩
    dsimp only at hb
    rw [← hb] at h4
    exact (Sat.workShut bv (h4.to (by ac_rfl) : Sat w' (workX x bv S' st' * (bitsA st'.bits bv * (R a v * (pool S' * F)))))).to (by ac_rfl)
  | (.bad c, st'), e, w', ⟨S', h1, h2, h3, h4⟩, hb => by
    refine ⟨S', h1, h2, h3, ?_⟩
    dsimp only at hb
    rw [← hb] at h4
    exact (Sat.workShut bv (h4.to (by ac_rfl) : Sat w' (workX x bv S' st' * (bitsA st'.bits bv * (pool S' * F)))))
theorem read_anyW (x : Wk σ) (hc : x.c.Ok) (w : World) (S : Hp) (st : Wst σ) (id : Int) (F : Assn) (h : Sat w (workA x S st * (pool S * F))) :
    Calls Tryz.prog 74 #[.pointer (some ⟨x.k, 0, none⟩), .int .i64 id] w (WQ x bytesR S F w (wread x.c.ask id st)) := by
  obtain ⟨v, h1⟩ := Sat.workOpen h
  refine (readX_any x hc w v S st id (bitsA st.bits v * F) (h1.to (by ac_rfl))).mono fun e w' h2 => WXQ.lift h2 (wread_bits _ _ _)
theorem writeR_E (err id : Int) (l : List UInt8) : writeR err id l = writeE err id l := rfl
set_option maxRecDepth 100000 in
set_option maxHeartbeats 1000000 in
theorem writeX_any (x : Wk σ) (w : World) (bv : Value) (S : Hp) (st : Wst σ) (id : Int) (dv : Value) (l : List UInt8) (F : Assn) (h : Sat w (workX x bv S st * (pool S * F))) (hr : Rd w dv l) :
    Calls Tryz.prog 56 #[.pointer (some ⟨x.k, 0, none⟩), .int .i64 id, dv] w (WXQ x bv unitR S F w (wwrite id l st)) := by
  have h0 : Sat w (batchA 113 5 S x.b x.c.rd st.b.err st.b.W st.b.D * (pool S * (x.c.RI st.b.s * (pt x.k (.cells (x.cells bv st.dt) 81 (0, 0)) * F)))) := h.to (by unfold workX btA; ac_rfl)
  have c0 : w.cell? ⟨x.k, 0, none⟩ = some (.pointer (some ⟨x.b, 0, none⟩)) := (h.to (by unfold workX; ac_rfl : _ = pt x.k (.cells (x.cells bv st.dt) 81 (0, 0)) * (btA x.c S x.b st.b * (pool S * F)))).cell 0
  have hw := write_any w S x.b x.c.rd st.b.err st.b.W st.b.D id dv l _ h0 hr
  obtain ⟨va, vc, rfl⟩ := hr.shape
  unfold WriteQ at hw
  rw [writeR_E] at hw
  unfold wwrite
  clear h h0 hr
  by_cases hz : writeE st.b.err id l = 0
  · rw [if_pos hz]
    have hW : writeW st.b.err id l st.b.W = SL.upd st.b.W id l := writeW_yes (by
      unfold writeE at hz
      split at hz
      · rename_i h9; exact absurd hz h9
      · rename_i h9
        split at hz
        · cases hz
        · rename_i h8
          exact ⟨Decidable.of_not_not h9, by omega, by omega⟩)
    rw [hz, hW] at hw
    have Hz := SL.hid hz
    clear hz hW
    go_enter Tryz.func56, Tryz.ntmps56
    go_wp2_with fail
    (with_reducible refine hw.mono ?_)
    rintro e w1 ⟨S', hS, rfl, h2, d2⟩
    clear hw c0
    go_wp2_with fail
    (with_reducible refine (check_ok w1).mono ?_)
    rintro e w2 ⟨rfl, rfl⟩
    go_wp2_with fail
    go_end0
    exact ⟨S', _, hS, d2, rfl, Sat.fact_iff.2 ⟨rfl, by unfold workX btA; exact h2.to (by ac_rfl)⟩⟩
  · rw [if_neg hz]
    have hW : writeW st.b.err id l st.b.W = st.b.W := writeW_no (by
      rintro ⟨h1, h2, h3⟩
      apply hz
      unfold writeE
      rw [if_neg (by simp [h1]), if_neg (by omega)])
    rw [hW] at hw
    have Hz := SL.hid hz
    clear hz hW
    generalize writeE st.b.err id l = c at *
    go_enter Tryz.func56, Tryz.ntmps56
    go_wp2_with fail
    (with_reducible refine hw.mono ?_)
    rintro e w1 ⟨S', hS, rfl, h2, d2⟩
    clear hw c0
    go_wp2_with fail
    (with_reducible refine (check_bad w1 c Hz.out).mono ?_)
    rintro e w2 ⟨rfl, rfl⟩
    go_wp2_with fail
    exact ⟨rfl, S', hS, d2, rfl, by unfold workX btA; exact h2.to (by ac_rfl)⟩
theorem write_anyW (x : Wk σ) (w : World) (S : Hp) (st : Wst σ) (id : Int) (dv : Value) (l : List UInt8) (F : Assn) (h : Sat w (workA x S st * (pool S * F))) (hr : Rd w dv l) :
    Calls Tryz.prog 56 #[.pointer (some ⟨x.k, 0, none⟩), .int .i64 id, dv] w (WQ x unitR S F w (wwrite id l st)) := by
  obtain ⟨v, h1⟩ := Sat.workOpen h
  refine (writeX_any x w v S st id dv l (bitsA st.bits v * F) (h1.to (by ac_rfl)) hr).mono fun e w' h2 => WXQ.lift h2 (wwrite_bits _ _ _)
/-- What bitmap comes to. -/
def BitsQ (x : Wk σ) (S : Hp) (F : Assn) (w : World) : Rs (List UInt8) × Wst σ → Ending → World → Prop
  | (.ok l, st'), e, w' => ∃ S' v, Ext S S' ∧ Side w w' ∧ e = .returned v ∧ l.length = 480 ∧ Sat w' (workX x v S' st' * (bs 5 v l * (pool S' * F)))
  | (.bad c, st'), e, w' => ∃ S', Ext S S' ∧ Side w w' ∧ e = .panicked (flt c) ∧ Sat w' (workA x S' st' * (pool S' * F))
set_option maxRecDepth 100000 in
set_option maxHeartbeats 1000000 in
theorem bitmap_any (x : Wk σ) (hc : x.c.Ok) (w : World) (S : Hp) (st : Wst σ) (F : Assn) (h : Sat w (workA x S st * (pool S * F))) :
    Calls Tryz.prog 39 #[.pointer (some ⟨x.k, 0, none⟩)] w (BitsQ x S F w (wbits x.c.ask st)) := by
  obtain ⟨v, h1⟩ := Sat.workOpen h
  obtain ⟨b, o, dt⟩ := st
  have c2 : w.cell? ⟨x.k, 2, none⟩ = some v := (h1.to (by unfold workX; ac_rfl : _ = pt x.k (.cells (x.cells v dt) 81 (0, 0)) * (btA x.c S x.b b * (bitsA o v * (pool S * F))))).cell 2
  rcases Sat.bitsCases (h1.to (by ac_rfl : _ = bitsA o v * (workX x v S ⟨b, o, dt⟩ * (pool S * F)))) with ⟨rfl, rfl, h2⟩ | ⟨l, rfl, hl, h2⟩
  · have hr := readX_any x hc w (.slice none 0 0) S ⟨b, none, dt⟩ 0 F h2
    have hq := fun w => Lib.run_eql_slice_nil (P := Tryz.prog) w 48 5 none 0 0 0 0 Tryz.underlying48
    have hl := fun l st' => wread_len (ask := x.c.ask) (id := 0) (st := ⟨b, none, dt⟩) (st' := st') (l := l)
    have hE : wbits x.c.ask ⟨b, none, dt⟩ = match wread x.c.ask 0 ⟨b, none, dt⟩ with | (.ok l, st') => (.ok l, { st' with bits := some l }) | (.bad c, st') => (.bad c, st') := rfl
    have hb := wread_bits x.c.ask 0 ⟨b, none, dt⟩
    rw [hE]
    clear hE h1 h h2
    generalize wread x.c.ask 0 ⟨b, none, dt⟩ = p at *
    obtain ⟨r, st'⟩ := p
    cases r with
    | ok l =>
      have hl2 := hl l st' rfl
      have Hl := SL.hid hl2
      dsimp only
      clear hl hl2 hb
      go_enter Tryz.func39, Tryz.ntmps39
      go_wp2_with fail
      (with_reducible refine hr.mono ?_)
      rintro e w1 ⟨S', v, hS, d2, rfl, h3⟩
      unfold bytesR at h3
      obtain ⟨va, vc, rfl⟩ := sl_shape h3
      rw [Hl.out] at h3 ⊢
      have h4 : Sat w1 (pt x.k (.cells (x.cells (.slice none 0 0) st'.dt) 81 (0, 0)) * (bs 5 (.slice va 480 vc) l * (btA x.c S' x.b st'.b * (pool S' * F)))) := h3.to (by unfold workX; ac_rfl)
      have f2 := h4.frozen 2
      have h5 := h4.setCell 2 (.slice va 480 vc)
      have g2 : w1.cell? ⟨x.k, 2, none⟩ = some (.slice none 0 0) := h4.cell 2
      clear hr c2 h3 h4
      go_wp2_with fail
      go_ret
      exact ⟨S', _, hS, d2.setCell _ _, rfl, Hl.out, by unfold workX; exact h5.to (by unfold Wk.cells; ac_rfl)⟩
    | bad c =>
      dsimp only
      dsimp only at hb
      go_enter Tryz.func39, Tryz.ntmps39
      go_wp2_with fail
      (with_reducible refine hr.mono ?_)
      rintro e w1 ⟨S', hS, d2, rfl, h3⟩
      clear hr c2
      go_wp2_with fail
      refine ⟨rfl, S', hS, d2, rfl, Sat.workShut (.slice none 0 0) ?_⟩
      rw [hb]
      exact (Sat.bitsNil h3).to (by ac_rfl)
  · have hE : wbits x.c.ask ⟨b, some l, dt⟩ = (.ok l, ⟨b, some l, dt⟩) := rfl
    rw [hE]
    obtain ⟨va, vc, rfl⟩ := sl_shape h2
    obtain ⟨g, rfl⟩ : ∃ g, va = some g := by
      rcases h2.slCases with ⟨_, h0, _⟩ | ⟨g, cap, cur, he, _⟩
      · omega
      · cases he; exact ⟨_, rfl⟩
    have Hl := SL.hid hl
    rw [hl] at h2 c2
    have hq := fun w => Lib.run_eql_slice_nil (P := Tryz.prog) w 48 5 (some g) 480 vc 0 0 Tryz.underlying48
    clear hE hl h h1
    go_enter Tryz.func39, Tryz.ntmps39
    go_wp2_with fail
    go_ret
    exact ⟨S, _, Ext.refl S, Side.refl w, rfl, Hl.out, h2.to (by ac_rfl)⟩
set_option maxRecDepth 100000 in
set_option maxHeartbeats 1000000 in
theorem mark_any (x : Wk σ) (hc : x.c.Ok) (w : World) (S : Hp) (st : Wst σ) (id : Nat) (t : Bool) (F : Assn) (hid : id < 3840) (h : Sat w (workA x S st * (pool S * F))) :
    Calls Tryz.prog 59 #[.pointer (some ⟨x.k, 0, none⟩), .int .i64 (id : Int), .bool t] w (WQ x unitR S F w (wmark x.c.ask id t st)) := by
  have hb := bitmap_any x hc w S st F h
  obtain ⟨⟨r, st'⟩, hp⟩ : ∃ p, wbits x.c.ask st = p := ⟨_, rfl⟩
  rw [hp] at hb
  clear h
  cases r with
  | ok l =>
    have hE : wmark x.c.ask id t st = wmarkK id t l st' := WM.bind_ok hp
    rw [hE]
    clear hE hp
    unfold wmarkK
    go_enter Tryz.func59, Tryz.ntmps59
    go_wp2_with fail
    (with_reducible refine hb.mono ?_)
    rintro e w1 ⟨S', v, hS, d1, rfl, hl, h2⟩
    have hs := set_any w1 v l (workX x v S' st' * (pool S' * F)) (h2.to (by ac_rfl)) hl id hid t
    have hsl := sl_shape (h2.front2)
    obtain ⟨va, vc, rfl⟩ := hsl
    have Hl := SL.hid hl
    rw [hl] at hs h2 ⊢
    clear hb hl
    go_wp2_with fail
    (with_reducible refine hs.mono ?_)
    rintro e w2 ⟨rfl, h3, d2⟩
    have h4 : Sat w2 (pt x.k (.cells (x.cells (.slice va 480 vc) st'.dt) 81 (0, 0)) * (btA x.c S' x.b st'.b * (bs 5 (.slice va 480 vc) (setTo l id t) * (pool S' * F)))) := h3.to (by unfold workX; ac_rfl)
    have f3 := h4.frozen 3
    have g3 : w2.cell? ⟨x.k, 3, none⟩ = some (.bool st'.dt) := h4.cell 3
    have h5 := h4.setCell 3 (.bool true)
    clear hs h2 h3 h4
    go_wp2_with fail
    go_end0
    refine ⟨S', _, hS, (d1.trans d2).setCell _ _, rfl, Sat.fact_iff.2 ⟨rfl, Sat.workShut (.slice va 480 vc) ?_⟩⟩
    have h6 := Sat.bitsSome (l := setTo l id t) (by rw [setTo_length]; exact Hl.out) h5.front3
    exact h6.to (by unfold workX Wk.cells; simp only [List.setIfInBounds_toArray, List.set_cons_succ, List.set_cons_zero]; ac_rfl)
  | bad c =>
    have hE : wmark x.c.ask id t st = (.bad c, st') := WM.bind_bad hp
    rw [hE]
    clear hE hp
    go_enter Tryz.func59, Tryz.ntmps59
    go_wp2_with fail
    (with_reducible refine hb.mono ?_)
    rintro e w1 ⟨S', hS, d1, rfl, h2⟩
    clear hb
    go_wp2_with fail
    exact ⟨rfl, S', hS, d1, rfl, h2⟩
theorem bitsLen {w : World} {x : Wk σ} {S : Hp} {st : Wst σ} {F : Assn} (h : Sat w (workA x S st * F)) : ∀ l, st.bits = some l → l.length = 480 := by
  intro l hl
  obtain ⟨v, h1⟩ := Sat.workOpen h
  rcases Sat.bitsCases (h1.to (by ac_rfl : _ = bitsA st.bits v * (workX x v S st * F))) with ⟨h2, _⟩ | ⟨l2, h2, h3, _⟩
  · rw [hl] at h2; cases h2
  · rw [hl] at h2; cases h2; exact h3
def takeO (v : Value) (l : List UInt8) (F : Assn) (w : World) : Option Nat → Ending → World → Prop
  | none, e, w' => e = .returned (.tuple #[.int .i64 0, .bool false]) ∧ Sat w' (bs 5 v l * F) ∧ Side w w'
  | some n, e, w' => e = .returned (.tuple #[.int .i64 (n : Int), .bool true]) ∧ Sat w' (bs 5 v (setTo l n true) * F) ∧ Side w w'
theorem takeO_any (w : World) (v : Value) (l : List UInt8) (F : Assn) (h : Sat w (bs 5 v l * F)) (hl : l.length = 480) (e : Nat) (he : e ≤ 3840) :
    Calls Tryz.prog 80 #[v, .int .i64 (e : Int)] w (takeO v l F w (freeOf l e)) := by
  refine take_any w v l F h hl e he _ (fun h1 w' h2 h3 => ?_) (fun n h1 w' h2 h3 => ?_)
  · rw [h1]; exact ⟨rfl, h2, h3⟩
  · rw [h1]; exact ⟨rfl, h2, h3⟩
def natR (a : Nat) (v : Value) : Assn := fact (v = .int .i64 (a : Int))
set_option maxRecDepth 100000 in
set_option maxHeartbeats 2000000 in
theorem wtake_any (x : Wk σ) (hc : x.c.Ok) (hn : x.n ≤ 3840) (w : World) (S : Hp) (st : Wst σ) (F : Assn) (h : Sat w (workA x S st * (pool S * F))) :
    Calls Tryz.prog 42 #[.pointer (some ⟨x.k, 0, none⟩)] w (WQ x natR S F w (wtake x.c.ask x.n st)) := by
  have hb := fun (w : World) h => bitmap_any x hc w S st F h
  obtain ⟨v0, h1⟩ := Sat.workOpen h
  have c1 : w.cell? ⟨x.k, 1, none⟩ = some (.int .i64 (x.n : Int)) := (h1.to (by unfold workX; ac_rfl : _ = pt x.k (.cells (x.cells v0 st.dt) 81 (0, 0)) * (btA x.c S x.b st.b * (bitsA st.bits v0 * (pool S * F))))).cell 1
  obtain ⟨⟨r, st'⟩, hp⟩ : ∃ p, wbits x.c.ask st = p := ⟨_, rfl⟩
  rw [hp] at hb
  clear h1
  cases r with
  | ok l =>
    have hE : wtake x.c.ask x.n st = wtakeK x.n l st' := WM.bind_ok hp
    have Hst := wbits_ok hp (bitsLen h)
    rw [hE]
    unfold wtakeK
    clear hE hp
    have ht := fun w v F h hl => takeO_any w v l F h hl x.n hn
    obtain ⟨o, ho⟩ : ∃ o, freeOf l x.n = o := ⟨_, rfl⟩
    rw [ho]
    rw [ho] at ht
    clear ho
    cases o with
    | some n =>
      unfold wtakeO
      unfold takeO at ht
      go_enter Tryz.func42, Tryz.ntmps42
      go_wp2_with fail
      go_region_held3 (fun w' => w'.cell? ⟨x.k, 1, none⟩ = some (.int .i64 (x.n : Int)))
        (first | exact c1 | exact k1 | exact k2 | go_keep)
        (first
          | (go_at_call 39; refine (hb w.drew h.drew).mono ?_; rintro e w1 ⟨S', v, hS, d1, rfl, hl, h2⟩; have k1 : w1.cell? ⟨x.k, 1, none⟩ = some (.int .i64 (x.n : Int)) := (h2.to (by unfold workX; ac_rfl : _ = pt x.k (.cells (x.cells v st'.dt) 81 (0, 0)) * (btA x.c S' x.b st'.b * (bs 5 v l * (pool S' * F))))).cell 1)
          | (go_at_call 80; refine (ht w1 v (workX x v S' st' * (pool S' * F)) (h2.to (by ac_rfl)) hl).mono ?_; rintro e w2 ⟨rfl, h3, d2⟩; have k2 : w2.cell? ⟨x.k, 1, none⟩ = some (.int .i64 (x.n : Int)) := (h3.to (by unfold workX; ac_rfl : _ = pt x.k (.cells (x.cells v st'.dt) 81 (0, 0)) * (btA x.c S' x.b st'.b * (bs 5 v (setTo l n true) * (pool S' * F))))).cell 1))
      clear c1 k1 k2 hb ht h h2
      have h4 : Sat w2 (pt x.k (.cells (x.cells v st'.dt) 81 (0, 0)) * (btA x.c S' x.b st'.b * (bs 5 v (setTo l n true) * (pool S' * F)))) := h3.to (by unfold workX; ac_rfl)
      have f3 := h4.frozen 3
      have g3 : w2.cell? ⟨x.k, 3, none⟩ = some (.bool st'.dt) := h4.cell 3
      have h5 := h4.setCell 3 (.bool true)
      have Hl := SL.hid hl
      clear h3 h4 hl
      go_wp2_with fail
      go_ret
      refine ⟨S', _, hS, (((Side.refl w).drew.trans d1).trans d2).setCell _ _, rfl, Sat.fact_iff.2 ⟨rfl, Sat.workShut v ?_⟩⟩
      have h6 := Sat.bitsSome (l := setTo l n true) (by rw [setTo_length]; exact Hl.out) h5.front3
      exact h6.to (by unfold workX Wk.cells; simp only [List.setIfInBounds_toArray, List.set_cons_succ, List.set_cons_zero]; ac_rfl)
    | none =>
      unfold wtakeO
      unfold takeO at ht
      go_enter Tryz.func42, Tryz.ntmps42
      go_wp2_with fail
      go_region_held3 (fun w' => w'.cell? ⟨x.k, 1, none⟩ = some (.int .i64 (x.n : Int)))
        (first | exact c1 | exact k1 | exact k2 | go_keep)
        (first
          | (go_at_call 39; refine (hb w.drew h.drew).mono ?_; rintro e w1 ⟨S', v, hS, d1, rfl, hl, h2⟩; have k1 : w1.cell? ⟨x.k, 1, none⟩ = some (.int .i64 (x.n : Int)) := (h2.to (by unfold workX; ac_rfl : _ = pt x.k (.cells (x.cells v st'.dt) 81 (0, 0)) * (btA x.c S' x.b st'.b * (bs 5 v l * (pool S' * F))))).cell 1)
          | (go_at_call 80; refine (ht w1 v (workX x v S' st' * (pool S' * F)) (h2.to (by ac_rfl)) hl).mono ?_; rintro e w2 ⟨rfl, h3, d2⟩; have k2 : w2.cell? ⟨x.k, 1, none⟩ = some (.int .i64 (x.n : Int)) := (h3.to (by unfold workX; ac_rfl : _ = pt x.k (.cells (x.cells v st'.dt) 81 (0, 0)) * (btA x.c S' x.b st'.b * (bs 5 v (l) * (pool S' * F))))).cell 1))
      clear c1 k1 k2 hb ht h h2
      have Hl := SL.hid hl
      clear hl
      go_wp2_with fail
      (with_reducible refine (check_bad w2 7 (by decide)).mono ?_)
      rintro e w3 ⟨rfl, rfl⟩
      go_wp2_with fail
      refine ⟨rfl, S', hS, ((Side.refl w).drew.trans d1).trans d2, rfl, Sat.workShut v ?_⟩
      obtain ⟨h8, _⟩ := Hst
      rw [h8]
      exact (Sat.bitsSome Hl.out h3).to (by ac_rfl)
  | bad c =>
    have hE : wtake x.c.ask x.n st = (.bad c, st') := WM.bind_bad hp
    rw [hE]
    clear hE hp
    go_enter Tryz.func42, Tryz.ntmps42
    go_wp2_with fail
    refine wp_region_held_drew (S := (fun w' => w'.cell? ⟨x.k, 1, none⟩ = some (.int .i64 (x.n : Int)))) (by kernel_rfl) ?_ (fun hHeld => ?_)
    · (first | exact c1 | go_keep)
    refine wpAnyH_take (i := 0) (v := ?_) rfl (by kernel_rfl) (by kernel_rfl) (by kernel_rfl) (fun _ _ _ h => h) (Or.inl ⟨by kernel_rfl, ?_⟩) (by assumption) ?_
    rotate_left
    · intro w hSw; (try dsimp only at hSw); go_simp; try with_reducible rfl
    try simp only [List.getElem_toArray, List.getElem_cons_succ, List.getElem_cons_zero, Act.put, List.setIfInBounds_toArray, List.set_cons_zero, List.set_cons_succ]
    refine wpAnyH_take (i := 2) (v := ?_) rfl (by kernel_rfl) (by kernel_rfl) (by kernel_rfl) (fun _ _ _ h => h) (Or.inl ⟨by kernel_rfl, ?_⟩) (by assumption) ?_
    rotate_left
    · intro w hSw; (try dsimp only at hSw); go_simp; try with_reducible rfl
    try simp only [List.getElem_toArray, List.getElem_cons_succ, List.getElem_cons_zero, Act.put, List.setIfInBounds_toArray, List.set_cons_zero, List.set_cons_succ]
    refine wpAnyH_take (i := 3) (v := ?_) rfl (by kernel_rfl) (by kernel_rfl) (by kernel_rfl) (fun _ _ _ h => h) (Or.inl ⟨by kernel_rfl, ?_⟩) (by assumption) ?_
    rotate_left
    · intro w hSw; (try dsimp only at hSw); go_simp; try with_reducible rfl
    try simp only [List.getElem_toArray, List.getElem_cons_succ, List.getElem_cons_zero, Act.put, List.setIfInBounds_toArray, List.set_cons_zero, List.set_cons_succ]
    refine wpAnyH_take (i := 4) (v := ?_) rfl (by kernel_rfl) (by kernel_rfl) (by kernel_rfl) (fun _ _ _ h => h) (Or.inl ⟨by kernel_rfl, ?_⟩) (by assumption) ?_
    rotate_left
    · intro w hSw; (try dsimp only at hSw); go_simp; try with_reducible rfl
    try simp only [List.getElem_toArray, List.getElem_cons_succ, List.getElem_cons_zero, Act.put, List.setIfInBounds_toArray, List.set_cons_zero, List.set_cons_succ]
    refine wpAnyH_take (i := 5) (v := ?_) rfl (by kernel_rfl) (by kernel_rfl) (by kernel_rfl) (fun _ _ _ h => h) (Or.inl ⟨by kernel_rfl, ?_⟩) (by assumption) ?_
    rotate_left
    · intro w hSw; (try dsimp only at hSw); go_simp; try with_reducible rfl
    try simp only [List.getElem_toArray, List.getElem_cons_succ, List.getElem_cons_zero, Act.put, List.setIfInBounds_toArray, List.set_cons_zero, List.set_cons_succ]
    refine wpAnyH_ready (rs := [1]) (by kernel_rfl) (by simp) ?_
    refine AllReadyH.cons rfl (fun K hK => ?_) AllReadyH.nil
    go_simp
    go_wp2_with (go_at_call 39; refine (hb w.drew h.drew).mono ?_; rintro e w1 ⟨S', hS, d1, rfl, h2⟩)
    exact ⟨rfl, S', hS, (Side.refl w).drew.trans d1, rfl, h2⟩
end
end Go.Proofs.YtaoohjeaaccnfaaGreat.Fs
namespace Go.SL
set_option linter.unusedVariables false
set_option linter.unusedSimpArgs false
open Go.RowKit
/-- A node that is held, and its row. -/
structure Hd where
  id : Nat
  n : Nd
  row : List Int
def Hd.l (h : Hd) : List Int := (h.id : Int) :: (h.n.l ++ h.row)
def Hd.fit (h : Hd) : Prop := h.n.dr.length = 16 ∧ h.row.length = 240
/-- The block of a file at i. -/
def Hd.page (h : Hd) (i : Nat) : Int := if i < 16 then h.n.dr.getD i 0 else h.row.getD (i - 16) 0
def Hd.put (h : Hd) (i : Nat) (b : Int) : Hd := if i < 16 then { h with n := { h.n with dr := h.n.dr.set i b } } else { h with row := h.row.set (i - 16) b }
theorem Hd.put_fit {h : Hd} (hf : h.fit) (i : Nat) (b : Int) : (h.put i b).fit := by
  unfold Hd.put; split
  · exact ⟨by simpa using hf.1, hf.2⟩
  · exact ⟨hf.1, by simpa using hf.2⟩
theorem Hd.l_length {h : Hd} (hf : h.fit) : h.l.length = 261 := by
  simp [Hd.l, Nd.cells hf.1, hf.2]
theorem Hd.l_dr {h : Hd} (hf : h.fit) {i : Nat} (hi : i < 16) : h.l.getD (4 + i) 0 = h.page i := by
  have e : h.l = (h.id : Int) :: h.n.kd :: h.n.lk :: h.n.sz :: (h.n.dr ++ ([h.n.rw] ++ h.row)) := by simp [Hd.l, Nd.l]
  unfold Hd.page
  rw [if_pos hi, e, Nat.add_comm 4 i]
  simp only [List.getD, List.getElem?_cons_succ]
  rw [List.getElem?_append_left (by rw [hf.1]; exact hi)]
theorem Hd.l_row {h : Hd} (hf : h.fit) {i : Nat} (hi : 16 ≤ i) : h.l.getD (21 + (i - 16)) 0 = h.page i := by
  have e : h.l = ((h.id : Int) :: h.n.l) ++ h.row := rfl
  unfold Hd.page
  rw [if_neg (by omega), e, List.getD, List.getD, List.getElem?_append_right (by simp [Nd.cells hf.1])]
  simp [Nd.cells hf.1]
theorem Hd.put_l {h : Hd} (hf : h.fit) {i : Nat} (b : Int) : (h.put i b).l = h.l.set (if i < 16 then 4 + i else 21 + (i - 16)) b := by
  unfold Hd.put
  split
  · rename_i hi
    have e : h.l = (h.id : Int) :: h.n.kd :: h.n.lk :: h.n.sz :: (h.n.dr ++ ([h.n.rw] ++ h.row)) := by simp [Hd.l, Nd.l]
    rw [e, Nat.add_comm 4 i]
    simp only [List.set_cons_succ]
    rw [List.set_append, if_pos (by rw [hf.1]; exact hi)]
    simp [Hd.l, Nd.l]
  · rename_i hi
    have e : h.l = ((h.id : Int) :: h.n.l) ++ h.row := rfl
    have hl : ((h.id : Int) :: h.n.l).length = 21 := by simp [Nd.cells hf.1]
    rw [e, List.set_append, hl, if_neg (by omega), show 21 + (i - 16) - 21 = i - 16 by omega]
    rfl
section
variable {σ : Type}
def wwithin (n : Nat) (l : List Int) : WM σ Unit := fun st => (if l.all (fun x => decide (x < n)) = true then .ok () else .bad 4, st)
end
end Go.SL
namespace Go.Proofs.YtaoohjeaaccnfaaGreat.Fs
set_option linter.unusedVariables false
set_option linter.unusedSimpArgs false
open Go.RowKit Go.SL Go.Proofs.YtaoohjeaaccnfaaGreat.Ba
def heldA (hb : Nat) (h : Hd) : Assn := fact h.fit * pt hb (.cells (ints h.l) 75 (0, 0))
theorem Sat.held {w : World} {hb : Nat} {h : Hd} {F : Assn} : Sat w (heldA hb h * F) ↔ h.fit ∧ Sat w (pt hb (.cells (ints h.l) 75 (0, 0)) * F) := by
  unfold heldA
  constructor
  · intro h1; exact Sat.fact_iff.1 (h1.to (star_assoc _ _ _))
  · intro h1; exact (Sat.fact_iff.2 h1).to (star_assoc _ _ _).symm
def WithRel (n : Nat) (l : List Int) (w : World) (u : Value) (wr : World) : Prop :=
  ∃ k : Nat, k ≤ l.length ∧ u = .int .i64 (k : Int) ∧ (∀ j, j < k → l.getD j 0 < n) ∧ w = wr
set_option maxRecDepth 100000 in
set_option maxHeartbeats 1000000 in
theorem wwithin_any (w : World) (k n : Nat) (v : Value) (l : List Int) (hl : l.length ≤ 1000) (hr : RdI w v l) (h1 : w.cell? ⟨k, 1, none⟩ = some (.int .i64 (n : Int)))
    (Q : Ending → World → Prop) (hY : l.all (fun x => decide (x < n)) = true → Q (.returned (.tuple #[])) w) (hN : l.all (fun x => decide (x < n)) = false → Q (.panicked (flt 4)) w) :
    Calls Tryz.prog 76 #[.pointer (some ⟨k, 0, none⟩), v] w Q := by
  have HY := SL.hid hY; have HN := SL.hid hN
  have hl' : (l.length : Int) ≤ 1000 := by omega
  have hat := fun j (hj : j < l.length) => hr.atF hj
  obtain ⟨va, vc, rfl⟩ := hr.shapeF
  clear hY hN hr
  obtain ⟨m, hm⟩ : ∃ m, l.length = m := ⟨_, rfl⟩
  rw [hm] at hl' hat ⊢
  have Hm := SL.hid hm
  clear hm hl
  go_enter Tryz.func76, Tryz.ntmps76
  go_wp2_with fail
  go_loopw [8] (fun u wr => WithRel n l w u wr) (fun u _ => m - (intOf u).toNat)
  case atStart => exact ⟨0, Nat.zero_le _, rfl, fun j hj => absurd hj (Nat.not_lt_zero _), rfl⟩
  case round =>
    obtain ⟨j, hj, rfl, hall, rfl⟩ := hrel
    rw [Hm.out] at hj
    by_cases hlt : j < m
    · have hlt' : (j : Int) < (m : Int) := by omega
      obtain ⟨g, o, c, e, hc⟩ := hat j hlt
      simp only [Value.slice.injEq] at e
      obtain ⟨rfl, -, rfl⟩ := e
      have hmem : l.getD j 0 ∈ l := by rw [List.getD, List.getElem?_eq_getElem (by rw [Hm.out]; exact hlt)]; exact List.getElem_mem _
      clear hat
      by_cases hx : l.getD j 0 < n
      · have hnx : ∀ i, i < j + 1 → l.getD i 0 < n := fun i hi => by
          rcases Nat.lt_or_eq_of_le (Nat.le_of_lt_succ hi) with h9 | h9
          · exact hall i h9
          · rw [h9]; exact hx
        have Hnx := SL.hid hnx
        have hx2 : ¬ ((n : Int) ≤ l.getD j 0) := by omega
        clear hall hnx hmem
        generalize l.getD j 0 = x at *
        go_wp2_with fail
        go_roundw
        case rel => exact ⟨j + 1, by rw [Hm.out]; omega, by go_num, Hnx.out, rfl⟩
        case measure => simp [intOf]; omega
      · have hx2 : (n : Int) ≤ l.getD j 0 := by omega
        have hno : l.all (fun x => decide (x < n)) = false := by
          rw [Bool.eq_false_iff]; intro h9
          exact hx (by simpa using List.all_eq_true.1 h9 _ hmem)
        have Hq := SL.hid (HN.out hno)
        clear hall hno hmem
        generalize l.getD j 0 = x at *
        go_wp2_with fail
        (with_reducible refine (check_bad _ 4 (by decide)).mono ?_)
        rintro e w2 ⟨rfl, rfl⟩
        go_wp2_with fail
        exact ⟨rfl, Hq.out⟩
    · obtain rfl : j = m := by omega
      have hyes : l.all (fun x => decide (x < n)) = true := by
        rw [List.all_eq_true]; intro x hx
        obtain ⟨i, hi, rfl⟩ := List.getElem_of_mem hx
        have := hall i (by rw [← Hm.out]; exact hi)
        rw [List.getD, List.getElem?_eq_getElem hi] at this
        simpa using this
      have Hq := SL.hid (HY.out hyes)
      clear hall hyes hat
      go_wp2_with fail
      go_end0
      exact Hq.out
def IntQ (z : Int) (w : World) (e : Ending) (w' : World) : Prop := e = .returned (.int .i64 z) ∧ w = w'
set_option maxRecDepth 100000 in
theorem page_any (w : World) (hb : Nat) (h : Hd) (F : Assn) (hs : Sat w (heldA hb h * F)) (i : Nat) (hi : i < 256) :
    Calls Tryz.prog 58 #[.pointer (some ⟨hb, 0, none⟩), .int .i64 (i : Int)] w (IntQ (h.page i) w) := by
  obtain ⟨hf, h2⟩ := Sat.held.1 hs
  have hcell : ∀ j, j < 261 → w.cell? ⟨hb, j, none⟩ = some (.int .i64 (h.l.getD j 0)) := fun j hj => by
    rw [h2.cell, get_ints_lt (by rw [Hd.l_length hf]; exact hj)]
  by_cases h16 : i < 16
  · have hc := hcell (4 + i) (by omega)
    rw [Hd.l_dr hf h16] at hc
    have hi' : (i : Int) < 16 := by omega
    generalize h.page i = x at *
    clear hcell h2 hs
    go_enter Tryz.func58, Tryz.ntmps58
    go_wp2_with fail
    go_ret
    exact ⟨rfl, rfl⟩
  · have hc := hcell (21 + (i - 16)) (by omega)
    rw [Hd.l_row hf (by omega)] at hc
    have hi' : ¬ (i : Int) < 16 := by omega
    have hi2 : (i : Int) - 16 = ((i - 16 : Nat) : Int) := by omega
    have hi3 : ((i - 16 : Nat) : Int) < 240 := by omega
    generalize h.page i = x at *
    generalize hj : i - 16 = j at *
    clear hcell h2 hs
    go_enter Tryz.func58, Tryz.ntmps58
    go_wp2_with fail
    go_ret
    exact ⟨rfl, rfl⟩
def PutHQ (hb : Nat) (h : Hd) (F : Assn) (w : World) (e : Ending) (w' : World) : Prop := e = .returned (.tuple #[]) ∧ Sat w' (heldA hb h * F) ∧ Side w w'
set_option maxRecDepth 100000 in
theorem puth_any (w : World) (hb : Nat) (h : Hd) (F : Assn) (hs : Sat w (heldA hb h * F)) (i : Nat) (hi : i < 256) (b : Int) :
    Calls Tryz.prog 69 #[.pointer (some ⟨hb, 0, none⟩), .int .i64 (i : Int), .int .i64 b] w (PutHQ hb (h.put i b) F w) := by
  obtain ⟨hf, h2⟩ := Sat.held.1 hs
  have hcell : ∀ j, j < 261 → w.cell? ⟨hb, j, none⟩ = some (.int .i64 (h.l.getD j 0)) := fun j hj => by
    rw [h2.cell, get_ints_lt (by rw [Hd.l_length hf]; exact hj)]
  have hset : ∀ j, Sat (w.setCell ⟨hb, j, none⟩ (.int .i64 b)) (pt hb (.cells (ints (h.l.set j b)) 75 (0, 0)) * F) := fun j => by
    have := h2.setCell j (.int .i64 b)
    rwa [set_ints] at this
  have hpl := Hd.put_l hf (i := i) b
  have hpf := Hd.put_fit hf i b
  by_cases h16 : i < 16
  · have hc := hcell (4 + i) (by omega)
    have hz := h2.frozen (4 + i)
    rw [if_pos h16] at hpl
    have hst : Sat (w.setCell ⟨hb, 4 + i, none⟩ (.int .i64 b)) (heldA hb (h.put i b) * F) := Sat.held.2 ⟨hpf, by rw [hpl]; exact hset (4 + i)⟩
    have Hst := SL.hid hst
    have hi' : (i : Int) < 16 := by omega
    generalize h.l.getD (4 + i) 0 = x at *
    clear hcell h2 hs hset hpl hpf hst
    go_enter Tryz.func69, Tryz.ntmps69
    go_wp2_with fail
    go_end0
    exact ⟨rfl, Hst.out, (Side.refl w).setCell _ _⟩
  · have hc := hcell (21 + (i - 16)) (by omega)
    have hz := h2.frozen (21 + (i - 16))
    rw [if_neg h16] at hpl
    have hst : Sat (w.setCell ⟨hb, 21 + (i - 16), none⟩ (.int .i64 b)) (heldA hb (h.put i b) * F) := Sat.held.2 ⟨hpf, by rw [hpl]; exact hset _⟩
    have Hst := SL.hid hst
    have hi' : ¬ (i : Int) < 16 := by omega
    have hi2 : (i : Int) - 16 = ((i - 16 : Nat) : Int) := by omega
    have hi3 : ((i - 16 : Nat) : Int) < 240 := by omega
    generalize h.l.getD (21 + (i - 16)) 0 = x at *
    clear hcell h2 hs hset hpl hpf hst
    generalize hj : i - 16 = j at *
    go_enter Tryz.func69, Tryz.ntmps69
    go_wp2_with fail
    go_end0
    exact ⟨rfl, Hst.out, (Side.refl w).setCell _ _⟩
end Go.Proofs.YtaoohjeaaccnfaaGreat.Fs
namespace Go.SL
set_option linter.unusedVariables false
set_option linter.unusedSimpArgs false
open Go.RowKit
def decP (L : List UInt8) : Nd × Int := if ((ndOf L).ok && (L.drop 41).all (· == 0)) = true then (ndOf L, 0) else (⟨0, 0, 0, List.replicate 16 0, 0⟩, 4)
def rowP (L : List UInt8) : List Int × Int := if (ptrsOf L 0 240).all ptrOk = true then (ptrsOf L 0 240, 0) else (List.replicate 240 0, 4)
theorem decP_16 (L : List UInt8) : (decP L).1.dr.length = 16 := by
  unfold decP; split
  · exact ptrsOf_length _ _ _
  · rfl
theorem rowP_240 (L : List UInt8) : (rowP L).1.length = 240 := by
  unfold rowP; split
  · exact ptrsOf_length _ _ _
  · rfl
theorem decP_c (L : List UInt8) : (decP L).2 = 0 ∨ (decP L).2 = 4 := by unfold decP; split; exact .inl rfl; exact .inr rfl
theorem rowP_c (L : List UInt8) : (rowP L).2 = 0 ∨ (rowP L).2 = 4 := by unfold rowP; split; exact .inl rfl; exact .inr rfl
section
variable {σ : Type}
def wload2 (n : Nat) (id : Nat) (nd : Nd) (row : List Int) : WM σ Hd := WM.bind (wwithin n nd.dr) fun _ => WM.bind (wwithin n row) fun _ => WM.pure ⟨id, nd, row⟩
def wdec (p : Nd × Int) (k : Nd → WM σ Hd) : WM σ Hd := fun st => if p.2 = 0 then k p.1 st else (.bad p.2, st)
def wdecR (p : List Int × Int) (k : List Int → WM σ Hd) : WM σ Hd := fun st => if p.2 = 0 then k p.1 st else (.bad p.2, st)
def wload1 (ask : Asks σ) (n : Nat) (id : Nat) (nd : Nd) : WM σ Hd := fun st =>
  if nd.rw = 0 then wload2 n id nd (List.replicate 240 0) st
  else (WM.bind (wwithin n [nd.rw]) fun _ => WM.bind (wread ask nd.rw) fun L => wdecR (rowP L) (wload2 n id nd)) st
def wload (ask : Asks σ) (n : Nat) (id : Int) : WM σ Hd := fun st =>
  if 1 ≤ id ∧ id < n then (WM.bind (wread ask id) fun L => wdec (decP L) (wload1 ask n id.toNat)) st else (.bad 1, st)
end
end Go.SL
namespace Go.Proofs.YtaoohjeaaccnfaaGreat.Fs
set_option linter.unusedVariables false
set_option linter.unusedSimpArgs false
open Go.RowKit Go.SL Go.Proofs.YtaoohjeaaccnfaaGreat.Ba
theorem built_held0 (d x0 x1 x2 x3 x4 x5 x6 x7 x8 x9 x10 x11 x12 x13 x14 x15 x16 x17 x18 x19 : Int) : Tryz.prog.built 75 [(0, .int .i64 d), (1, .agg #[.int .i64 x0, .int .i64 x1, .int .i64 x2, .int .i64 x3, .int .i64 x4, .int .i64 x5, .int .i64 x6, .int .i64 x7, .int .i64 x8, .int .i64 x9, .int .i64 x10, .int .i64 x11, .int .i64 x12, .int .i64 x13, .int .i64 x14, .int .i64 x15, .int .i64 x16, .int .i64 x17, .int .i64 x18, .int .i64 x19])] = some (ints ([d, x0, x1, x2, x3, x4, x5, x6, x7, x8, x9, x10, x11, x12, x13, x14, x15, x16, x17, x18, x19] ++ List.replicate 240 0)) := by kernel_rfl
theorem list16 {l : List Int} (h : l.length = 16) : ∃ a0 a1 a2 a3 a4 a5 a6 a7 a8 a9 a10 a11 a12 a13 a14 a15, l = [a0, a1, a2, a3, a4, a5, a6, a7, a8, a9, a10, a11, a12, a13, a14, a15] := by
  match l, h with
  | [a0, a1, a2, a3, a4, a5, a6, a7, a8, a9, a10, a11, a12, a13, a14, a15], _ => exact ⟨a0, a1, a2, a3, a4, a5, a6, a7, a8, a9, a10, a11, a12, a13, a14, a15, rfl⟩
theorem built_held (d : Int) (n : Nd) (h : n.dr.length = 16) : Tryz.prog.built 75 [(0, .int .i64 d), (1, .agg (n.l.map (Value.int .i64)).toArray)] = some (ints (d :: (n.l ++ List.replicate 240 0))) := by
  obtain ⟨kd, lk, sz, dr, rw⟩ := n
  obtain ⟨a0, a1, a2, a3, a4, a5, a6, a7, a8, a9, a10, a11, a12, a13, a14, a15, rfl⟩ := list16 h
  exact built_held0 d kd lk sz a0 a1 a2 a3 a4 a5 a6 a7 a8 a9 a10 a11 a12 a13 a14 a15 rw
theorem wpList_build_to {P : Program} {ops : Array Oper} {rest : List Oper} {o : Oper} {a : Act} {w : World} {Q : Exit → Act → World → Prop} (hg : o.guard = none) (t : TypeId) (parts : Array (Nat × Operand)) (ho : o.op = .build t parts)
    (l : List (Nat × Value)) (hl : parts.toList.map (fun p => (p.1, a.eval p.2)) = l) (C : Array Value) (hb : P.built t l = some C) (h : wpList P ops Q rest (a.put o.dst (.agg C)) w) : wpList P ops Q (o :: rest) a w := by
  have e : P.built t (parts.map fun (i, x) => (i, a.eval x)).toList = some C := by rw [Array.toList_map]; exact hl ▸ hb
  exact wpList_build hg t parts ho (by rw [e]; rfl) (by rw [e]; exact h)
def DecQ (L : List UInt8) (w : World) (e : Ending) (w' : World) : Prop := e = .returned (.tuple #[(decP L).1.v, .int .i64 (decP L).2]) ∧ Sat w' (whole w) ∧ Side w w'
def DecRQ (L : List UInt8) (w : World) (e : Ending) (w' : World) : Prop := e = .returned (.tuple #[.agg (ints (rowP L).1), .int .i64 (rowP L).2]) ∧ Sat w' (whole w) ∧ Side w w'
theorem dec_any (w : World) (v : Value) (L : List UInt8) (hr : Rd w v L) (hL : L.length = 480) : Calls Tryz.prog 73 #[v] w (DecQ L w) := by
  refine decode_any w v L hr hL _ (fun h1 h2 w' h3 h4 => ?_) (fun h1 w' h3 h4 => ?_)
  · have e : decP L = (ndOf L, 0) := if_pos (by rw [h1, h2]; rfl)
    exact ⟨by rw [e], h3, h4⟩
  · have e : decP L = (⟨0, 0, 0, List.replicate 16 0, 0⟩, 4) := if_neg (by rcases h1 with h | h <;> rw [h] <;> simp)
    exact ⟨by rw [e]; rfl, h3, h4⟩
theorem decR_any (w : World) (v : Value) (L : List UInt8) (hr : Rd w v L) (hL : L.length = 480) : Calls Tryz.prog 77 #[v] w (DecRQ L w) := by
  refine decodeRow_any w v L hr hL _ (fun h1 w' h3 h4 => ?_) (fun h1 w' h3 h4 => ?_)
  · have e : rowP L = (ptrsOf L 0 240, 0) := if_pos h1
    exact ⟨by rw [e], h3, h4⟩
  · have e : rowP L = (List.replicate 240 0, 4) := if_neg (by rw [h1]; simp)
    exact ⟨by rw [e]; rfl, h3, h4⟩
section
variable {σ α : Type}
theorem workX1 {w : World} {x : Wk σ} {S : Hp} {st : Wst σ} {F : Assn} (h : Sat w (workA x S st * F)) : w.cell? ⟨x.k, 1, none⟩ = some (.int .i64 (x.n : Int)) := by
  obtain ⟨v, h1⟩ := Sat.workOpen h
  exact (h1.to (by unfold workX; ac_rfl : _ = pt x.k (.cells (x.cells v st.dt) 81 (0, 0)) * (btA x.c S x.b st.b * (bitsA st.bits v * F)))).cell 1
def heldR (h : Hd) (v : Value) : Assn := ex fun hb => fact (v = ptV hb) * heldA hb h
theorem wload_no {ask : Asks σ} {n : Nat} {id : Int} {st : Wst σ} (h : ¬ (1 ≤ id ∧ id < n)) : wload ask n id st = (.bad 1, st) := if_neg h
theorem wload_bad {ask : Asks σ} {n : Nat} {id : Int} {st st1 : Wst σ} {c : Int} (h : 1 ≤ id ∧ id < n) (hp : wread ask id st = (.bad c, st1)) : wload ask n id st = (.bad c, st1) :=
  (if_pos h).trans (WM.bind_bad hp)
theorem wload_dec {ask : Asks σ} {n : Nat} {id : Int} {st st1 : Wst σ} {L : List UInt8} {nd : Nd} (h : 1 ≤ id ∧ id < n) (hp : wread ask id st = (.ok L, st1)) (hd : decP L = (nd, 4)) : wload ask n id st = (.bad 4, st1) := by
  refine ((if_pos h).trans (WM.bind_ok hp)).trans ?_
  show wdec (decP L) _ st1 = _
  rw [hd]; exact if_neg (show ¬ (4 : Int) = 0 by decide)
theorem wload_go {ask : Asks σ} {n : Nat} {id : Int} {st st1 : Wst σ} {L : List UInt8} {nd : Nd} (h : 1 ≤ id ∧ id < n) (hp : wread ask id st = (.ok L, st1)) (hd : decP L = (nd, 0)) : wload ask n id st = wload1 ask n id.toNat nd st1 := by
  refine ((if_pos h).trans (WM.bind_ok hp)).trans ?_
  show wdec (decP L) _ st1 = _
  rw [hd]; exact if_pos rfl
theorem wwithin_yes {n : Nat} {l : List Int} {st : Wst σ} (h : l.all (fun x => decide (x < n)) = true) : wwithin n l st = (.ok (), st) := by unfold wwithin; rw [if_pos h]
theorem wwithin_no {n : Nat} {l : List Int} {st : Wst σ} (h : l.all (fun x => decide (x < n)) = false) : wwithin n l st = (.bad 4, st) := by unfold wwithin; rw [if_neg (by rw [h]; simp)]
theorem wload2_ok {n id : Nat} {nd : Nd} {row : List Int} {st : Wst σ} (h1 : nd.dr.all (fun x => decide (x < n)) = true) (h2 : row.all (fun x => decide (x < n)) = true) : wload2 n id nd row st = (.ok ⟨id, nd, row⟩, st) :=
  (WM.bind_ok (wwithin_yes h1)).trans (WM.bind_ok (wwithin_yes h2))
theorem wload2_no2 {n id : Nat} {nd : Nd} {row : List Int} {st : Wst σ} (h1 : nd.dr.all (fun x => decide (x < n)) = true) (h2 : row.all (fun x => decide (x < n)) = false) : wload2 n id nd row st = (.bad 4, st) :=
  (WM.bind_ok (wwithin_yes h1)).trans (WM.bind_bad (wwithin_no h2))
theorem wload2_no1 {n id : Nat} {nd : Nd} {row : List Int} {st : Wst σ} (h1 : nd.dr.all (fun x => decide (x < n)) = false) : wload2 n id nd row st = (.bad 4, st) :=
  WM.bind_bad (wwithin_no h1)
theorem wload1_z {ask : Asks σ} {n id : Nat} {nd : Nd} {st : Wst σ} (h : nd.rw = 0) : wload1 ask n id nd st = wload2 n id nd (List.replicate 240 0) st := if_pos h
theorem wload1_w {ask : Asks σ} {n id : Nat} {nd : Nd} {st : Wst σ} (h : nd.rw ≠ 0) (h1 : [nd.rw].all (fun x => decide (x < n)) = false) : wload1 ask n id nd st = (.bad 4, st) :=
  (if_neg h).trans (WM.bind_bad (wwithin_no h1))
theorem wload1_r {ask : Asks σ} {n id : Nat} {nd : Nd} {st st2 : Wst σ} {c : Int} (h : nd.rw ≠ 0) (h1 : [nd.rw].all (fun x => decide (x < n)) = true) (h2 : wread ask nd.rw st = (.bad c, st2)) : wload1 ask n id nd st = (.bad c, st2) :=
  (if_neg h).trans ((WM.bind_ok (wwithin_yes h1)).trans (WM.bind_bad h2))
theorem wload1_d {ask : Asks σ} {n id : Nat} {nd : Nd} {st st2 : Wst σ} {L : List UInt8} {row : List Int} (h : nd.rw ≠ 0) (h1 : [nd.rw].all (fun x => decide (x < n)) = true) (h2 : wread ask nd.rw st = (.ok L, st2)) (h3 : rowP L = (row, 4)) : wload1 ask n id nd st = (.bad 4, st2) := by
  refine (if_neg h).trans ((WM.bind_ok (wwithin_yes h1)).trans ((WM.bind_ok h2).trans ?_))
  show wdecR (rowP L) _ st2 = _
  rw [h3]; exact if_neg (show ¬ (4 : Int) = 0 by decide)
theorem wload1_g {ask : Asks σ} {n id : Nat} {nd : Nd} {st st2 : Wst σ} {L : List UInt8} {row : List Int} (h : nd.rw ≠ 0) (h1 : [nd.rw].all (fun x => decide (x < n)) = true) (h2 : wread ask nd.rw st = (.ok L, st2)) (h3 : rowP L = (row, 0)) : wload1 ask n id nd st = wload2 n id nd row st2 := by
  refine (if_neg h).trans ((WM.bind_ok (wwithin_yes h1)).trans ((WM.bind_ok h2).trans ?_))
  show wdecR (rowP L) _ st2 = _
  rw [h3]; exact if_pos rfl
theorem setRow_held (id : Int) (nl z r : List Int) (hn : nl.length = 20) (hz : z.length = 240) (hr : r.length = 240) : setLs (ints (id :: (nl ++ z))) 21 (r.map (Value.int .i64)) = ints (id :: (nl ++ r)) := by
  have hsz : (ints (id :: (nl ++ z))).size = 261 := by rw [size_ints]; simp [hn, hz]
  apply Array.ext_getElem?
  intro k
  rw [setLs_get _ _ _ _ (by rw [List.length_map, hr, hsz]; decide), List.length_map, hr, get_ints, get_ints]
  by_cases hk : 21 ≤ k ∧ k < 21 + 240
  · rw [if_pos hk, List.getElem?_map]
    obtain ⟨j, rfl⟩ : ∃ j, k = j + 1 := ⟨k - 1, by omega⟩
    rw [List.getElem?_cons_succ, List.getElem?_append_right (by omega), hn]
    congr 2
  · rw [if_neg hk]
    rcases Nat.lt_or_ge k 21 with h9 | h9
    · cases k with
      | zero => rfl
      | succ j => rw [List.getElem?_cons_succ, List.getElem?_cons_succ, List.getElem?_append_left (by omega), List.getElem?_append_left (by omega)]
    · rw [List.getElem?_eq_none (by simp [hn, hz]; omega), List.getElem?_eq_none (by simp [hn, hr]; omega)]
set_option maxRecDepth 100000 in
set_option maxHeartbeats 2000000 in
theorem load_any (x : Wk σ) (hc : x.c.Ok) (w : World) (S : Hp) (st : Wst σ) (id : Int) (F : Assn) (h : Sat w (workA x S st * (pool S * F))) (Q : Ending → World → Prop)
    (hQ : ∀ e w', WQ x heldR S F w (wload x.c.ask x.n id st) e w' → Q e w') :
    Calls Tryz.prog 35 #[.pointer (some ⟨x.k, 0, none⟩), .int .i64 id] w Q := by
  have c1 := workX1 h
  by_cases hid : 1 ≤ id ∧ id < x.n
  · have hr := read_anyW x hc w S st id F h
    have Hid := SL.hid hid
    obtain ⟨i1, i2⟩ := hid
    clear h
    obtain ⟨⟨r, st1⟩, hp⟩ : ∃ p, wread x.c.ask id st = p := ⟨_, rfl⟩
    rw [hp] at hr
    cases r with
    | bad c =>
      have HQ := SL.hid hQ
      have Hp := SL.hid (wload_bad Hid.out hp)
      clear hp hQ
      go_enter Tryz.func35, Tryz.ntmps35
      go_wp2_with fail
      (with_reducible refine (need_yes w).mono ?_)
      rintro e w2 ⟨rfl, rfl⟩
      go_wp2_with fail
      (with_reducible refine hr.mono ?_)
      rintro e w1 ⟨S', hS, d1, rfl, h2⟩
      go_wp2_with fail
      exact ⟨rfl, HQ.out _ _ (by rw [Hp.out]; exact ⟨S', hS, d1, rfl, h2⟩)⟩
    | ok L =>
      have hL := wread_len hp
      have Hnd16 := SL.hid (decP_16 L)
      have hpc := decP_c L
      have hd := fun w1 v1 hr => dec_any w1 v1 L hr hL
      unfold DecQ at hd
      have HQ := SL.hid hQ
      have hE0 := fun nd => wload_go (nd := nd) Hid.out hp
      have hE4 := fun nd => wload_dec (nd := nd) Hid.out hp
      generalize decP L = p at *
      obtain ⟨nd, c⟩ := p
      dsimp only at hpc Hnd16 hd
      have HE0 := SL.hid (hE0 nd); have HE4 := SL.hid (hE4 nd)
      have hvl : nd.v = .agg (nd.l.map (Value.int .i64)).toArray := rfl
      rw [hvl] at hd
      clear hp hQ hE0 hE4 hL hvl
      go_enter Tryz.func35, Tryz.ntmps35
      go_wp2_with fail
      (with_reducible refine (need_yes w).mono ?_)
      rintro e w2 ⟨rfl, rfl⟩
      go_wp2_with fail
      (with_reducible refine hr.mono ?_)
      rintro e w1 ⟨S1, v1, hS1, d1, rfl, h1⟩
      have hd1 := hd w1 v1 h1.rds
      have Hk := SL.hid (fun w' (h : Sat w' (whole w1)) => Sat.keepW h h1)
      clear hr c1 hd
      go_wp2_with fail
      (with_reducible refine hd1.mono ?_)
      rintro e w2 ⟨rfl, h2, d2⟩
      have H2 := (Hk.out w2 h2).right
      have D2 := d1.trans d2
      clear hd1 Hk h1 h2 d1 d2
      have hZ := H2.alloc (.cells #[.int .i64 0, .int .i64 0, .int .i64 0, .int .i64 0, .int .i64 0, .int .i64 0, .int .i64 0, .int .i64 0, .int .i64 0, .int .i64 0, .int .i64 0, .int .i64 0, .int .i64 0, .int .i64 0, .int .i64 0, .int .i64 0, .int .i64 0, .int .i64 0, .int .i64 0, .int .i64 0] 35 (0, 0))
      have DZ := D2.alloc (.cells #[.int .i64 0, .int .i64 0, .int .i64 0, .int .i64 0, .int .i64 0, .int .i64 0, .int .i64 0, .int .i64 0, .int .i64 0, .int .i64 0, .int .i64 0, .int .i64 0, .int .i64 0, .int .i64 0, .int .i64 0, .int .i64 0, .int .i64 0, .int .i64 0, .int .i64 0, .int .i64 0] 35 (0, 0))
      have hlen : (nd.l.map (Value.int .i64)).toArray.size = 20 := by simp [Nd.cells Hnd16.out]
      have hone : (nd.l.map (Value.int .i64)).toArray.all (·.oneCell') = true := by simp [Value.oneCell']
      have hst : (Tryz.prog.info? 35).map (·.size) = some (nd.l.map (Value.int .i64)).toArray.size := by rw [hlen]; exact info_node0
      have Hlen := SL.hid hlen; have Hone := SL.hid hone; have Hst := SL.hid hst
      have hset := hZ.setRow (cs' := (nd.l.map (Value.int .i64)).toArray)
      have Dset := SL.hid (DZ.setRow w2.heap.size (nd.l.map (Value.int .i64)).toArray)
      have Hz := SL.hid hZ.heap
      clear hlen hone hst H2 D2 DZ hZ
      go_wp2_with (refine wpList_store_row (by exact rfl) 35 (.tmp 5) (.tmp 24) (by exact rfl) w2.heap.size (nd.l.map (Value.int .i64)).toArray (by exact rfl) (by exact rfl) 35 _ (by with_reducible exact Hz.out) Hst.out (by rw [Hlen.out]; rfl) Hone.out ?_)
      generalize w2.heap.size = zb at *
      generalize World.setRow _ _ _ = w3 at *
      clear Hz
      rcases hpc with rfl | rfl
      · have HE := SL.hid (HE0.out rfl)
        clear HE0 HE4
        have hbu := built_held id nd Hnd16.out
        obtain ⟨ZR, hZR⟩ : ∃ Z, Z = List.replicate 240 (0 : Int) := ⟨_, rfl⟩
        rw [← hZR] at hbu
        have HR240 : RowKit.Hid (ZR.length = 240) := by show ZR.length = 240; rw [hZR]; rfl
        have HZR := SL.hid hZR
        clear hZR
        have Hbu := SL.hid hbu
        have hrow : w3.rangeAt zb 0 (nd.l.map (Value.int .i64)) := fun j v hv => by
          rw [Nat.zero_add, hset.cell, List.getElem?_toArray]; exact hv
        have hinfo : (Tryz.prog.info? 35).map (·.size) = some (nd.l.map (Value.int .i64)).length := by rw [List.length_map, Nd.cells Hnd16.out]; exact info_node0
        have Hrow := SL.hid hrow; have Hinfo := SL.hid hinfo
        clear hbu hrow hinfo
        have c4 : w3.cell? ⟨zb, 19, none⟩ = some (.int .i64 nd.rw) := (hset.cell 19).trans (Nd.at19 Hnd16.out)
        have Hset := SL.hid hset
        have hlt : zb < w3.heap.size := hset.lt
        clear hset
        have hT0 : Sat (w3.alloc (.cells (ints (id :: (nd.l ++ ZR))) 75 (0, 0))) (pt w3.heap.size (.cells (ints (id :: (nd.l ++ ZR))) 75 (0, 0)) * (pt zb (.cells (nd.l.map (Value.int .i64)).toArray 35 (0, 0)) * (workA x S1 st1 * (pool S1 * F)))) := Hset.out.alloc _
        have D0 := SL.hid (Dset.out.alloc (.cells (ints (id :: (nd.l ++ ZR))) 75 (0, 0)))
        have HT0 := SL.hid hT0
        have hlt2 : w3.heap.size < (w3.alloc (.cells (ints (id :: (nd.l ++ ZR))) 75 (0, 0))).heap.size := hT0.lt
        have c40 : (w3.alloc (.cells (ints (id :: (nd.l ++ ZR))) 75 (0, 0))).cell? ⟨zb, 19, none⟩ = some (.int .i64 nd.rw) := (hT0.front2.cell 19).trans (Nd.at19 Hnd16.out)
        clear hT0
        (with_reducible refine (check_ok _).mono ?_)
        rintro e w4 ⟨rfl, rfl⟩
        by_cases hrw : nd.rw = 0
        · have HE2 := SL.hid ((wload1_z (ask := x.c.ask) (n := x.n) (id := id.toNat) (st := st1) hrw).trans (by rw [← HZR.out]))
          rw [hrw] at c4 c40
          go_wp2_with (first
            | (refine wpList_load_mid (by exact rfl) 35 (.tmp 5) (by exact rfl) zb 0 (by exact rfl) (nd.l.map (Value.int .i64)) _ (by with_reducible exact Hrow.out) Tryz.underlying35 rfl (by with_reducible exact Hinfo.out) ?_)
            | (refine wpList_build_to (by exact rfl) 75 #[(0, .tmp 28), (1, .tmp 29)] (by exact rfl) _ (by exact rfl) _ (by exact Hbu.out) ?_))
          have hT := HT0.out
          generalize w3.alloc (.cells (ints (id :: (nd.l ++ ZR))) 75 (0, 0)) = w5 at *
          generalize w3.heap.size = hb at *
          clear c4 c40 Hrow Hinfo hlt hlt2 Hbu
          have hrA : RdI w5 (.slice (some ⟨zb, 3, none⟩) 16 16) nd.dr := by
            have h9 : Sat w5 (pt zb (.cells (ints nd.l) 35 (0, 0)) * _) := hT.front2
            have := RdI.row h9 3 16 (by rw [Nd.cells Hnd16.out]; decide) (by decide)
            rwa [Nd.drop3 Hnd16.out] at this
          have hrB : RdI w5 (.slice (some ⟨hb, 21, none⟩) 240 240) ZR := by
            have := RdI.row hT 21 240 (by rw [List.length_cons, List.length_append, Nd.cells Hnd16.out, HR240.out]; decide) (by decide)
            rwa [show ((id :: (nd.l ++ ZR)).drop 21).take 240 = ZR from by rw [List.drop_succ_cons, List.drop_left' (Nd.cells Hnd16.out), List.take_of_length_le (by rw [HR240.out]; decide)]] at this
          have c1 : w5.cell? ⟨x.k, 1, none⟩ = some (.int .i64 (x.n : Int)) := workX1 hT.right.right
          have hA : ∀ Q, _ → _ → Calls Tryz.prog 76 #[.pointer (some ⟨x.k, 0, none⟩), .slice (some ⟨zb, 3, none⟩) 16 16] w5 Q := wwithin_any w5 x.k x.n _ nd.dr (by rw [Hnd16.out]; decide) hrA c1
          have hB : ∀ Q, _ → _ → Calls Tryz.prog 76 #[.pointer (some ⟨x.k, 0, none⟩), .slice (some ⟨hb, 21, none⟩) 240 240] w5 Q := wwithin_any w5 x.k x.n _ ZR (by rw [HR240.out]; decide) hrB c1
          have HT := SL.hid hT
          clear hrA hrB c1 hT
          go_wp2_with fail
          refine hA _ (fun hy1 => ?_) (fun hn1 => ?_)
          · have Hy1 := SL.hid hy1
            clear hy1 hA
            go_wp2_with fail
            refine hB _ (fun hy2 => ?_) (fun hn2 => ?_)
            · have Hy2 := SL.hid hy2
              clear hy2 hB
              go_wp2_with fail
              refine HQ.out _ _ ?_
              rw [HE.out.trans (HE2.out.trans (wload2_ok Hy1.out Hy2.out))]
              refine ⟨S1, _, hS1, D0.out, rfl, ?_⟩
              refine Sat.ex_star_iff.2 ⟨hb, (Sat.fact_iff.2 ⟨rfl, Sat.held.2 ⟨⟨Hnd16.out, HR240.out⟩, ?_⟩⟩ : Sat _ (fact _ * _)).to (star_assoc _ _ _).symm⟩
              have e : (Hd.l ⟨id.toNat, nd, ZR⟩) = id :: (nd.l ++ ZR) := by show ((id.toNat : Int) :: _) = _; rw [Int.toNat_of_nonneg (by omega)]
              rw [e]
              exact (HT.out.to (by ac_rfl : _ = pt zb (.cells (nd.l.map (Value.int .i64)).toArray 35 (0, 0)) * (pt hb (.cells (ints (id :: (nd.l ++ ZR))) 75 (0, 0)) * (workA x S1 st1 * (pool S1 * F))))).right
            · have Hn2 := SL.hid hn2
              clear hn2 hB
              go_wp2_with fail
              exact ⟨rfl, HQ.out _ _ (by rw [HE.out.trans (HE2.out.trans (wload2_no2 Hy1.out Hn2.out))]; exact ⟨S1, hS1, D0.out, rfl, HT.out.right.right⟩)⟩
          · have Hn1 := SL.hid hn1
            clear hn1 hA hB
            go_wp2_with fail
            exact ⟨rfl, HQ.out _ _ (by rw [HE.out.trans (HE2.out.trans (wload2_no1 Hn1.out))]; exact ⟨S1, hS1, D0.out, rfl, HT.out.right.right⟩)⟩
        · have hrw2 : (nd.rw != 0) = true := by simpa using hrw
          have Hrw := SL.hid hrw
          have HE2 := SL.hid (wload1_w (ask := x.c.ask) (n := x.n) (id := id.toNat) (st := st1) hrw)
          have hT1 := HT0.out.alloc (.cells #[.int .i64 nd.rw] 3 (0, 0))
          have D1 := SL.hid (D0.out.alloc (.cells #[.int .i64 nd.rw] 3 (0, 0)))
          have HT1 := SL.hid hT1
          have hrC : RdI ((w3.alloc (.cells (ints (id :: (nd.l ++ ZR))) 75 (0, 0))).alloc (.cells #[.int .i64 nd.rw] 3 (0, 0))) (.slice (some ⟨w3.heap.size + 1, 0, none⟩) 1 1) [nd.rw] := by
            have h8 := hT1
            rw [World.size_alloc] at h8
            exact RdI.row (xs := [nd.rw]) h8 0 1 (Nat.le_refl _) (by decide)
          have c1 : ((w3.alloc (.cells (ints (id :: (nd.l ++ ZR))) 75 (0, 0))).alloc (.cells #[.int .i64 nd.rw] 3 (0, 0))).cell? ⟨x.k, 1, none⟩ = some (.int .i64 (x.n : Int)) := workX1 hT1.right.right.right
          have hC : ∀ Q, _ → _ → Calls Tryz.prog 76 #[.pointer (some ⟨x.k, 0, none⟩), .slice (some ⟨w3.heap.size + 1, 0, none⟩) 1 1] _ Q := wwithin_any _ x.k x.n _ [nd.rw] (by show 1 ≤ 1000; decide) hrC c1
          have c41 : ((w3.alloc (.cells (ints (id :: (nd.l ++ ZR))) 75 (0, 0))).alloc (.cells #[.int .i64 nd.rw] 3 (0, 0))).cell? ⟨zb, 19, none⟩ = some (.int .i64 nd.rw) := (hT1.front3.cell 19).trans (Nd.at19 Hnd16.out)
          clear hT1 hrC c1 hrw
          go_wp2_with (first
            | (refine wpList_load_mid (by exact rfl) 35 (.tmp 5) (by exact rfl) zb 0 (by exact rfl) (nd.l.map (Value.int .i64)) _ (by with_reducible exact Hrow.out) Tryz.underlying35 rfl (by with_reducible exact Hinfo.out) ?_)
            | (refine wpList_build_to (by exact rfl) 75 #[(0, .tmp 28), (1, .tmp 29)] (by exact rfl) _ (by exact rfl) _ (by exact Hbu.out) ?_))
          refine hC _ (fun hy => ?_) (fun hn => ?_)
          · have Hy := SL.hid hy
            have hr2 := read_anyW x hc _ S1 st1 nd.rw _ (HT1.out.right.to (by ac_rfl : _ = workA x S1 st1 * (pool S1 * (pt w3.heap.size (.cells (ints (id :: (nd.l ++ ZR))) 75 (0, 0)) * (pt zb (.cells (nd.l.map (Value.int .i64)).toArray 35 (0, 0)) * F)))))
            clear hy hC
            generalize (w3.alloc (.cells (ints (id :: (nd.l ++ ZR))) 75 (0, 0))).alloc (.cells #[.int .i64 nd.rw] 3 (0, 0)) = w5 at *
            generalize w3.alloc (.cells (ints (id :: (nd.l ++ ZR))) 75 (0, 0)) = w4 at *
            generalize w3.heap.size = hb at *
            clear c4 c40 Hrow Hinfo hlt hlt2 Hbu HT0
            obtain ⟨⟨r2, st2⟩, hp2⟩ : ∃ p, wread x.c.ask nd.rw st1 = p := ⟨_, rfl⟩
            rw [hp2] at hr2
            cases r2 with
            | bad c =>
              have HE3 := SL.hid (wload1_r (id := id.toNat) Hrw.out Hy.out hp2)
              clear hp2
              go_wp2_with fail
              (with_reducible refine hr2.mono ?_)
              rintro e w6 ⟨S2, hS2, d6, rfl, h6⟩
              go_wp2_with fail
              exact ⟨rfl, HQ.out _ _ (by rw [HE.out.trans HE3.out]; exact ⟨S2, hS1.trans hS2, D1.out.trans d6, rfl, h6.to (by ac_rfl : _ = (workA x S2 st2 * (pool S2 * F)) * (pt hb (.cells (ints (id :: (nd.l ++ ZR))) 75 (0, 0)) * pt zb (.cells (nd.l.map (Value.int .i64)).toArray 35 (0, 0)))) |>.left⟩)⟩
            | ok L2 =>
              have hL2 := wread_len hp2
              have hE3 := fun row => wload1_d (row := row) (id := id.toNat) Hrw.out Hy.out hp2
              have hE4 := fun row => wload1_g (row := row) (id := id.toNat) Hrw.out Hy.out hp2
              have hd := fun w1 v1 hr => decR_any w1 v1 L2 hr hL2
              have h240 := rowP_240 L2
              have hrc := rowP_c L2
              unfold DecRQ at hd
              generalize rowP L2 = p at *
              obtain ⟨row, c⟩ := p
              dsimp only at hd h240 hrc
              have HE3 := SL.hid (hE3 row); have HE4 := SL.hid (hE4 row); have H240 := SL.hid h240
              clear hE3 hE4 hp2 hL2 h240
              go_wp2_with fail
              (with_reducible refine hr2.mono ?_)
              rintro e w6 ⟨S2, v2, hS2, d6, rfl, h6⟩
              have hd2 := hd w6 v2 h6.rds
              have Hk := SL.hid (fun w' (h : Sat w' (whole w6)) => Sat.keepW h h6)
              clear hr2 hd
              go_wp2_with fail
              (with_reducible refine hd2.mono ?_)
              rintro e w7 ⟨rfl, h7, d7⟩
              have h8 : Sat w7 (pt hb (.cells (ints (id :: (nd.l ++ ZR))) 75 (0, 0)) * (pt zb (.cells (nd.l.map (Value.int .i64)).toArray 35 (0, 0)) * (workA x S2 st2 * (pool S2 * F)))) := (Hk.out w7 h7).right.to (by ac_rfl)
              have D8 := SL.hid (Side.setCells (row.map (Value.int .i64)) 21 hb ((D1.out.trans d6).trans d7))
              have hS3 := hS1.trans hS2
              have hset := Sat.setCells (row.map (Value.int .i64)) 21 h8
              rw [setRow_held id nd.l ZR row (Nd.cells Hnd16.out) HR240.out H240.out] at hset
              have hth : w7.there hb 21 (row.map (Value.int .i64)).toArray.size := by
                have hz : (row.map (Value.int .i64)).toArray.size = 240 := by simp [H240.out]
                rw [hz]
                exact Sat.there h8 (by rw [size_ints, List.length_cons, List.length_append, Nd.cells Hnd16.out, HR240.out]; decide)
              have hinf : (Tryz.prog.info? 73).map (·.size) = some (row.map (Value.int .i64)).toArray.size := by
                have hz : (row.map (Value.int .i64)).toArray.size = 240 := by simp [H240.out]
                rw [hz]; exact info_row
              have hone2 : (row.map (Value.int .i64)).toArray.all (·.oneCell') = true := by simp [Value.oneCell']
              have hio : Value.agg (ints row) = .agg (row.map (Value.int .i64)).toArray := rfl
              have Hth := SL.hid hth; have Hinf := SL.hid hinf; have Hone2 := SL.hid hone2; have Hset2 := SL.hid hset
              rw [hio]
              clear hd2 Hk h6 h7 d6 d7 h8 hth hinf hone2 hio hset HT1 D1 hS1 hS2 c41
              go_wp2_with (refine wpList_store_mid (by exact rfl) 73 (.tmp 50) (.tmp 47) (by exact rfl) hb 21 (row.map (Value.int .i64)).toArray (by exact rfl) (by exact rfl) (by with_reducible exact Hth.out) Hinf.out Hone2.out ?_)
              rcases hrc with rfl | rfl
              · have HE5 := SL.hid (HE.out.trans (HE4.out rfl))
                (with_reducible refine (check_ok _).mono ?_)
                rintro e w9 ⟨rfl, rfl⟩
                have hT : Sat (w7.setCells hb 21 (row.map (Value.int .i64)).toArray.toList) _ := Hset2.out
                clear HR240
                have HR240 := H240
                have DD : RowKit.Hid (Side w (w7.setCells hb 21 (row.map (Value.int .i64)).toArray.toList)) := D8
                clear Hth Hset2 D8
                generalize w7.setCells hb 21 (row.map (Value.int .i64)).toArray.toList = w8 at *
                have hrA : RdI w8 (.slice (some ⟨zb, 3, none⟩) 16 16) nd.dr := by
                  have h9 : Sat w8 (pt zb (.cells (ints nd.l) 35 (0, 0)) * _) := hT.front2
                  have := RdI.row h9 3 16 (by rw [Nd.cells Hnd16.out]; decide) (by decide)
                  rwa [Nd.drop3 Hnd16.out] at this
                have hrB : RdI w8 (.slice (some ⟨hb, 21, none⟩) 240 240) row := by
                  have := RdI.row hT 21 240 (by rw [List.length_cons, List.length_append, Nd.cells Hnd16.out, HR240.out]; decide) (by decide)
                  rwa [show ((id :: (nd.l ++ row)).drop 21).take 240 = row from by rw [List.drop_succ_cons, List.drop_left' (Nd.cells Hnd16.out), List.take_of_length_le (by rw [HR240.out]; decide)]] at this
                have c1 : w8.cell? ⟨x.k, 1, none⟩ = some (.int .i64 (x.n : Int)) := workX1 hT.right.right
                have hA : ∀ Q, _ → _ → Calls Tryz.prog 76 #[.pointer (some ⟨x.k, 0, none⟩), .slice (some ⟨zb, 3, none⟩) 16 16] w8 Q := wwithin_any w8 x.k x.n _ nd.dr (by rw [Hnd16.out]; decide) hrA c1
                have hB : ∀ Q, _ → _ → Calls Tryz.prog 76 #[.pointer (some ⟨x.k, 0, none⟩), .slice (some ⟨hb, 21, none⟩) 240 240] w8 Q := wwithin_any w8 x.k x.n _ row (by rw [HR240.out]; decide) hrB c1
                have HT := SL.hid hT
                clear hrA hrB c1 hT
                go_wp2_with fail
                refine hA _ (fun hy1 => ?_) (fun hn1 => ?_)
                · have Hy1 := SL.hid hy1
                  clear hy1 hA
                  go_wp2_with fail
                  refine hB _ (fun hy2 => ?_) (fun hn2 => ?_)
                  · have Hy2 := SL.hid hy2
                    clear hy2 hB
                    go_wp2_with fail
                    refine HQ.out _ _ ?_
                    rw [HE5.out.trans (wload2_ok Hy1.out Hy2.out)]
                    refine ⟨S2, _, hS3, DD.out, rfl, ?_⟩
                    refine Sat.ex_star_iff.2 ⟨hb, (Sat.fact_iff.2 ⟨rfl, Sat.held.2 ⟨⟨Hnd16.out, HR240.out⟩, ?_⟩⟩ : Sat _ (fact _ * _)).to (star_assoc _ _ _).symm⟩
                    have e : (Hd.l ⟨id.toNat, nd, row⟩) = id :: (nd.l ++ row) := by show ((id.toNat : Int) :: _) = _; rw [Int.toNat_of_nonneg (by omega)]
                    rw [e]
                    exact (HT.out.to (by ac_rfl : _ = pt zb (.cells (nd.l.map (Value.int .i64)).toArray 35 (0, 0)) * (pt hb (.cells (ints (id :: (nd.l ++ row))) 75 (0, 0)) * (workA x S2 st2 * (pool S2 * F))))).right
                  · have Hn2 := SL.hid hn2
                    clear hn2 hB
                    go_wp2_with fail
                    exact ⟨rfl, HQ.out _ _ (by rw [HE5.out.trans (wload2_no2 Hy1.out Hn2.out)]; exact ⟨S2, hS3, DD.out, rfl, HT.out.right.right⟩)⟩
                · have Hn1 := SL.hid hn1
                  clear hn1 hA hB
                  go_wp2_with fail
                  exact ⟨rfl, HQ.out _ _ (by rw [HE5.out.trans (wload2_no1 Hn1.out)]; exact ⟨S2, hS3, DD.out, rfl, HT.out.right.right⟩)⟩
              · have HE5 := SL.hid (HE.out.trans (HE3.out rfl))
                (with_reducible refine (check_bad _ 4 (by decide)).mono ?_)
                rintro e w9 ⟨rfl, rfl⟩
                go_wp2_with fail
                exact ⟨rfl, HQ.out _ _ (by rw [HE5.out]; exact ⟨S2, hS3, D8.out, rfl, Hset2.out.right.right⟩)⟩
          · have Hn := SL.hid hn
            clear hn hC
            go_wp2_with fail
            exact ⟨rfl, HQ.out _ _ (by rw [HE.out.trans (HE2.out Hn.out)]; exact ⟨S1, hS1, D1.out, rfl, HT1.out.right.right.right⟩)⟩
      · have HE := SL.hid (HE4.out rfl)
        clear HE0 HE4
        (with_reducible refine (check_bad _ 4 (by decide)).mono ?_)
        rintro e w4 ⟨rfl, rfl⟩
        go_wp2_with fail
        exact ⟨rfl, HQ.out _ _ (by rw [HE.out]; exact ⟨S1, hS1, Dset.out, rfl, hset.right⟩)⟩
  · have Hp := SL.hid (wload_no (ask := x.c.ask) (st := st) hid)
    have HQ := SL.hid hQ
    have HL := SL.hid (show Q (.panicked (flt 1)) w from hQ _ _ (by rw [Hp.out]; exact ⟨S, Ext.refl S, Side.refl w, rfl, h⟩))
    clear hQ
    by_cases h1 : 1 ≤ id
    · have h2 : decide (id < (x.n : Int)) = false := decide_eq_false (by omega)
      clear hid
      go_enter Tryz.func35, Tryz.ntmps35
      go_wp2_with fail
      (with_reducible refine (need_no w).mono ?_)
      rintro e w2 ⟨rfl, rfl⟩
      go_wp2_with fail
      exact ⟨rfl, HL.out⟩
    · have h2 : id < 1 := by omega
      clear hid
      go_enter Tryz.func35, Tryz.ntmps35
      go_wp2_with fail
      (with_reducible refine (need_no w).mono ?_)
      rintro e w2 ⟨rfl, rfl⟩
      go_wp2_with fail
      exact ⟨rfl, HL.out⟩
end
end Go.Proofs.YtaoohjeaaccnfaaGreat.Fs
namespace Go.SL
set_option linter.unusedVariables false
set_option linter.unusedSimpArgs false
open Go.RowKit
section
variable {σ : Type}
def wsaveR (h : Hd) : WM σ Unit := fun st =>
  if h.n.rw = 0 then (.ok (), st) else if h.row.all ptrOk = true then wwrite h.n.rw (leP h.row) st else (.bad 1, st)
def wsave (h : Hd) : WM σ Unit := fun st =>
  if h.n.ok = true then (WM.bind (wwrite (h.id : Int) (encNd h.n)) fun _ => wsaveR h) st else (.bad 1, st)
theorem wsave_no {h : Hd} {st : Wst σ} (h1 : h.n.ok = false) : wsave h st = (.bad 1, st) := if_neg (by rw [h1]; decide)
theorem wsave_bad {h : Hd} {st st1 : Wst σ} {c : Int} (h1 : h.n.ok = true) (h2 : wwrite (h.id : Int) (encNd h.n) st = (.bad c, st1)) : wsave h st = (.bad c, st1) := (if_pos h1).trans (WM.bind_bad h2)
theorem wsave_z {h : Hd} {st st1 : Wst σ} (h1 : h.n.ok = true) (h2 : wwrite (h.id : Int) (encNd h.n) st = (.ok (), st1)) (h3 : h.n.rw = 0) : wsave h st = (.ok (), st1) := (if_pos h1).trans ((WM.bind_ok h2).trans (if_pos h3))
theorem wsave_rn {h : Hd} {st st1 : Wst σ} (h1 : h.n.ok = true) (h2 : wwrite (h.id : Int) (encNd h.n) st = (.ok (), st1)) (h3 : h.n.rw ≠ 0) (h4 : h.row.all ptrOk = false) : wsave h st = (.bad 1, st1) :=
  (if_pos h1).trans ((WM.bind_ok h2).trans ((if_neg h3).trans (if_neg (by rw [h4]; decide))))
theorem wsave_ry {h : Hd} {st st1 : Wst σ} (h1 : h.n.ok = true) (h2 : wwrite (h.id : Int) (encNd h.n) st = (.ok (), st1)) (h3 : h.n.rw ≠ 0) (h4 : h.row.all ptrOk = true) : wsave h st = wwrite h.n.rw (leP h.row) st1 :=
  (if_pos h1).trans ((WM.bind_ok h2).trans ((if_neg h3).trans (if_pos h4)))
end
end Go.SL
namespace Go.Proofs.YtaoohjeaaccnfaaGreat.Fs
set_option linter.unusedVariables false
set_option linter.unusedSimpArgs false
open Go.RowKit Go.SL Go.Proofs.YtaoohjeaaccnfaaGreat.Ba
section
variable {σ α : Type}
theorem held_node {w : World} {hb : Nat} {h : Hd} {F : Assn} (hf : h.fit) (hs : Sat w (pt hb (.cells (ints h.l) 75 (0, 0)) * F)) : w.rangeAt hb 1 (h.n.l.map (Value.int .i64)) := fun j v hv => by
  rw [hs.cell, get_ints, ← List.getElem?_map, Nat.add_comm]
  show (List.map (Value.int .i64) ((h.id : Int) :: (h.n.l ++ h.row)))[j + 1]? = some v
  rw [List.map_cons, List.getElem?_cons_succ, List.map_append, List.getElem?_append_left (List.getElem?_eq_some_iff.1 hv).1]
  exact hv
theorem held_row {w : World} {hb : Nat} {h : Hd} {F : Assn} (hf : h.fit) (hs : Sat w (pt hb (.cells (ints h.l) 75 (0, 0)) * F)) : w.rangeAt hb 21 (h.row.map (Value.int .i64)) := fun j v hv => by
  rw [hs.cell, get_ints, ← List.getElem?_map, show 21 + j = (20 + j) + 1 by omega]
  show (List.map (Value.int .i64) ((h.id : Int) :: (h.n.l ++ h.row)))[20 + j + 1]? = some v
  rw [List.map_cons, List.getElem?_cons_succ, List.map_append, List.getElem?_append_right (by rw [List.length_map, Nd.cells hf.1]; omega), List.length_map, Nd.cells hf.1, Nat.add_sub_cancel_left]
  exact hv
theorem held_rw {w : World} {hb : Nat} {h : Hd} {F : Assn} (hf : h.fit) (hs : Sat w (pt hb (.cells (ints h.l) 75 (0, 0)) * F)) : w.cell? ⟨hb, 20, none⟩ = some (.int .i64 h.n.rw) := by
  have := held_node hf hs 19 (.int .i64 h.n.rw) (by
    have := Nd.at19 hf.1
    rwa [get_ints, ← List.getElem?_map] at this)
  exact this
theorem held_id {w : World} {hb : Nat} {h : Hd} {F : Assn} (hs : Sat w (pt hb (.cells (ints h.l) 75 (0, 0)) * F)) : w.cell? ⟨hb, 0, none⟩ = some (.int .i64 (h.id : Int)) := hs.cell 0
set_option maxRecDepth 100000 in
set_option maxHeartbeats 2000000 in
theorem save_any (x : Wk σ) (w : World) (S : Hp) (st : Wst σ) (hb : Nat) (h : Hd) (F : Assn) (hs : Sat w (heldA hb h * (workA x S st * (pool S * F)))) (Q : Ending → World → Prop)
    (hQ : ∀ e w', WQ x unitR S (heldA hb h * F) w (wsave h st) e w' → Q e w') :
    Calls Tryz.prog 43 #[.pointer (some ⟨x.k, 0, none⟩), .pointer (some ⟨hb, 0, none⟩)] w Q := by
  obtain ⟨hf, h0⟩ := Sat.held.1 hs
  have HQ := SL.hid hQ; have Hf := SL.hid hf
  have hrow := SL.hid (held_node hf h0)
  have hinf : (Tryz.prog.info? 35).map (·.size) = some (h.n.l.map (Value.int .i64)).length := by rw [List.length_map, Nd.cells hf.1]; exact info_node0
  have Hinf := SL.hid hinf
  have hvl : h.n.v = .agg (h.n.l.map (Value.int .i64)).toArray := rfl
  have Hs := SL.hid hs
  cases hok : h.n.ok with
  | false =>
    have he := encode_no w h.n hf.1 hok
    rw [hvl] at he
    have HE := SL.hid (wsave_no (st := st) hok)
    clear hf h0 hok hvl hinf hs hQ
    go_enter Tryz.func43, Tryz.ntmps43
    go_wp2_with (refine wpList_load_mid (by exact rfl) 35 (.tmp 9) (by exact rfl) hb 1 (by exact rfl) (h.n.l.map (Value.int .i64)) _ (by with_reducible exact hrow.out) Tryz.underlying35 rfl (by with_reducible exact Hinf.out) ?_)
    (with_reducible refine he.mono ?_)
    rintro e w2 ⟨rfl, h2, d2⟩
    have H2 := h2.keepW Hs.out
    clear h2 he
    go_wp2_with fail
    (with_reducible refine (check_bad _ 1 (by decide)).mono ?_)
    rintro e w3 ⟨rfl, rfl⟩
    go_wp2_with fail
    exact ⟨rfl, HQ.out _ _ (by rw [HE.out]; exact ⟨S, Ext.refl S, d2, rfl, H2.to (by ac_rfl)⟩)⟩
  | true =>
    have he := encode_yes w h.n hf.1 hok
    have hz1 := fun st1 c => wsave_bad (h := h) (st := st) (st1 := st1) (c := c) hok
    have hz2 := fun st1 => wsave_z (h := h) (st := st) (st1 := st1) hok
    have hz3 := fun st1 => wsave_rn (h := h) (st := st) (st1 := st1) hok
    have hz4 := fun st1 => wsave_ry (h := h) (st := st) (st1 := st1) hok
    rw [hvl] at he
    have Hz1 := SL.hid hz1; have Hz2 := SL.hid hz2; have Hz3 := SL.hid hz3; have Hz4 := SL.hid hz4
    clear hf h0 hok hvl hinf hs hQ hz1 hz2 hz3 hz4
    go_enter Tryz.func43, Tryz.ntmps43
    go_wp2_with (refine wpList_load_mid (by exact rfl) 35 (.tmp 9) (by exact rfl) hb 1 (by exact rfl) (h.n.l.map (Value.int .i64)) _ (by with_reducible exact hrow.out) Tryz.underlying35 rfl (by with_reducible exact Hinf.out) ?_)
    (with_reducible refine he.mono ?_)
    rintro e w2 ⟨v2, rfl, h2, d2⟩
    have H2 := h2.under Hs.out
    have hr2 := H2.rds
    obtain ⟨va, vc, rfl⟩ := sl_shape H2
    have H3 := H2.right.to (by ac_rfl : _ = workA x S st * (pool S * (heldA hb h * F)))
    have c0 : w2.cell? ⟨hb, 0, none⟩ = some (.int .i64 (h.id : Int)) := held_id (Sat.held.1 H2.right).2
    have hw := write_anyW x w2 S st (h.id : Int) _ (encNd h.n) _ H3 hr2
    clear h2 he H2 hr2 hrow H3
    obtain ⟨⟨r, st1⟩, hp⟩ : ∃ p, wwrite (h.id : Int) (encNd h.n) st = p := ⟨_, rfl⟩
    rw [hp] at hw
    go_wp2_with fail
    (with_reducible refine (check_ok _).mono ?_)
    rintro e w3 ⟨rfl, rfl⟩
    cases r with
    | bad c =>
      have HE := SL.hid (Hz1.out _ _ hp)
      clear hp
      go_wp2_with fail
      (with_reducible refine hw.mono ?_)
      rintro e w3 ⟨S', hS, d3, rfl, h3⟩
      go_wp2_with fail
      exact ⟨rfl, HQ.out _ _ (by rw [HE.out]; exact ⟨S', hS, d2.trans d3, rfl, h3⟩)⟩
    | ok u =>
      have Hz2 := SL.hid (Hz2.out _ hp); have Hz3 := SL.hid (Hz3.out _ hp); have Hz4 := SL.hid (Hz4.out _ hp)
      clear hp Hz1
      go_wp2_with fail
      (with_reducible refine hw.mono ?_)
      rintro e w3 ⟨S', v3, hS, d3, rfl, h3⟩
      obtain ⟨rfl, h4⟩ := Sat.fact_iff.1 h3
      have h5 : Sat w3 (heldA hb h * (workA x S' st1 * (pool S' * F))) := h4.to (by ac_rfl)
      obtain ⟨hf, h6⟩ := Sat.held.1 h5
      have c20 : w3.cell? ⟨hb, 20, none⟩ = some (.int .i64 h.n.rw) := held_rw hf h6
      have D3 := SL.hid (d2.trans d3)
      have HS := SL.hid hS
      clear hw h3 c0 d2 d3
      by_cases hrw : h.n.rw = 0
      · have HE := SL.hid (Hz2.out hrw)
        have H4 := SL.hid h4
        rw [hrw] at c20
        clear hrw h4 h5 h6 hf
        go_wp2_with fail
        go_end0
        refine HQ.out _ _ ?_
        rw [HE.out]
        exact ⟨S', _, HS.out, D3.out, rfl, Sat.fact_iff.2 ⟨rfl, H4.out⟩⟩
      · have hrw2 : (h.n.rw != 0) = true := by simpa using hrw
        have hrow := SL.hid (held_row hf h6)
        have hinf2 : (Tryz.prog.info? 73).map (·.size) = some (h.row.map (Value.int .i64)).length := by rw [List.length_map, hf.2]; exact info_row
        have Hinf2 := SL.hid hinf2
        have hio : Value.agg (ints h.row) = .agg (h.row.map (Value.int .i64)).toArray := rfl
        have H5 := SL.hid h5
        cases hra : h.row.all ptrOk with
        | false =>
          have HE := SL.hid (Hz3.out hrw hra)
          have he := encodeRow_no w3 h.row hf.2 hra
          rw [hio] at he
          clear hra hrw h4 h5 h6 hf hinf2 hio
          go_wp2_with (refine wpList_load_mid (by exact rfl) 73 (.tmp 32) (by exact rfl) hb 21 (by exact rfl) (h.row.map (Value.int .i64)) _ (by with_reducible exact hrow.out) Tryz.underlying73 rfl (by with_reducible exact Hinf2.out) ?_)
          (with_reducible refine he.mono ?_)
          rintro e w4 ⟨rfl, h7, d7⟩
          have H7 := h7.keepW H5.out
          clear h7 he
          go_wp2_with fail
          (with_reducible refine (check_bad _ 1 (by decide)).mono ?_)
          rintro e w5 ⟨rfl, rfl⟩
          go_wp2_with fail
          exact ⟨rfl, HQ.out _ _ (by rw [HE.out]; exact ⟨S', HS.out, D3.out.trans d7, rfl, H7.to (by ac_rfl)⟩)⟩
        | true =>
          have HE := SL.hid (Hz4.out hrw hra)
          have he := encodeRow_yes w3 h.row hf.2 hra
          rw [hio] at he
          clear hra hrw h4 h5 h6 hf hinf2 hio
          go_wp2_with (refine wpList_load_mid (by exact rfl) 73 (.tmp 32) (by exact rfl) hb 21 (by exact rfl) (h.row.map (Value.int .i64)) _ (by with_reducible exact hrow.out) Tryz.underlying73 rfl (by with_reducible exact Hinf2.out) ?_)
          (with_reducible refine he.mono ?_)
          rintro e w4 ⟨v4, rfl, h7, d7⟩
          have H7 := h7.under H5.out
          have hr7 := H7.rds
          obtain ⟨wa, wc, rfl⟩ := sl_shape H7
          have c20b : w4.cell? ⟨hb, 20, none⟩ = some (.int .i64 h.n.rw) := held_rw Hf.out (Sat.held.1 H7.right).2
          have hw := write_anyW x w4 S' st1 h.n.rw _ (leP h.row) _ (H7.right.to (by ac_rfl : _ = workA x S' st1 * (pool S' * (heldA hb h * F)))) hr7
          clear he h7 H7 hr7 c20
          obtain ⟨⟨r, st2⟩, hp⟩ : ∃ p, wwrite h.n.rw (leP h.row) st1 = p := ⟨_, rfl⟩
          rw [hp] at hw
          have HE2 := SL.hid (HE.out.trans hp)
          clear hp
          go_wp2_with fail
          (with_reducible refine (check_ok _).mono ?_)
          rintro e w5 ⟨rfl, rfl⟩
          cases r with
          | bad c =>
            go_wp2_with fail
            (with_reducible refine hw.mono ?_)
            rintro e w5 ⟨S2, hS2, d5, rfl, h8⟩
            go_wp2_with fail
            exact ⟨rfl, HQ.out _ _ (by rw [HE2.out]; exact ⟨S2, HS.out.trans hS2, (D3.out.trans d7).trans d5, rfl, h8⟩)⟩
          | ok u =>
            go_wp2_with fail
            (with_reducible refine hw.mono ?_)
            rintro e w5 ⟨S2, v5, hS2, d5, rfl, h8⟩
            obtain ⟨rfl, h9⟩ := Sat.fact_iff.1 h8
            clear hw h8
            go_wp2_with fail
            go_end0
            refine HQ.out _ _ ?_
            rw [HE2.out]
            exact ⟨S2, _, HS.out.trans hS2, (D3.out.trans d7).trans d5, rfl, Sat.fact_iff.2 ⟨rfl, h9⟩⟩
end
end Go.Proofs.YtaoohjeaaccnfaaGreat.Fs

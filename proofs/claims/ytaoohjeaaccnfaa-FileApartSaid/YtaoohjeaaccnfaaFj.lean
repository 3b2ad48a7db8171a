/- file: work.write, bitmap, mark, take. -/
import Derived.Test.YtaoohjeaaccnfaaFi
namespace Go.SL
set_option linter.unusedVariables false
set_option linter.unusedSimpArgs false
open Go.RowKit
section
variable {σ : Type}
def writeE (err id : Int) (l : List UInt8) : Int := if err ≠ 0 then err else if id < 0 ∨ l.length ≠ 480 then 1 else 0
def wwrite (id : Int) (l : List UInt8) : WM σ Unit := fun st =>
  if writeE st.b.err id l = 0 then (.ok (), { st with b := { st.b with W := SL.upd st.b.W id l } }) else (.bad (writeE st.b.err id l), st)
def wbits (ask : Asks σ) : WM σ (List UInt8) := fun st => match st.bits with
  | some l => (.ok l, st)
  | none => match wread ask 0 st with
    | (.ok l, st') => (.ok l, { st' with bits := some l })
    | (.bad c, st') => (.bad c, st')
def wmarkK (id : Nat) (t : Bool) (l : List UInt8) : WM σ Unit := fun st => (.ok (), { st with bits := some (setTo l id t), dt := true })
def wmark (ask : Asks σ) (id : Nat) (t : Bool) : WM σ Unit := wbits ask ⇝ wmarkK id t
def wtakeO (l : List UInt8) (st : Wst σ) : Option Nat → Rs Nat × Wst σ
  | some k => (.ok k, { st with bits := some (setTo l k true), dt := true })
  | none => (.bad 7, st)
def wtakeK (n : Nat) (l : List UInt8) : WM σ Nat := fun st => wtakeO l st (freeOf l n)
def wtake (ask : Asks σ) (n : Nat) : WM σ Nat := wbits ask ⇝ wtakeK n
theorem wread_bits (ask : Asks σ) (id : Int) (st : Wst σ) : (wread ask id st).2.bits = st.bits := by
  unfold wread; split
  · rfl
  · split <;> rfl
theorem wread_len {ask : Asks σ} {id : Int} {st st' : Wst σ} {l : List UInt8} (h : wread ask id st = (.ok l, st')) : l.length = 480 := by
  unfold wread at h
  split at h
  · cases h
  · split at h
    · cases h
    · rename_i h9; simp only [Prod.mk.injEq, Rs.ok.injEq] at h; rw [← h.1]; exact Decidable.of_not_not h9
theorem wwrite_bits (id : Int) (l : List UInt8) (st : Wst σ) : (wwrite id l st).2.bits = st.bits := by
  unfold wwrite; split <;> rfl
theorem wbits_ok {ask : Asks σ} {st st' : Wst σ} {l : List UInt8} (h : wbits ask st = (.ok l, st')) (hb : ∀ l, st.bits = some l → l.length = 480) : st'.bits = some l ∧ l.length = 480 := by
  unfold wbits at h
  split at h
  · rename_i l0 h0
    simp only [Prod.mk.injEq, Rs.ok.injEq] at h
    obtain ⟨rfl, rfl⟩ := h
    exact ⟨h0, hb _ h0⟩
  · split at h
    · rename_i l1 st1 h1
      simp only [Prod.mk.injEq, Rs.ok.injEq] at h
      obtain ⟨rfl, rfl⟩ := h
      exact ⟨rfl, wread_len h1⟩
    · cases h
end
end Go.SL
namespace Go.Proofs.Ytaoohjeaaccnfaa.Fs
set_option linter.unusedVariables false
set_option linter.unusedSimpArgs false
open Go.RowKit Go.SL Go.Proofs.Ytaoohjeaaccnfaa.Ba
section
variable {σ α : Type}
theorem Sat.workOpen {w : World} {x : Wk σ} {S : Hp} {st : Wst σ} {F : Assn} (h : Sat w (workA x S st * F)) : ∃ v, Sat w (workX x v S st * (bitsA st.bits v * F)) := by
  obtain ⟨v, h⟩ := Sat.ex_star_iff.1 h
  exact ⟨v, h.to (by ac_rfl)⟩
theorem Sat.workShut {w : World} {x : Wk σ} {S : Hp} {st : Wst σ} {F : Assn} (v : Value) (h : Sat w (workX x v S st * (bitsA st.bits v * F))) : Sat w (workA x S st * F) :=
  Sat.ex_star_iff.2 ⟨v, h.to (by ac_rfl)⟩
theorem Sat.bitsNil {w : World} {F : Assn} (h : Sat w F) : Sat w (bitsA none (.slice none 0 0) * F) :=
  (h.to (emp_star _).symm).weak fun k hk => .inl ⟨rfl, rfl, hk⟩
theorem Sat.bitsSome {w : World} {F : Assn} {v : Value} {l : List UInt8} (hl : l.length = 480) (h : Sat w (bs 5 v l * F)) : Sat w (bitsA (some l) v * F) :=
  h.weak fun k hk => .inr ⟨l, rfl, hl, hk⟩
theorem Sat.bitsCases {w : World} {o : Option (List UInt8)} {v : Value} {F : Assn} (h : Sat w (bitsA o v * F)) :
    (o = none ∧ v = .slice none 0 0 ∧ Sat w F) ∨ ∃ l, o = some l ∧ l.length = 480 ∧ Sat w (bs 5 v l * F) := by
  obtain ⟨k, a, h1, h2, p, q, d, rfl⟩ := h
  rcases p with ⟨rfl, rfl, rfl⟩ | ⟨l, rfl, hl, hb⟩
  · refine .inl ⟨rfl, rfl, _, a, ?_⟩
    have : join (fun _ => none) h2 = h2 := by funext c; simp [join]
    rw [this]; exact q
  · exact .inr ⟨l, rfl, hl, _, a, h1, h2, hb, q, d, rfl⟩
/-- What leaves the bitmap alone, of a whole work. -/
theorem WXQ.lift {x : Wk σ} {bv : Value} {R : α → Value → Assn} {S : Hp} {F : Assn} {w : World} {st : Wst σ} : ∀ {p : Rs α × Wst σ} {e : Ending} {w' : World},
    WXQ x bv R S (bitsA st.bits bv * F) w p e w' → p.2.bits = st.bits → WQ x R S F w p e w'
  | (.ok a, st'), e, w', ⟨S', v, h1, h2, h3, h4⟩, hb => by
    refine ⟨S', v, h1, h2, h3, ?_⟩
    dsimp only at hb
    rw [← hb] at h4
    exact (Sat.workShut bv (h4.to (by ac_rfl) : Sat w' (workX x bv S' st' * (bitsA st'.bits bv * (R a v * (pool S' * F)))))).to (by ac_rfl)
  | (.bad c, st'), e, w', ⟨S', h1, h2, h3, h4⟩, hb => by
    refine ⟨S', h1, h2, h3, ?_⟩
    dsimp only at hb
    rw [← hb] at h4
    exact (Sat.workShut bv (h4.to (by ac_rfl) : Sat w' (workX x bv S' st' * (bitsA st'.bits bv * (pool S' * F)))))
theorem read_anyW (x : Wk σ) (hc : x.c.Ok) (w : World) (S : Hp) (st : Wst σ) (id : Int) (F : Assn) (h : Sat w (workA x S st * (pool S * F))) :
    Calls Try.prog 37 #[.pointer (some ⟨x.k, 0, none⟩), .int .i64 id] w (WQ x bytesR S F w (wread x.c.ask id st)) := by
  obtain ⟨v, h1⟩ := Sat.workOpen h
  refine (readX_any x hc w v S st id (bitsA st.bits v * F) (h1.to (by ac_rfl))).mono fun e w' h2 => WXQ.lift h2 (wread_bits _ _ _)
theorem writeR_E (err id : Int) (l : List UInt8) : writeR err id l = writeE err id l := rfl
set_option maxRecDepth 100000 in
set_option maxHeartbeats 1000000 in
theorem writeX_any (x : Wk σ) (w : World) (bv : Value) (S : Hp) (st : Wst σ) (id : Int) (dv : Value) (l : List UInt8) (F : Assn) (h : Sat w (workX x bv S st * (pool S * F))) (hr : Rd w dv l) :
    Calls Try.prog 33 #[.pointer (some ⟨x.k, 0, none⟩), .int .i64 id, dv] w (WXQ x bv unitR S F w (wwrite id l st)) := by
  have h0 : Sat w (batchA 95 5 S x.b x.c.rd st.b.err st.b.W st.b.D * (pool S * (x.c.RI st.b.s * (pt x.k (.cells (x.cells bv st.dt) 85 (0, 0)) * F)))) := h.to (by unfold workX btA; ac_rfl)
  have c0 : w.cell? ⟨x.k, 0, none⟩ = some (.pointer (some ⟨x.b, 0, none⟩)) := (h.to (by unfold workX; ac_rfl : _ = pt x.k (.cells (x.cells bv st.dt) 85 (0, 0)) * (btA x.c S x.b st.b * (pool S * F)))).cell 0
  have hw := write_any w S x.b x.c.rd st.b.err st.b.W st.b.D id dv l _ h0 hr
  obtain ⟨va, vc, rfl⟩ := hr.shape
  unfold WriteQ at hw
  rw [writeR_E] at hw
  unfold wwrite
  clear h h0 hr
  by_cases hz : writeE st.b.err id l = 0
  · rw [if_pos hz]
    have hW : writeW st.b.err id l st.b.W = SL.upd st.b.W id l := writeW_yes (by
      unfold writeE at hz
      split at hz
      · rename_i h9; exact absurd hz h9
      · rename_i h9
        split at hz
        · cases hz
        · rename_i h8
          exact ⟨Decidable.of_not_not h9, by omega, by omega⟩)
    rw [hz, hW] at hw
    have Hz := SL.hid hz
    clear hz hW
    go_enter Try.func33, Try.ntmps33
    go_wp2_with fail
    (with_reducible refine hw.mono ?_)
    rintro e w1 ⟨S', hS, rfl, h2, d2⟩
    clear hw c0
    go_wp2_with fail
    (with_reducible refine (check_ok w1).mono ?_)
    rintro e w2 ⟨rfl, rfl⟩
    go_wp2_with fail
    go_end0
    exact ⟨S', _, hS, d2, rfl, Sat.fact_iff.2 ⟨rfl, by unfold workX btA; exact h2.to (by ac_rfl)⟩⟩
  · rw [if_neg hz]
    have hW : writeW st.b.err id l st.b.W = st.b.W := writeW_no (by
      rintro ⟨h1, h2, h3⟩
      apply hz
      unfold writeE
      rw [if_neg (by simp [h1]), if_neg (by omega)])
    rw [hW] at hw
    have Hz := SL.hid hz
    clear hz hW
    generalize writeE st.b.err id l = c at *
    go_enter Try.func33, Try.ntmps33
    go_wp2_with fail
    (with_reducible refine hw.mono ?_)
    rintro e w1 ⟨S', hS, rfl, h2, d2⟩
    clear hw c0
    go_wp2_with fail
    (with_reducible refine (check_bad w1 c Hz.out).mono ?_)
    rintro e w2 ⟨rfl, rfl⟩
    go_wp2_with fail
    exact ⟨rfl, S', hS, d2, rfl, by unfold workX btA; exact h2.to (by ac_rfl)⟩
theorem write_anyW (x : Wk σ) (w : World) (S : Hp) (st : Wst σ) (id : Int) (dv : Value) (l : List UInt8) (F : Assn) (h : Sat w (workA x S st * (pool S * F))) (hr : Rd w dv l) :
    Calls Try.prog 33 #[.pointer (some ⟨x.k, 0, none⟩), .int .i64 id, dv] w (WQ x unitR S F w (wwrite id l st)) := by
  obtain ⟨v, h1⟩ := Sat.workOpen h
  refine (writeX_any x w v S st id dv l (bitsA st.bits v * F) (h1.to (by ac_rfl)) hr).mono fun e w' h2 => WXQ.lift h2 (wwrite_bits _ _ _)
/-- What bitmap comes to. -/
def BitsQ (x : Wk σ) (S : Hp) (F : Assn) (w : World) : Rs (List UInt8) × Wst σ → Ending → World → Prop
  | (.ok l, st'), e, w' => ∃ S' v, Ext S S' ∧ Side w w' ∧ e = .returned v ∧ l.length = 480 ∧ Sat w' (workX x v S' st' * (bs 5 v l * (pool S' * F)))
  | (.bad c, st'), e, w' => ∃ S', Ext S S' ∧ Side w w' ∧ e = .panicked (flt c) ∧ Sat w' (workA x S' st' * (pool S' * F))
set_option maxRecDepth 100000 in
set_option maxHeartbeats 1000000 in
theorem bitmap_any (x : Wk σ) (hc : x.c.Ok) (w : World) (S : Hp) (st : Wst σ) (F : Assn) (h : Sat w (workA x S st * (pool S * F))) :
    Calls Try.prog 50 #[.pointer (some ⟨x.k, 0, none⟩)] w (BitsQ x S F w (wbits x.c.ask st)) := by
  obtain ⟨v, h1⟩ := Sat.workOpen h
  obtain ⟨b, o, dt⟩ := st
  have c2 : w.cell? ⟨x.k, 2, none⟩ = some v := (h1.to (by unfold workX; ac_rfl : _ = pt x.k (.cells (x.cells v dt) 85 (0, 0)) * (btA x.c S x.b b * (bitsA o v * (pool S * F))))).cell 2
  rcases Sat.bitsCases (h1.to (by ac_rfl : _ = bitsA o v * (workX x v S ⟨b, o, dt⟩ * (pool S * F)))) with ⟨rfl, rfl, h2⟩ | ⟨l, rfl, hl, h2⟩
  · have hr := readX_any x hc w (.slice none 0 0) S ⟨b, none, dt⟩ 0 F h2
    have hq := fun w => Lib.run_eql_slice_nil (P := Try.prog) w 22 5 none 0 0 0 0 Try.underlying22
    have hl := fun l st' => wread_len (ask := x.c.ask) (id := 0) (st := ⟨b, none, dt⟩) (st' := st') (l := l)
    have hE : wbits x.c.ask ⟨b, none, dt⟩ = match wread x.c.ask 0 ⟨b, none, dt⟩ with | (.ok l, st') => (.ok l, { st' with bits := some l }) | (.bad c, st') => (.bad c, st') := rfl
    have hb := wread_bits x.c.ask 0 ⟨b, none, dt⟩
    rw [hE]
    clear hE h1 h h2
    generalize wread x.c.ask 0 ⟨b, none, dt⟩ = p at *
    obtain ⟨r, st'⟩ := p
    cases r with
    | ok l =>
      have hl2 := hl l st' rfl
      have Hl := SL.hid hl2
      dsimp only
      clear hl hl2 hb
      go_enter Try.func50, Try.ntmps50
      go_wp2_with fail
      (with_reducible refine hr.mono ?_)
      rintro e w1 ⟨S', v, hS, d2, rfl, h3⟩
      unfold bytesR at h3
      obtain ⟨va, vc, rfl⟩ := sl_shape h3
      rw [Hl.out] at h3 ⊢
      have h4 : Sat w1 (pt x.k (.cells (x.cells (.slice none 0 0) st'.dt) 85 (0, 0)) * (bs 5 (.slice va 480 vc) l * (btA x.c S' x.b st'.b * (pool S' * F)))) := h3.to (by unfold workX; ac_rfl)
      have f2 := h4.frozen 2
      have h5 := h4.setCell 2 (.slice va 480 vc)
      have g2 : w1.cell? ⟨x.k, 2, none⟩ = some (.slice none 0 0) := h4.cell 2
      clear hr c2 h3 h4
      go_wp2_with fail
      go_ret
      exact ⟨S', _, hS, d2.setCell _ _, rfl, Hl.out, by unfold workX; exact h5.to (by unfold Wk.cells; ac_rfl)⟩
    | bad c =>
      dsimp only
      dsimp only at hb
      go_enter Try.func50, Try.ntmps50
      go_wp2_with fail
      (with_reducible refine hr.mono ?_)
      rintro e w1 ⟨S', hS, d2, rfl, h3⟩
      clear hr c2
      go_wp2_with fail
      refine ⟨rfl, S', hS, d2, rfl, Sat.workShut (.slice none 0 0) ?_⟩
      rw [hb]
      exact (Sat.bitsNil h3).to (by ac_rfl)
  · have hE : wbits x.c.ask ⟨b, some l, dt⟩ = (.ok l, ⟨b, some l, dt⟩) := rfl
    rw [hE]
    obtain ⟨va, vc, rfl⟩ := sl_shape h2
    obtain ⟨g, rfl⟩ : ∃ g, va = some g := by
      rcases h2.slCases with ⟨_, h0, _⟩ | ⟨g, cap, cur, he, _⟩
      · omega
      · cases he; exact ⟨_, rfl⟩
    have Hl := SL.hid hl
    rw [hl] at h2 c2
    have hq := fun w => Lib.run_eql_slice_nil (P := Try.prog) w 22 5 (some g) 480 vc 0 0 Try.underlying22
    clear hE hl h h1
    go_enter Try.func50, Try.ntmps50
    go_wp2_with fail
    go_ret
    exact ⟨S, _, Ext.refl S, Side.refl w, rfl, Hl.out, h2.to (by ac_rfl)⟩
set_option maxRecDepth 100000 in
set_option maxHeartbeats 1000000 in
theorem mark_any (x : Wk σ) (hc : x.c.Ok) (w : World) (S : Hp) (st : Wst σ) (id : Nat) (t : Bool) (F : Assn) (hid : id < 3840) (h : Sat w (workA x S st * (pool S * F))) :
    Calls Try.prog 40 #[.pointer (some ⟨x.k, 0, none⟩), .int .i64 (id : Int), .bool t] w (WQ x unitR S F w (wmark x.c.ask id t st)) := by
  have hb := bitmap_any x hc w S st F h
  obtain ⟨⟨r, st'⟩, hp⟩ : ∃ p, wbits x.c.ask st = p := ⟨_, rfl⟩
  rw [hp] at hb
  clear h
  cases r with
  | ok l =>
    have hE : wmark x.c.ask id t st = wmarkK id t l st' := WM.bind_ok hp
    rw [hE]
    clear hE hp
    unfold wmarkK
    go_enter Try.func40, Try.ntmps40
    go_wp2_with fail
    (with_reducible refine hb.mono ?_)
    rintro e w1 ⟨S', v, hS, d1, rfl, hl, h2⟩
    have hs := set_any w1 v l (workX x v S' st' * (pool S' * F)) (h2.to (by ac_rfl)) hl id hid t
    have hsl := sl_shape (h2.front2)
    obtain ⟨va, vc, rfl⟩ := hsl
    have Hl := SL.hid hl
    rw [hl] at hs h2 ⊢
    clear hb hl
    go_wp2_with fail
    (with_reducible refine hs.mono ?_)
    rintro e w2 ⟨rfl, h3, d2⟩
    have h4 : Sat w2 (pt x.k (.cells (x.cells (.slice va 480 vc) st'.dt) 85 (0, 0)) * (btA x.c S' x.b st'.b * (bs 5 (.slice va 480 vc) (setTo l id t) * (pool S' * F)))) := h3.to (by unfold workX; ac_rfl)
    have f3 := h4.frozen 3
    have g3 : w2.cell? ⟨x.k, 3, none⟩ = some (.bool st'.dt) := h4.cell 3
    have h5 := h4.setCell 3 (.bool true)
    clear hs h2 h3 h4
    go_wp2_with fail
    go_end0
    refine ⟨S', _, hS, (d1.trans d2).setCell _ _, rfl, Sat.fact_iff.2 ⟨rfl, Sat.workShut (.slice va 480 vc) ?_⟩⟩
    have h6 := Sat.bitsSome (l := setTo l id t) (by rw [setTo_length]; exact Hl.out) h5.front3
    exact h6.to (by unfold workX Wk.cells; simp only [List.setIfInBounds_toArray, List.set_cons_succ, List.set_cons_zero]; ac_rfl)
  | bad c =>
    have hE : wmark x.c.ask id t st = (.bad c, st') := WM.bind_bad hp
    rw [hE]
    clear hE hp
    go_enter Try.func40, Try.ntmps40
    go_wp2_with fail
    (with_reducible refine hb.mono ?_)
    rintro e w1 ⟨S', hS, d1, rfl, h2⟩
    clear hb
    go_wp2_with fail
    exact ⟨rfl, S', hS, d1, rfl, h2⟩
theorem bitsLen {w : World} {x : Wk σ} {S : Hp} {st : Wst σ} {F : Assn} (h : Sat w (workA x S st * F)) : ∀ l, st.bits = some l → l.length = 480 := by
  intro l hl
  obtain ⟨v, h1⟩ := Sat.workOpen h
  rcases Sat.bitsCases (h1.to (by ac_rfl : _ = bitsA st.bits v * (workX x v S st * F))) with ⟨h2, _⟩ | ⟨l2, h2, h3, _⟩
  · rw [hl] at h2; cases h2
  · rw [hl] at h2; cases h2; exact h3
def takeO (v : Value) (l : List UInt8) (F : Assn) (w : World) : Option Nat → Ending → World → Prop
  | none, e, w' => e = .returned (.tuple #[.int .i64 0, .bool false]) ∧ Sat w' (bs 5 v l * F) ∧ Side w w'
  | some n, e, w' => e = .returned (.tuple #[.int .i64 (n : Int), .bool true]) ∧ Sat w' (bs 5 v (setTo l n true) * F) ∧ Side w w'
theorem takeO_any (w : World) (v : Value) (l : List UInt8) (F : Assn) (h : Sat w (bs 5 v l * F)) (hl : l.length = 480) (e : Nat) (he : e ≤ 3840) :
    Calls Try.prog 58 #[v, .int .i64 (e : Int)] w (takeO v l F w (freeOf l e)) := by
  refine take_any w v l F h hl e he _ (fun h1 w' h2 h3 => ?_) (fun n h1 w' h2 h3 => ?_)
  · rw [h1]; exact ⟨rfl, h2, h3⟩
  · rw [h1]; exact ⟨rfl, h2, h3⟩
def natR (a : Nat) (v : Value) : Assn := fact (v = .int .i64 (a : Int))
set_option maxRecDepth 100000 in
set_option maxHeartbeats 2000000 in
theorem wtake_any (x : Wk σ) (hc : x.c.Ok) (hn : x.n ≤ 3840) (w : World) (S : Hp) (st : Wst σ) (F : Assn) (h : Sat w (workA x S st * (pool S * F))) :
    Calls Try.prog 27 #[.pointer (some ⟨x.k, 0, none⟩)] w (WQ x natR S F w (wtake x.c.ask x.n st)) := by
  have hb := fun (w : World) h => bitmap_any x hc w S st F h
  obtain ⟨v0, h1⟩ := Sat.workOpen h
  have c1 : w.cell? ⟨x.k, 1, none⟩ = some (.int .i64 (x.n : Int)) := (h1.to (by unfold workX; ac_rfl : _ = pt x.k (.cells (x.cells v0 st.dt) 85 (0, 0)) * (btA x.c S x.b st.b * (bitsA st.bits v0 * (pool S * F))))).cell 1
  obtain ⟨⟨r, st'⟩, hp⟩ : ∃ p, wbits x.c.ask st = p := ⟨_, rfl⟩
  rw [hp] at hb
  clear h1
  cases r with
  | ok l =>
    have hE : wtake x.c.ask x.n st = wtakeK x.n l st' := WM.bind_ok hp
    have Hst := wbits_ok hp (bitsLen h)
    rw [hE]
    unfold wtakeK
    clear hE hp
    have ht := fun w v F h hl => takeO_any w v l F h hl x.n hn
    obtain ⟨o, ho⟩ : ∃ o, freeOf l x.n = o := ⟨_, rfl⟩
    rw [ho]
    rw [ho] at ht
    clear ho
    cases o with
    | some n =>
      unfold wtakeO
      unfold takeO at ht
      go_enter Try.func27, Try.ntmps27
      go_wp2_with fail
      go_region_held3 (fun w' => w'.cell? ⟨x.k, 1, none⟩ = some (.int .i64 (x.n : Int)))
        (first | exact c1 | exact k1 | exact k2 | go_keep)
        (first
          | (go_at_call 50; refine (hb w.drew h.drew).mono ?_; rintro e w1 ⟨S', v, hS, d1, rfl, hl, h2⟩; have k1 : w1.cell? ⟨x.k, 1, none⟩ = some (.int .i64 (x.n : Int)) := (h2.to (by unfold workX; ac_rfl : _ = pt x.k (.cells (x.cells v st'.dt) 85 (0, 0)) * (btA x.c S' x.b st'.b * (bs 5 v l * (pool S' * F))))).cell 1)
          | (go_at_call 58; refine (ht w1 v (workX x v S' st' * (pool S' * F)) (h2.to (by ac_rfl)) hl).mono ?_; rintro e w2 ⟨rfl, h3, d2⟩; have k2 : w2.cell? ⟨x.k, 1, none⟩ = some (.int .i64 (x.n : Int)) := (h3.to (by unfold workX; ac_rfl : _ = pt x.k (.cells (x.cells v st'.dt) 85 (0, 0)) * (btA x.c S' x.b st'.b * (bs 5 v (setTo l n true) * (pool S' * F))))).cell 1))
      clear c1 k1 k2 hb ht h h2
      have h4 : Sat w2 (pt x.k (.cells (x.cells v st'.dt) 85 (0, 0)) * (btA x.c S' x.b st'.b * (bs 5 v (setTo l n true) * (pool S' * F)))) := h3.to (by unfold workX; ac_rfl)
      have f3 := h4.frozen 3
      have g3 : w2.cell? ⟨x.k, 3, none⟩ = some (.bool st'.dt) := h4.cell 3
      have h5 := h4.setCell 3 (.bool true)
      have Hl := SL.hid hl
      clear h3 h4 hl
      go_wp2_with fail
      go_ret
      refine ⟨S', _, hS, (((Side.refl w).drew.trans d1).trans d2).setCell _ _, rfl, Sat.fact_iff.2 ⟨rfl, Sat.workShut v ?_⟩⟩
      have h6 := Sat.bitsSome (l := setTo l n true) (by rw [setTo_length]; exact Hl.out) h5.front3
      exact h6.to (by unfold workX Wk.cells; simp only [List.setIfInBounds_toArray, List.set_cons_succ, List.set_cons_zero]; ac_rfl)
    | none =>
      unfold wtakeO
      unfold takeO at ht
      go_enter Try.func27, Try.ntmps27
      go_wp2_with fail
      go_region_held3 (fun w' => w'.cell? ⟨x.k, 1, none⟩ = some (.int .i64 (x.n : Int)))
        (first | exact c1 | exact k1 | exact k2 | go_keep)
        (first
          | (go_at_call 50; refine (hb w.drew h.drew).mono ?_; rintro e w1 ⟨S', v, hS, d1, rfl, hl, h2⟩; have k1 : w1.cell? ⟨x.k, 1, none⟩ = some (.int .i64 (x.n : Int)) := (h2.to (by unfold workX; ac_rfl : _ = pt x.k (.cells (x.cells v st'.dt) 85 (0, 0)) * (btA x.c S' x.b st'.b * (bs 5 v l * (pool S' * F))))).cell 1)
          | (go_at_call 58; refine (ht w1 v (workX x v S' st' * (pool S' * F)) (h2.to (by ac_rfl)) hl).mono ?_; rintro e w2 ⟨rfl, h3, d2⟩; have k2 : w2.cell? ⟨x.k, 1, none⟩ = some (.int .i64 (x.n : Int)) := (h3.to (by unfold workX; ac_rfl : _ = pt x.k (.cells (x.cells v st'.dt) 85 (0, 0)) * (btA x.c S' x.b st'.b * (bs 5 v (l) * (pool S' * F))))).cell 1))
      clear c1 k1 k2 hb ht h h2
      have Hl := SL.hid hl
      clear hl
      go_wp2_with fail
      (with_reducible refine (check_bad w2 7 (by decide)).mono ?_)
      rintro e w3 ⟨rfl, rfl⟩
      go_wp2_with fail
      refine ⟨rfl, S', hS, ((Side.refl w).drew.trans d1).trans d2, rfl, Sat.workShut v ?_⟩
      obtain ⟨h8, _⟩ := Hst
      rw [h8]
      exact (Sat.bitsSome Hl.out h3).to (by ac_rfl)
  | bad c =>
    have hE : wtake x.c.ask x.n st = (.bad c, st') := WM.bind_bad hp
    rw [hE]
    clear hE hp
    go_enter Try.func27, Try.ntmps27
    go_wp2_with fail
    refine wp_region_held_drew (S := (fun w' => w'.cell? ⟨x.k, 1, none⟩ = some (.int .i64 (x.n : Int)))) (by kernel_rfl) ?_ (fun hHeld => ?_)
    · (first | exact c1 | go_keep)
    refine wpAnyH_take (i := 0) (v := ?_) rfl (by kernel_rfl) (by kernel_rfl) (by kernel_rfl) (fun _ _ _ h => h) (Or.inl ⟨by kernel_rfl, ?_⟩) (by assumption) ?_
    rotate_left
    · intro w hSw; (try dsimp only at hSw); go_simp; try with_reducible rfl
    try simp only [List.getElem_toArray, List.getElem_cons_succ, List.getElem_cons_zero, Act.put, List.setIfInBounds_toArray, List.set_cons_zero, List.set_cons_succ]
    refine wpAnyH_take (i := 2) (v := ?_) rfl (by kernel_rfl) (by kernel_rfl) (by kernel_rfl) (fun _ _ _ h => h) (Or.inl ⟨by kernel_rfl, ?_⟩) (by assumption) ?_
    rotate_left
    · intro w hSw; (try dsimp only at hSw); go_simp; try with_reducible rfl
    try simp only [List.getElem_toArray, List.getElem_cons_succ, List.getElem_cons_zero, Act.put, List.setIfInBounds_toArray, List.set_cons_zero, List.set_cons_succ]
    refine wpAnyH_take (i := 3) (v := ?_) rfl (by kernel_rfl) (by kernel_rfl) (by kernel_rfl) (fun _ _ _ h => h) (Or.inl ⟨by kernel_rfl, ?_⟩) (by assumption) ?_
    rotate_left
    · intro w hSw; (try dsimp only at hSw); go_simp; try with_reducible rfl
    try simp only [List.getElem_toArray, List.getElem_cons_succ, List.getElem_cons_zero, Act.put, List.setIfInBounds_toArray, List.set_cons_zero, List.set_cons_succ]
    refine wpAnyH_take (i := 4) (v := ?_) rfl (by kernel_rfl) (by kernel_rfl) (by kernel_rfl) (fun _ _ _ h => h) (Or.inl ⟨by kernel_rfl, ?_⟩) (by assumption) ?_
    rotate_left
    · intro w hSw; (try dsimp only at hSw); go_simp; try with_reducible rfl
    try simp only [List.getElem_toArray, List.getElem_cons_succ, List.getElem_cons_zero, Act.put, List.setIfInBounds_toArray, List.set_cons_zero, List.set_cons_succ]
    refine wpAnyH_take (i := 5) (v := ?_) rfl (by kernel_rfl) (by kernel_rfl) (by kernel_rfl) (fun _ _ _ h => h) (Or.inl ⟨by kernel_rfl, ?_⟩) (by assumption) ?_
    rotate_left
    · intro w hSw; (try dsimp only at hSw); go_simp; try with_reducible rfl
    try simp only [List.getElem_toArray, List.getElem_cons_succ, List.getElem_cons_zero, Act.put, List.setIfInBounds_toArray, List.set_cons_zero, List.set_cons_succ]
    refine wpAnyH_ready (rs := [1]) (by kernel_rfl) (by simp) ?_
    refine AllReadyH.cons rfl (fun K hK => ?_) AllReadyH.nil
    go_simp
    go_wp2_with (go_at_call 50; refine (hb w.drew h.drew).mono ?_; rintro e w1 ⟨S', hS, d1, rfl, h2⟩)
    exact ⟨rfl, S', hS, (Side.refl w).drew.trans d1, rfl, h2⟩
end
end Go.Proofs.Ytaoohjeaaccnfaa.Fs

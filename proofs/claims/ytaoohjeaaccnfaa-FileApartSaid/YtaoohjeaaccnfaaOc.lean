/- file: open, a block of a file that is written to. -/
import Derived.Test.YtaoohjeaaccnfaaOb
namespace Go.SL
set_option linter.unusedVariables false
set_option linter.unusedSimpArgs false
open Go.RowKit
section
variable {σ : Type}
def wopen2 (ask : Asks σ) (n : Nat) (h : Hd) (i : Nat) : WM σ (Hd × Int × List UInt8) := wtake ask n ⇝ fun b => WM.pure (h.put i (b : Int), (b : Int), zs 480)
def wopen (ask : Asks σ) (n : Nat) (h : Hd) (i : Nat) (wh : Bool) : WM σ (Hd × Int × List UInt8) := fun st =>
  if h.page i = 0 then (if 16 ≤ i ∧ h.n.rw = 0 then (wtake ask n ⇝ fun r => wopen2 ask n (h.setRw (r : Int)) i) st else wopen2 ask n h i st)
  else if wh = true then (.ok (h, h.page i, zs 480), st) else (wread ask (h.page i) ⇝ fun L => WM.pure (h, h.page i, L)) st
end
end Go.SL
namespace Go.Proofs.Ytaoohjeaaccnfaa.Fs
set_option linter.unusedVariables false
set_option linter.unusedSimpArgs false
open Go.RowKit Go.SL Go.Proofs.Ytaoohjeaaccnfaa.Ba
section
variable {σ α : Type}
def OpenQ (x : Wk σ) (hb : Nat) (S : Hp) (F : Assn) (w : World) : Rs (Hd × Int × List UInt8) × Wst σ → Ending → World → Prop
  | (.ok p, st'), e, w' => ∃ S' v, Ext S S' ∧ Side w w' ∧ p.2.2.length = 480 ∧ e = .returned (.tuple #[.int .i64 p.2.1, v]) ∧ Sat w' (bs 5 v p.2.2 * (heldA hb p.1 * (workA x S' st' * (pool S' * F))))
  | (.bad c, st'), e, w' => ∃ S' h', Ext S S' ∧ Side w w' ∧ e = .panicked (flt c) ∧ Sat w' (heldA hb h' * (workA x S' st' * (pool S' * F)))
set_option maxRecDepth 100000 in
set_option maxHeartbeats 4000000 in
theorem open_any (x : Wk σ) (hc : x.c.Ok) (hn : x.n ≤ 3840) (w : World) (S : Hp) (st : Wst σ) (hb : Nat) (h : Hd) (i : Nat) (wh : Bool) (F : Assn) (hi : i < 256) (hs : Sat w (heldA hb h * (workA x S st * (pool S * F)))) :
    Calls Try.prog 32 #[.pointer (some ⟨x.k, 0, none⟩), .pointer (some ⟨hb, 0, none⟩), .int .i64 (i : Int), .bool wh] w (OpenQ x hb S F w (wopen x.c.ask x.n h i wh st)) := by
  refine callsQ fun Q HQ => ?_
  have hpg := page_any w hb h _ hs i hi
  unfold IntQ at hpg
  have hi2 : (i : Int) < 256 := by omega
  obtain ⟨T, hT⟩ : ∃ T, wopen x.c.ask x.n h i wh st = T := ⟨_, rfl⟩
  rw [hT] at HQ
  have hmk : ∀ w, (Instr.makeSlice 22 (.int .i64 480) (.int .i64 480)).run Try.prog w = .ok (.slice (some ⟨w.heap.size, 0, none⟩) 480 480) (w.alloc (.cells (u8s (zs 480)) 5 (0, 0))) := make_bytes 480 (by omega)
  have hf := (Sat.held.1 hs).1
  have c20 : w.cell? ⟨hb, 20, none⟩ = some (.int .i64 h.n.rw) := held_rw hf (Sat.held.1 hs).2
  have Hs := SL.hid hs; have Hf := SL.hid hf
  clear hs hf
  by_cases h0 : h.page i = 0
  · rw [h0] at hpg
    by_cases hr : 16 ≤ i ∧ h.n.rw = 0
    · have hT2 : (wtake x.c.ask x.n ⇝ fun r => wopen2 x.c.ask x.n (h.setRw (r : Int)) i) st = T := ((if_pos h0).trans (if_pos hr)).symm.trans hT
      have hlt : 16 ≤ (i : Int) := by omega
      have ht := wtake_any x hc hn w S st _ (Hs.out.to (by ac_rfl : _ = workA x S st * (pool S * (heldA hb h * F))))
      obtain ⟨⟨r1, st1⟩, hp⟩ : ∃ p, wtake x.c.ask x.n st = p := ⟨_, rfl⟩
      rw [hp] at ht
      rw [hr.2] at c20
      cases r1 with
      | bad cN =>
        have HE := SL.hid ((WM.bind_bad hp).symm.trans hT2)
        clear hT hT2 h0 hr hp
        go_enter Try.func32, Try.ntmps32
        go_wp2_with fail
        (with_reducible refine hpg.mono ?_)
        rintro e w2 ⟨rfl, rfl⟩
        go_wp2_with fail
        (with_reducible refine ht.mono ?_)
        rintro e w2 ⟨S', hS, d2, rfl, h2⟩
        go_wp2_with fail
        exact ⟨rfl, HQ.out _ _ (by rw [← HE.out]; exact ⟨S', h, hS, d2, rfl, h2.to (by ac_rfl)⟩)⟩
      | ok r =>
        have HE := SL.hid ((WM.bind_ok hp).symm.trans hT2)
        clear hT hT2 h0 hr hp
        go_enter Try.func32, Try.ntmps32
        go_wp2_with fail
        (with_reducible refine hpg.mono ?_)
        rintro e w2 ⟨rfl, rfl⟩
        go_wp2_with fail
        (with_reducible refine ht.mono ?_)
        rintro e w2 ⟨S', v, hS, d2, rfl, h2⟩
        obtain ⟨rfl, h3⟩ := Sat.fact_iff.1 h2
        have h4 := h3.to (by ac_rfl : _ = heldA hb h * (workA x S' st1 * (pool S' * F)))
        have c20b := (held_cell h4 (j := 20) (by decide)).1
        have f20b := (held_cell h4 (j := 20) (by decide)).2
        generalize h.l.getD 20 0 = y20 at *
        have h5 := held_set (h' := h.setRw (r : Int)) h4 (j := 20) (z := (r : Int)) Hf.out (Hd.setRw_l Hf.out _)
        have d5 := d2.setCell ⟨hb, 20, none⟩ (.int .i64 (r : Int))
        have ht2 := wtake_any x hc hn _ S' st1 _ (h5.to (by ac_rfl : _ = workA x S' st1 * (pool S' * (heldA hb (h.setRw (r : Int)) * F))))
        have Ht2 := SL.hid ht2
        clear h2 h3 h4 ht ht2 c20
        go_wp2_with fail
        generalize w2.setCell ⟨hb, 20, none⟩ (.int .i64 (r : Int)) = w3 at *
        clear h5
        refine Ht2.out.mono ?_
        generalize h.setRw (r : Int) = hk at *
        obtain ⟨⟨r6, st6⟩, hp6⟩ : ∃ p, wtake x.c.ask x.n st1 = p := ⟨_, rfl⟩
        rw [hp6]
        cases r6 with
        | bad cN =>
          have HE2 := SL.hid ((WM.bind_bad hp6).symm.trans HE.out)
          rintro e w6 ⟨S6, hS6, d6, rfl, h6⟩
          clear Ht2 hp6
          go_wp2_with fail
          exact ⟨rfl, HQ.out _ _ (by rw [← HE2.out]; exact ⟨S6, hk, hS.trans hS6, d5.trans d6, rfl, h6.to (by ac_rfl)⟩)⟩
        | ok b =>
          have HE2 := SL.hid ((WM.bind_ok hp6).symm.trans HE.out)
          rintro e w6 ⟨S6, v6, hS6, d6, rfl, h6⟩
          obtain ⟨rfl, h7⟩ := Sat.fact_iff.1 h6
          have hpu := puth_any w6 hb hk _ (h7.to (by ac_rfl : _ = heldA hb hk * (workA x S6 st6 * (pool S6 * F)))) i hi (b : Int)
          clear Ht2 hp6 h6 h7
          go_wp2_with fail
          (with_reducible refine hpu.mono ?_)
          rintro e w7 ⟨rfl, h8, d8⟩
          go_wp2_with fail
          have hB := bs_made 480 (by decide) h8.drew
          have D9 := SL.hid ((((d5.trans d6).trans d8).drew).alloc (.cells (u8s (zs 480)) 5 (0, 0)))
          have HB := SL.hid hB
          clear h8 hB
          go_region_held3 (fun _ => True) (trivial) (fail)
          all_goals
            go_wp2_with fail
            exact HQ.out _ _ (by rw [← HE2.out]; exact ⟨S6, _, hS.trans hS6, D9.out, length_zs 480, rfl, HB.out⟩)
    · have hT2 : wopen2 x.c.ask x.n h i st = T := ((if_pos h0).trans (if_neg hr)).symm.trans hT
      have HE := SL.hid hT2
      have ht2 := wtake_any x hc hn w S st _ (Hs.out.to (by ac_rfl : _ = workA x S st * (pool S * (heldA hb h * F))))
      have Ht2 := SL.hid ht2
      obtain ⟨bb, hbb⟩ : ∃ b, b = decide (16 ≤ (i : Int)) := ⟨_, rfl⟩
      cases bb with
      | false =>
        have hlt : ¬ 16 ≤ (i : Int) := by simpa using hbb
        clear hT hT2 h0 hr ht2 hbb
        go_enter Try.func32, Try.ntmps32
        go_wp2_with fail
        (with_reducible refine hpg.mono ?_)
        rintro e w2 ⟨rfl, rfl⟩
        go_wp2_with fail
        refine Ht2.out.mono ?_
        obtain ⟨⟨r6, st6⟩, hp6⟩ : ∃ p, wtake x.c.ask x.n st = p := ⟨_, rfl⟩
        rw [hp6]
        cases r6 with
        | bad cN =>
          have HE2 := SL.hid ((WM.bind_bad hp6).symm.trans HE.out)
          rintro e w6 ⟨S6, hS6, d6, rfl, h6⟩
          clear Ht2 hp6
          go_wp2_with fail
          exact ⟨rfl, HQ.out _ _ (by rw [← HE2.out]; exact ⟨S6, h, hS6, d6, rfl, h6.to (by ac_rfl)⟩)⟩
        | ok b =>
          have HE2 := SL.hid ((WM.bind_ok hp6).symm.trans HE.out)
          rintro e w6 ⟨S6, v6, hS6, d6, rfl, h6⟩
          obtain ⟨rfl, h7⟩ := Sat.fact_iff.1 h6
          have hpu := puth_any w6 hb h _ (h7.to (by ac_rfl : _ = heldA hb h * (workA x S6 st6 * (pool S6 * F)))) i hi (b : Int)
          clear Ht2 hp6 h6 h7
          go_wp2_with fail
          (with_reducible refine hpu.mono ?_)
          rintro e w7 ⟨rfl, h8, d8⟩
          go_wp2_with fail
          have hB := bs_made 480 (by decide) h8.drew
          have D9 := SL.hid (((d6.trans d8).drew).alloc (.cells (u8s (zs 480)) 5 (0, 0)))
          have HB := SL.hid hB
          clear h8 hB
          go_region_held3 (fun _ => True) (trivial) (fail)
          all_goals
            go_wp2_with fail
            exact HQ.out _ _ (by rw [← HE2.out]; exact ⟨S6, _, hS6, D9.out, length_zs 480, rfl, HB.out⟩)
      | true =>
        have hlt : 16 ≤ (i : Int) := by simpa using hbb
        have hrw : (h.n.rw == 0) = false := by simp only [beq_eq_false_iff_ne]; intro h9; exact hr ⟨by omega, h9⟩
        clear hT hT2 h0 hr ht2 hbb
        generalize h.n.rw = rw0 at *
        go_enter Try.func32, Try.ntmps32
        go_wp2_with fail
        (with_reducible refine hpg.mono ?_)
        rintro e w2 ⟨rfl, rfl⟩
        go_wp2_with fail
        refine Ht2.out.mono ?_
        obtain ⟨⟨r6, st6⟩, hp6⟩ : ∃ p, wtake x.c.ask x.n st = p := ⟨_, rfl⟩
        rw [hp6]
        cases r6 with
        | bad cN =>
          have HE2 := SL.hid ((WM.bind_bad hp6).symm.trans HE.out)
          rintro e w6 ⟨S6, hS6, d6, rfl, h6⟩
          clear Ht2 hp6
          go_wp2_with fail
          exact ⟨rfl, HQ.out _ _ (by rw [← HE2.out]; exact ⟨S6, h, hS6, d6, rfl, h6.to (by ac_rfl)⟩)⟩
        | ok b =>
          have HE2 := SL.hid ((WM.bind_ok hp6).symm.trans HE.out)
          rintro e w6 ⟨S6, v6, hS6, d6, rfl, h6⟩
          obtain ⟨rfl, h7⟩ := Sat.fact_iff.1 h6
          have hpu := puth_any w6 hb h _ (h7.to (by ac_rfl : _ = heldA hb h * (workA x S6 st6 * (pool S6 * F)))) i hi (b : Int)
          clear Ht2 hp6 h6 h7
          go_wp2_with fail
          (with_reducible refine hpu.mono ?_)
          rintro e w7 ⟨rfl, h8, d8⟩
          go_wp2_with fail
          have hB := bs_made 480 (by decide) h8.drew
          have D9 := SL.hid (((d6.trans d8).drew).alloc (.cells (u8s (zs 480)) 5 (0, 0)))
          have HB := SL.hid hB
          clear h8 hB
          go_region_held3 (fun _ => True) (trivial) (fail)
          all_goals
            go_wp2_with fail
            exact HQ.out _ _ (by rw [← HE2.out]; exact ⟨S6, _, hS6, D9.out, length_zs 480, rfl, HB.out⟩)
  · have h1 : (h.page i != 0) = true := by simpa using h0
    cases wh with
    | true =>
      have HE := SL.hid (((if_neg h0).trans (if_pos rfl)).symm.trans hT)
      have hB := bs_made 480 (by decide) Hs.out.drew
      have D9 := SL.hid (((Side.refl w).drew).alloc (.cells (u8s (zs 480)) 5 (0, 0)))
      have HB := SL.hid hB
      clear hT h0 hB c20
      generalize h.page i = y at *
      go_enter Try.func32, Try.ntmps32
      go_wp2_with fail
      (with_reducible refine hpg.mono ?_)
      rintro e w2 ⟨rfl, rfl⟩
      go_wp2_with fail
      go_region_held3 (fun _ => True) (trivial) (fail)
      all_goals
        go_wp2_with fail
        exact HQ.out _ _ (by rw [← HE.out]; exact ⟨S, _, Ext.refl S, D9.out, length_zs 480, rfl, HB.out⟩)
    | false =>
      have hT2 := ((if_neg h0).trans (if_neg (by decide))).symm.trans hT
      have hrd := read_anyW x hc w S st (h.page i) _ (Hs.out.to (by ac_rfl : _ = workA x S st * (pool S * (heldA hb h * F))))
      obtain ⟨⟨r1, st1⟩, hp⟩ : ∃ p, wread x.c.ask (h.page i) st = p := ⟨_, rfl⟩
      rw [hp] at hrd
      cases r1 with
      | bad cN =>
        have HE := SL.hid ((WM.bind_bad hp).symm.trans hT2)
        clear hT hT2 h0 hp c20
        generalize h.page i = y at *
        go_enter Try.func32, Try.ntmps32
        go_wp2_with fail
        (with_reducible refine hpg.mono ?_)
        rintro e w2 ⟨rfl, rfl⟩
        go_wp2_with fail
        (with_reducible refine hrd.mono ?_)
        rintro e w2 ⟨S', hS, d2, rfl, h2⟩
        go_wp2_with fail
        exact ⟨rfl, HQ.out _ _ (by rw [← HE.out]; exact ⟨S', h, hS, d2, rfl, h2.to (by ac_rfl)⟩)⟩
      | ok L =>
        have HE := SL.hid ((WM.bind_ok hp).symm.trans hT2)
        have HL := SL.hid (wread_len hp)
        clear hT hT2 h0 hp c20
        generalize h.page i = y at *
        go_enter Try.func32, Try.ntmps32
        go_wp2_with fail
        (with_reducible refine hpg.mono ?_)
        rintro e w2 ⟨rfl, rfl⟩
        go_wp2_with fail
        (with_reducible refine hrd.mono ?_)
        rintro e w2 ⟨S', v, hS, d2, rfl, h2⟩
        unfold bytesR at h2
        have h3 := SL.hid (h2.to (by ac_rfl : _ = bs 5 v L * (heldA hb h * (workA x S' st1 * (pool S' * F)))))
        obtain ⟨va, vc, rfl⟩ := sl_shape h2
        clear h2 hrd
        go_wp2_with fail
        exact HQ.out _ _ (by rw [← HE.out]; exact ⟨S', _, hS, d2, HL.out, rfl, h3.out⟩)
end
end Go.Proofs.Ytaoohjeaaccnfaa.Fs

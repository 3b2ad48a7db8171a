/- file: open, a block of a file that is written to. file: WriteAt's job. -/
import Derived.Test.YtaoohjeaaccnfaaGreatOb
import Derived.DataElems
import Derived.Deep.RegionLaw
namespace Go.SL
set_option linter.unusedVariables false
set_option linter.unusedSimpArgs false
open Go.RowKit
section
variable {σ : Type}
def wopen2 (ask : Asks σ) (n : Nat) (h : Hd) (i : Nat) : WM σ (Hd × Int × List UInt8) := WM.bind (wtake ask n) fun b => WM.pure (h.put i (b : Int), (b : Int), zs 480)
def wopen (ask : Asks σ) (n : Nat) (h : Hd) (i : Nat) (wh : Bool) : WM σ (Hd × Int × List UInt8) := fun st =>
  if h.page i = 0 then (if 16 ≤ i ∧ h.n.rw = 0 then (WM.bind (wtake ask n) fun r => wopen2 ask n (h.setRw (r : Int)) i) st else wopen2 ask n h i st)
  else if wh = true then (.ok (h, h.page i, zs 480), st) else (WM.bind (wread ask (h.page i)) fun L => WM.pure (h, h.page i, L)) st
end
end Go.SL
namespace Go.Proofs.YtaoohjeaaccnfaaGreat.Fs
set_option linter.unusedVariables false
set_option linter.unusedSimpArgs false
open Go.RowKit Go.SL Go.Proofs.YtaoohjeaaccnfaaGreat.Ba
section
variable {σ α : Type}
def OpenQ (x : Wk σ) (hb : Nat) (S : Hp) (F : Assn) (w : World) : Rs (Hd × Int × List UInt8) × Wst σ → Ending → World → Prop
  | (.ok p, st'), e, w' => ∃ S' v, Ext S S' ∧ Side w w' ∧ p.2.2.length = 480 ∧ e = .returned (.tuple #[.int .i64 p.2.1, v]) ∧ Sat w' (bs 5 v p.2.2 * (heldA hb p.1 * (workA x S' st' * (pool S' * F))))
  | (.bad c, st'), e, w' => ∃ S' h', Ext S S' ∧ Side w w' ∧ e = .panicked (flt c) ∧ Sat w' (heldA hb h' * (workA x S' st' * (pool S' * F)))
set_option maxRecDepth 100000 in
set_option maxHeartbeats 4000000 in
theorem open_any (x : Wk σ) (hc : x.c.Ok) (hn : x.n ≤ 3840) (w : World) (S : Hp) (st : Wst σ) (hb : Nat) (h : Hd) (i : Nat) (wh : Bool) (F : Assn) (hi : i < 256) (hs : Sat w (heldA hb h * (workA x S st * (pool S * F)))) :
    Calls Tryz.prog 55 #[.pointer (some ⟨x.k, 0, none⟩), .pointer (some ⟨hb, 0, none⟩), .int .i64 (i : Int), .bool wh] w (OpenQ x hb S F w (wopen x.c.ask x.n h i wh st)) := by
  refine callsQ fun Q HQ => ?_
  have hpg := page_any w hb h _ hs i hi
  unfold IntQ at hpg
  have hi2 : (i : Int) < 256 := by omega
  obtain ⟨T, hT⟩ : ∃ T, wopen x.c.ask x.n h i wh st = T := ⟨_, rfl⟩
  rw [hT] at HQ
  have hmk : ∀ w, (Instr.makeSlice 48 (.int .i64 480) (.int .i64 480)).run Tryz.prog w = .ok (.slice (some ⟨w.heap.size, 0, none⟩) 480 480) (w.alloc (.cells (u8s (zs 480)) 5 (0, 0))) := make_bytes 480 (by omega)
  have hf := (Sat.held.1 hs).1
  have c20 : w.cell? ⟨hb, 20, none⟩ = some (.int .i64 h.n.rw) := held_rw hf (Sat.held.1 hs).2
  have Hs := SL.hid hs; have Hf := SL.hid hf
  clear hs hf
  by_cases h0 : h.page i = 0
  · rw [h0] at hpg
    by_cases hr : 16 ≤ i ∧ h.n.rw = 0
    · have hT2 : (WM.bind (wtake x.c.ask x.n) fun r => wopen2 x.c.ask x.n (h.setRw (r : Int)) i) st = T := ((if_pos h0).trans (if_pos hr)).symm.trans hT
      have hlt : 16 ≤ (i : Int) := by omega
      have ht := wtake_any x hc hn w S st _ (Hs.out.to (by ac_rfl : _ = workA x S st * (pool S * (heldA hb h * F))))
      obtain ⟨⟨r1, st1⟩, hp⟩ : ∃ p, wtake x.c.ask x.n st = p := ⟨_, rfl⟩
      rw [hp] at ht
      rw [hr.2] at c20
      cases r1 with
      | bad cN =>
        have HE := SL.hid ((WM.bind_bad hp).symm.trans hT2)
        clear hT hT2 h0 hr hp
        go_enter Tryz.func55, Tryz.ntmps55
        go_wp2_with fail
        (with_reducible refine hpg.mono ?_)
        rintro e w2 ⟨rfl, rfl⟩
        go_wp2_with fail
        (with_reducible refine ht.mono ?_)
        rintro e w2 ⟨S', hS, d2, rfl, h2⟩
        go_wp2_with fail
        exact ⟨rfl, HQ.out _ _ (by rw [← HE.out]; exact ⟨S', h, hS, d2, rfl, h2.to (by ac_rfl)⟩)⟩
      | ok r =>
        have HE := SL.hid ((WM.bind_ok hp).symm.trans hT2)
        clear hT hT2 h0 hr hp
        go_enter Tryz.func55, Tryz.ntmps55
        go_wp2_with fail
        (with_reducible refine hpg.mono ?_)
        rintro e w2 ⟨rfl, rfl⟩
        go_wp2_with fail
        (with_reducible refine ht.mono ?_)
        rintro e w2 ⟨S', v, hS, d2, rfl, h2⟩
        obtain ⟨rfl, h3⟩ := Sat.fact_iff.1 h2
        have h4 := h3.to (by ac_rfl : _ = heldA hb h * (workA x S' st1 * (pool S' * F)))
        have c20b := (held_cell h4 (j := 20) (by decide)).1
        have f20b := (held_cell h4 (j := 20) (by decide)).2
        generalize h.l.getD 20 0 = y20 at *
        have h5 := held_set (h' := h.setRw (r : Int)) h4 (j := 20) (z := (r : Int)) Hf.out (Hd.setRw_l Hf.out _)
        have d5 := d2.setCell ⟨hb, 20, none⟩ (.int .i64 (r : Int))
        have ht2 := wtake_any x hc hn _ S' st1 _ (h5.to (by ac_rfl : _ = workA x S' st1 * (pool S' * (heldA hb (h.setRw (r : Int)) * F))))
        have Ht2 := SL.hid ht2
        clear h2 h3 h4 ht ht2 c20
        go_wp2_with fail
        generalize w2.setCell ⟨hb, 20, none⟩ (.int .i64 (r : Int)) = w3 at *
        clear h5
        refine Ht2.out.mono ?_
        generalize h.setRw (r : Int) = hk at *
        obtain ⟨⟨r6, st6⟩, hp6⟩ : ∃ p, wtake x.c.ask x.n st1 = p := ⟨_, rfl⟩
        rw [hp6]
        cases r6 with
        | bad cN =>
          have HE2 := SL.hid ((WM.bind_bad hp6).symm.trans HE.out)
          rintro e w6 ⟨S6, hS6, d6, rfl, h6⟩
          clear Ht2 hp6
          go_wp2_with fail
          exact ⟨rfl, HQ.out _ _ (by rw [← HE2.out]; exact ⟨S6, hk, hS.trans hS6, d5.trans d6, rfl, h6.to (by ac_rfl)⟩)⟩
        | ok b =>
          have HE2 := SL.hid ((WM.bind_ok hp6).symm.trans HE.out)
          rintro e w6 ⟨S6, v6, hS6, d6, rfl, h6⟩
          obtain ⟨rfl, h7⟩ := Sat.fact_iff.1 h6
          have hpu := puth_any w6 hb hk _ (h7.to (by ac_rfl : _ = heldA hb hk * (workA x S6 st6 * (pool S6 * F)))) i hi (b : Int)
          clear Ht2 hp6 h6 h7
          go_wp2_with fail
          (with_reducible refine hpu.mono ?_)
          rintro e w7 ⟨rfl, h8, d8⟩
          go_wp2_with fail
          have hB := bs_made 480 (by decide) h8.drew
          have D9 := SL.hid ((((d5.trans d6).trans d8).drew).alloc (.cells (u8s (zs 480)) 5 (0, 0)))
          have HB := SL.hid hB
          clear h8 hB
          go_region_held3 (fun _ => True) (trivial) (fail)
          all_goals
            go_wp2_with fail
            exact HQ.out _ _ (by rw [← HE2.out]; exact ⟨S6, _, hS.trans hS6, D9.out, length_zs 480, rfl, HB.out⟩)
    · have hT2 : wopen2 x.c.ask x.n h i st = T := ((if_pos h0).trans (if_neg hr)).symm.trans hT
      have HE := SL.hid hT2
      have ht2 := wtake_any x hc hn w S st _ (Hs.out.to (by ac_rfl : _ = workA x S st * (pool S * (heldA hb h * F))))
      have Ht2 := SL.hid ht2
      obtain ⟨bb, hbb⟩ : ∃ b, b = decide (16 ≤ (i : Int)) := ⟨_, rfl⟩
      cases bb with
      | false =>
        have hlt : ¬ 16 ≤ (i : Int) := by simpa using hbb
        clear hT hT2 h0 hr ht2 hbb
        go_enter Tryz.func55, Tryz.ntmps55
        go_wp2_with fail
        (with_reducible refine hpg.mono ?_)
        rintro e w2 ⟨rfl, rfl⟩
        go_wp2_with fail
        refine Ht2.out.mono ?_
        obtain ⟨⟨r6, st6⟩, hp6⟩ : ∃ p, wtake x.c.ask x.n st = p := ⟨_, rfl⟩
        rw [hp6]
        cases r6 with
        | bad cN =>
          have HE2 := SL.hid ((WM.bind_bad hp6).symm.trans HE.out)
          rintro e w6 ⟨S6, hS6, d6, rfl, h6⟩
          clear Ht2 hp6
          go_wp2_with fail
          exact ⟨rfl, HQ.out _ _ (by rw [← HE2.out]; exact ⟨S6, h, hS6, d6, rfl, h6.to (by ac_rfl)⟩)⟩
        | ok b =>
          have HE2 := SL.hid ((WM.bind_ok hp6).symm.trans HE.out)
          rintro e w6 ⟨S6, v6, hS6, d6, rfl, h6⟩
          obtain ⟨rfl, h7⟩ := Sat.fact_iff.1 h6
          have hpu := puth_any w6 hb h _ (h7.to (by ac_rfl : _ = heldA hb h * (workA x S6 st6 * (pool S6 * F)))) i hi (b : Int)
          clear Ht2 hp6 h6 h7
          go_wp2_with fail
          (with_reducible refine hpu.mono ?_)
          rintro e w7 ⟨rfl, h8, d8⟩
          go_wp2_with fail
          have hB := bs_made 480 (by decide) h8.drew
          have D9 := SL.hid (((d6.trans d8).drew).alloc (.cells (u8s (zs 480)) 5 (0, 0)))
          have HB := SL.hid hB
          clear h8 hB
          go_region_held3 (fun _ => True) (trivial) (fail)
          all_goals
            go_wp2_with fail
            exact HQ.out _ _ (by rw [← HE2.out]; exact ⟨S6, _, hS6, D9.out, length_zs 480, rfl, HB.out⟩)
      | true =>
        have hlt : 16 ≤ (i : Int) := by simpa using hbb
        have hrw : (h.n.rw == 0) = false := by simp only [beq_eq_false_iff_ne]; intro h9; exact hr ⟨by omega, h9⟩
        clear hT hT2 h0 hr ht2 hbb
        generalize h.n.rw = rw0 at *
        go_enter Tryz.func55, Tryz.ntmps55
        go_wp2_with fail
        (with_reducible refine hpg.mono ?_)
        rintro e w2 ⟨rfl, rfl⟩
        go_wp2_with fail
        refine Ht2.out.mono ?_
        obtain ⟨⟨r6, st6⟩, hp6⟩ : ∃ p, wtake x.c.ask x.n st = p := ⟨_, rfl⟩
        rw [hp6]
        cases r6 with
        | bad cN =>
          have HE2 := SL.hid ((WM.bind_bad hp6).symm.trans HE.out)
          rintro e w6 ⟨S6, hS6, d6, rfl, h6⟩
          clear Ht2 hp6
          go_wp2_with fail
          exact ⟨rfl, HQ.out _ _ (by rw [← HE2.out]; exact ⟨S6, h, hS6, d6, rfl, h6.to (by ac_rfl)⟩)⟩
        | ok b =>
          have HE2 := SL.hid ((WM.bind_ok hp6).symm.trans HE.out)
          rintro e w6 ⟨S6, v6, hS6, d6, rfl, h6⟩
          obtain ⟨rfl, h7⟩ := Sat.fact_iff.1 h6
          have hpu := puth_any w6 hb h _ (h7.to (by ac_rfl : _ = heldA hb h * (workA x S6 st6 * (pool S6 * F)))) i hi (b : Int)
          clear Ht2 hp6 h6 h7
          go_wp2_with fail
          (with_reducible refine hpu.mono ?_)
          rintro e w7 ⟨rfl, h8, d8⟩
          go_wp2_with fail
          have hB := bs_made 480 (by decide) h8.drew
          have D9 := SL.hid (((d6.trans d8).drew).alloc (.cells (u8s (zs 480)) 5 (0, 0)))
          have HB := SL.hid hB
          clear h8 hB
          go_region_held3 (fun _ => True) (trivial) (fail)
          all_goals
            go_wp2_with fail
            exact HQ.out _ _ (by rw [← HE2.out]; exact ⟨S6, _, hS6, D9.out, length_zs 480, rfl, HB.out⟩)
  · have h1 : (h.page i != 0) = true := by simpa using h0
    cases wh with
    | true =>
      have HE := SL.hid (((if_neg h0).trans (if_pos rfl)).symm.trans hT)
      have hB := bs_made 480 (by decide) Hs.out.drew
      have D9 := SL.hid (((Side.refl w).drew).alloc (.cells (u8s (zs 480)) 5 (0, 0)))
      have HB := SL.hid hB
      clear hT h0 hB c20
      generalize h.page i = y at *
      go_enter Tryz.func55, Tryz.ntmps55
      go_wp2_with fail
      (with_reducible refine hpg.mono ?_)
      rintro e w2 ⟨rfl, rfl⟩
      go_wp2_with fail
      go_region_held3 (fun _ => True) (trivial) (fail)
      all_goals
        go_wp2_with fail
        exact HQ.out _ _ (by rw [← HE.out]; exact ⟨S, _, Ext.refl S, D9.out, length_zs 480, rfl, HB.out⟩)
    | false =>
      have hT2 := ((if_neg h0).trans (if_neg (by decide))).symm.trans hT
      have hrd := read_anyW x hc w S st (h.page i) _ (Hs.out.to (by ac_rfl : _ = workA x S st * (pool S * (heldA hb h * F))))
      obtain ⟨⟨r1, st1⟩, hp⟩ : ∃ p, wread x.c.ask (h.page i) st = p := ⟨_, rfl⟩
      rw [hp] at hrd
      cases r1 with
      | bad cN =>
        have HE := SL.hid ((WM.bind_bad hp).symm.trans hT2)
        clear hT hT2 h0 hp c20
        generalize h.page i = y at *
        go_enter Tryz.func55, Tryz.ntmps55
        go_wp2_with fail
        (with_reducible refine hpg.mono ?_)
        rintro e w2 ⟨rfl, rfl⟩
        go_wp2_with fail
        (with_reducible refine hrd.mono ?_)
        rintro e w2 ⟨S', hS, d2, rfl, h2⟩
        go_wp2_with fail
        exact ⟨rfl, HQ.out _ _ (by rw [← HE.out]; exact ⟨S', h, hS, d2, rfl, h2.to (by ac_rfl)⟩)⟩
      | ok L =>
        have HE := SL.hid ((WM.bind_ok hp).symm.trans hT2)
        have HL := SL.hid (wread_len hp)
        clear hT hT2 h0 hp c20
        generalize h.page i = y at *
        go_enter Tryz.func55, Tryz.ntmps55
        go_wp2_with fail
        (with_reducible refine hpg.mono ?_)
        rintro e w2 ⟨rfl, rfl⟩
        go_wp2_with fail
        (with_reducible refine hrd.mono ?_)
        rintro e w2 ⟨S', v, hS, d2, rfl, h2⟩
        unfold bytesR at h2
        have h3 := SL.hid (h2.to (by ac_rfl : _ = bs 5 v L * (heldA hb h * (workA x S' st1 * (pool S' * F)))))
        obtain ⟨va, vc, rfl⟩ := sl_shape h2
        clear h2 hrd
        go_wp2_with fail
        exact HQ.out _ _ (by rw [← HE.out]; exact ⟨S', _, hS, d2, HL.out, rfl, h3.out⟩)
end
end Go.Proofs.YtaoohjeaaccnfaaGreat.Fs
namespace Go.SL
set_option linter.unusedVariables false
set_option linter.unusedSimpArgs false
open Go.RowKit
section
variable {σ : Type}
def wwrK (f : Nat → Hd → WM σ Hd) (done off l : Nat) (d : List UInt8) (p : Hd × Int × List UInt8) : WM σ Hd :=
  WM.bind (wwrite p.2.1 (putAt p.2.2 ((off + done) % 480) ((d.drop done).take l))) fun _ => f (done + l) p.1
def wwr (ask : Asks σ) (n off : Nat) (d : List UInt8) : Nat → Nat → Hd → WM σ Hd
  | 0, _, h => WM.pure h
  | f + 1, done, h => fun st =>
    if done < d.length then (WM.bind (wopen ask n h ((off + done) / 480) (lenN (d.length - done) (off + done) == 480)) (wwrK (wwr ask n off d f) done off (lenN (d.length - done) (off + done)) d)) st else (.ok h, st)
def wwrE (off : Nat) (d : List UInt8) (h : Hd) : WM σ Unit := wsave (h.setSz (max h.n.sz ((off + d.length : Nat) : Int)))
def wwriteA (ask : Asks σ) (n : Nat) (off : Int) (d : List UInt8) (h : Hd) : WM σ Unit := fun st =>
  if 0 ≤ off ∧ d.length ≤ 4096 ∧ off ≤ 122880 - d.length then (if d.length = 0 then (.ok (), st) else (WM.bind (wwr ask n off.toNat d d.length 0 h) (wwrE off.toNat d)) st) else (.bad 1, st)
def wwriteAt (ask : Asks σ) (n : Nat) (node off : Int) (d : List UInt8) : WM σ Unit := WM.bind (wload ask n node) (wwriteA ask n off d)
theorem WM_bind_congr {α β : Type} {m m' : WM σ α} {k : α → WM σ β} {st st' : Wst σ} (h : m st = m' st') : (WM.bind m k) st = (WM.bind m' k) st' := by unfold WM.bind; rw [h]
theorem wwr_end {ask : Asks σ} {h : Hd} {n off f done : Nat} {d : List UInt8} (hd : d.length ≤ done) (st : Wst σ) : wwr ask n off d f done h st = (.ok h, st) := by
  cases f with
  | zero => rfl
  | succ f => exact if_neg (by omega)
theorem wwr_b {ask : Asks σ} {h : Hd} {n off f done : Nat} {d : List UInt8} (hd : done < d.length) {st st1 : Wst σ} {c : Int}
    (hr : wopen ask n h ((off + done) / 480) (lenN (d.length - done) (off + done) == 480) st = (.bad c, st1)) : wwr ask n off d (f + 1) done h st = (.bad c, st1) := (if_pos hd).trans (WM.bind_bad hr)
theorem wwr_s {ask : Asks σ} {h : Hd} {n off f done : Nat} {d : List UInt8} (hd : done < d.length) {st st1 : Wst σ} {p : Hd × Int × List UInt8}
    (hr : wopen ask n h ((off + done) / 480) (lenN (d.length - done) (off + done) == 480) st = (.ok p, st1)) : wwr ask n off d (f + 1) done h st = wwrK (wwr ask n off d f) done off (lenN (d.length - done) (off + done)) d p st1 := (if_pos hd).trans (WM.bind_ok hr)
end
end Go.SL
namespace Go.Proofs.YtaoohjeaaccnfaaGreat.Fs
set_option linter.unusedVariables false
set_option linter.unusedSimpArgs false
open Go.RowKit Go.SL Go.Proofs.YtaoohjeaaccnfaaGreat.Ba
section
variable {σ α : Type}
def slA (b : Nat) (v : Value) : Assn := pt b (.cells #[v] 48 (0, 0))
def WrRel (x : Wk σ) (hb off : Nat) (d : List UInt8) (S : Hp) (F : Assn) (w : World) (T : Rs Unit × Wst σ) (u : Value) (wr : World) : Prop :=
  ∃ (done f : Nat) (h : Hd) (stk : Wst σ) (Sk : Hp), done ≤ d.length ∧ d.length - done ≤ f ∧ u = .int .i64 (done : Int) ∧ (WM.bind (wwr x.c.ask x.n off d f done h) (wwrE off d)) stk = T ∧ Ext S Sk ∧ Side w wr ∧
    Sat wr (heldA hb h * (workA x Sk stk * (pool Sk * F)))
set_option maxRecDepth 100000 in
set_option maxHeartbeats 4000000 in
theorem writeat_job {c : Cx σ} (hc : c.Ok) {n : Nat} (hn : n ≤ 3840) (node off : Int) (l : List UInt8) (va : Option Addr) (cap : Nat) (D : Assn) (hD : ∀ W P, Sat W (D * P) → Rd W (.slice va l.length cap) l) (hcap : l.length ≤ cap) (hbig : l.length ≤ 1000000000000) (nb ob db : Nat) :
    Job c n 54 #[.pointer (some ⟨nb, 0, none⟩), .pointer (some ⟨ob, 0, none⟩), .pointer (some ⟨db, 0, none⟩)] unitR (intA nb node * (intA ob off * (slA db (.slice va l.length cap) * D))) (wwriteAt c.ask n node off l) := by
  intro x w S st F hx1 hx2 h
  subst hx1 hx2
  have cn : w.cell? ⟨nb, 0, none⟩ = some (.int .i64 node) := (h.to (by ac_rfl : _ = intA nb node * ((intA ob off * (slA db (.slice va l.length cap) * D)) * (workA x S st * (pool S * F))))).cell 0
  show Calls Tryz.prog 54 #[.pointer (some ⟨x.k, 0, none⟩), .pointer (some ⟨nb, 0, none⟩), .pointer (some ⟨ob, 0, none⟩), .pointer (some ⟨db, 0, none⟩)] w _
  refine callsQ fun Q HQ => ?_
  have hl := load_anyW x hc w S st node _ h
  obtain ⟨⟨r, st1⟩, hp⟩ : ∃ p, wload x.c.ask x.n node st = p := ⟨_, rfl⟩
  rw [hp] at hl
  clear h
  obtain ⟨G, hG⟩ : ∃ G, G = intA nb node * (intA ob off * (slA db (.slice va l.length cap) * D)) * F := ⟨_, rfl⟩
  rw [← hG] at hl HQ
  have HG := SL.hid hG
  cases r with
  | bad cN =>
    have HE := SL.hid (show wwriteAt x.c.ask x.n node off l st = (.bad cN, st1) from WM.bind_bad hp)
    clear hp hG
    go_enter Tryz.func54, Tryz.ntmps54
    go_wp2_with fail
    (with_reducible refine hl.mono ?_)
    rintro e w2 ⟨S', hS, d2, rfl, h2⟩
    go_wp2_with fail
    exact ⟨rfl, HQ.out _ _ (by rw [HE.out]; exact ⟨S', hS, d2, rfl, h2⟩)⟩
  | ok hh =>
    obtain ⟨T, hT⟩ : ∃ T, wwriteA x.c.ask x.n off l hh st1 = T := ⟨_, rfl⟩
    have HE := SL.hid (show wwriteAt x.c.ask x.n node off l st = T from (WM.bind_ok hp).trans hT)
    have HT := SL.hid hT
    clear hp hG hT
    have sO : ∀ W P, Sat W (P * G) → W.cell? ⟨ob, 0, none⟩ = some (.int .i64 off) := fun W P hW => by
      rw [HG.out] at hW
      exact (hW.to (by ac_rfl : _ = intA ob off * (intA nb node * (slA db (.slice va l.length cap) * (D * (F * P)))))).cell 0
    have sB : ∀ W P, Sat W (P * G) → W.cell? ⟨db, 0, none⟩ = some (.slice va l.length cap) := fun W P hW => by
      rw [HG.out] at hW
      exact (hW.to (by ac_rfl : _ = slA db (.slice va l.length cap) * (intA nb node * (intA ob off * (D * (F * P)))))).cell 0
    have sR : ∀ W P, Sat W (P * G) → Rd W (.slice va l.length cap) l := fun W P hW => by
      rw [HG.out] at hW
      exact hD W _ (hW.to (by ac_rfl : _ = D * (slA db (.slice va l.length cap) * (intA nb node * (intA ob off * (F * P))))))
    have SO := SL.hid sO; have SB := SL.hid sB; have SR := SL.hid sR
    clear sO sB sR
    have Hln : Hid (∃ m, l.length = m) := ⟨_, rfl⟩
    obtain ⟨m, hm⟩ := Hln.out
    rw [hm] at SB SR hcap hbig
    have Hm := SL.hid hm
    clear hm Hln hD
    go_enter Tryz.func54, Tryz.ntmps54
    go_wp2_with fail
    (with_reducible refine hl.mono ?_)
    rintro e w2 ⟨S', v, hS, d2, rfl, h2⟩
    obtain ⟨hb, rfl, h3⟩ := Sat.heldR h2
    have h4 : Sat w2 (heldA hb hh * (workA x S' st1 * (pool S' * G))) := h3.to (by ac_rfl)
    have co := SO.out w2 (heldA hb hh * (workA x S' st1 * pool S')) (h4.to (by ac_rfl))
    have cb := SB.out w2 (heldA hb hh * (workA x S' st1 * pool S')) (h4.to (by ac_rfl))
    have H4 := SL.hid h4
    clear h2 h3 hl cn h4
    have hbm : (m : Int) ≤ 1000000000000 := by omega
    by_cases hz : 0 ≤ off ∧ l.length ≤ 4096 ∧ off ≤ 122880 - (l.length : Int)
    · obtain ⟨z0, z1, z2⟩ := hz
      obtain ⟨o, rfl⟩ : ∃ o : Nat, off = (o : Int) := ⟨off.toNat, by omega⟩
      by_cases h0 : m = 0
      · subst h0
        have HT2 : Hid (T = (.ok (), st1)) := by rw [← HT.out]; exact (if_pos ⟨z0, z1, z2⟩).trans (if_pos Hm.out)
        rw [Hm.out] at z2
        have z3 : (o : Int) ≤ 122880 := by omega
        clear z1 z2 HT
        go_wp2_with fail
        (with_reducible refine (need_yes w2).mono ?_)
        rintro e w3 ⟨rfl, rfl⟩
        go_wp2_with fail
        go_end0
        exact HQ.out _ _ (by rw [HE.out, HT2.out]; exact ⟨S', _, hS, d2, rfl, Sat.fact_iff.2 ⟨rfl, (H4.out).right⟩⟩)
      · have hT2 : (WM.bind (wwr x.c.ask x.n o l l.length 0 hh) (wwrE o l)) st1 = T := by
          rw [← HT.out]
          exact ((if_pos ⟨z0, z1, z2⟩).trans (if_neg (by rw [Hm.out]; exact h0))).symm
        have HT2 := SL.hid hT2
        rw [Hm.out] at z1 z2
        have z1' : (m : Int) ≤ 4096 := by omega
        have z2' : (o : Int) + (m : Int) ≤ 122880 := by omega
        have z3 : (o : Int) ≤ 122880 - (m : Int) := by omega
        have hm0 : ((m : Int) == 0) = false := by simpa using h0
        clear hT2 HT z2
        go_wp2_with fail
        (with_reducible refine (need_yes w2).mono ?_)
        rintro e w3 ⟨rfl, rfl⟩
        have hm1 : (m : Int) ≠ 0 := by omega
        clear co cb
        have cb : w2.cell? ⟨db, 0, none⟩ = some (.slice va m cap) := SB.out w2 (heldA hb hh * (workA x S' st1 * pool S')) (H4.out.to (by ac_rfl))
        go_wp2_with fail
        clear cb
        go_loopw [6] (fun u wr => WrRel x hb o l S G w T u wr) (fun u _ => m - (intOf u).toNat)
        case atStart => exact ⟨0, l.length, hh, st1, S', Nat.zero_le _, Nat.le_refl _, rfl, HT2.out, hS, d2, H4.out⟩
        case round =>
          obtain ⟨done, f, h, stk, Sk, hdm, hf, rfl, hTk, hSk, dk, hk4⟩ := hrel
          have HTk := SL.hid hTk; have HSk := SL.hid hSk
          clear H4 HT2 hTk hSk
          rw [Hm.out] at hdm hf
          have co := SO.out wr (heldA hb h * (workA x Sk stk * pool Sk)) (hk4.to (by ac_rfl))
          have cb := SB.out wr (heldA hb h * (workA x Sk stk * pool Sk)) (hk4.to (by ac_rfl))
          by_cases hlt : done < m
          · have hlt' : (done : Int) < (m : Int) := by omega
            obtain ⟨f', rfl⟩ : ∃ f', f = f' + 1 := ⟨f - 1, by omega⟩
            have hA : done < l.length := by rw [Hm.out]; exact hlt
            obtain ⟨k, hk⟩ : ∃ k, lenN (l.length - done) (o + done) = k := ⟨_, rfl⟩
            have hk2 : k = min (m - done) (480 - (o + done) % 480) := by rw [← hk, Hm.out]; rfl
            obtain ⟨q, hq⟩ : ∃ q, (o + done) / 480 = q := ⟨_, rfl⟩
            obtain ⟨r, hr⟩ : ∃ r, (o + done) % 480 = r := ⟨_, rfl⟩
            have hq256 : q < 256 := by omega
            have hr480 : r < 480 := by omega
            rw [hr] at hk2
            have hk1 : 1 ≤ k := by omega
            have hkm : done + k ≤ m := by omega
            have hkr : r + k ≤ 480 := by omega
            have hquo : ((o : Int) + (done : Int)).tdiv 480 = (q : Int) := by rw [Int.tdiv_eq_ediv_of_nonneg (by omega)]; omega
            have hrem : ((o : Int) + (done : Int)).tmod 480 = (r : Int) := by rw [Int.tmod_eq_emod_of_nonneg (by omega)]; omega
            have hmin : (if (480 : Int) - (r : Int) < ((m - done : Nat) : Int) then (480 : Int) - (r : Int) else ((m - done : Nat) : Int)) = (k : Int) := by split <;> omega
            have hsub : (m : Int) - (done : Int) = ((m - done : Nat) : Int) := by omega
            have hop := open_any x hc hn wr Sk stk hb h q (k == 480) G hq256 hk4
            obtain ⟨⟨r2, st2⟩, hp2⟩ : ∃ p, wopen x.c.ask x.n h q (k == 480) stk = p := ⟨_, rfl⟩
            rw [hp2] at hop
            have hp3 : wopen x.c.ask x.n h ((o + done) / 480) (lenN (l.length - done) (o + done) == 480) stk = (r2, st2) := by rw [hq, hk]; exact hp2
            have hwhole : ((k : Int) == 480) = (k == 480) := by
              by_cases h9 : k = 480
              · subst h9; rfl
              · rw [beq_eq_false_iff_ne.2 h9, beq_eq_false_iff_ne.2 (by omega)]
            have hop2 := hop
            rw [← hwhole] at hop2
            cases r2 with
            | bad cN =>
              have HN := SL.hid ((WM.bind_bad (wwr_b hA hp3)).symm.trans HTk.out)
              clear hp2 hp3 hk2 hq hr hk hop hwhole
              go_wp2_with fail
              (with_reducible refine hop2.mono ?_)
              rintro e w4 ⟨S2, h', hS2, d4, rfl, h6⟩
              go_wp2_with fail
              exact ⟨rfl, HQ.out _ _ (by rw [HE.out, ← HN.out]; exact ⟨S2, HSk.out.trans hS2, dk.trans d4, rfl, h6.right⟩)⟩
            | ok p =>
              obtain ⟨h', b, L⟩ := p
              have HN0 := SL.hid (show (WM.bind (wwrK (wwr x.c.ask x.n o l f') done o k l (h', b, L)) (wwrE o l)) st2 = T from by
                rw [← hk]; exact (WM_bind_congr (wwr_s hA hp3)).symm.trans HTk.out)
              clear hp2 hp3 hk2 hq hk hop hwhole
              go_wp2_with fail
              (with_reducible refine hop2.mono ?_)
              rintro e w4 ⟨S2, v4, hS2, d4, hL, rfl, h6⟩
              dsimp only at hL h6 ⊢
              have HL := SL.hid hL
              obtain ⟨ga, ca, cur, rfl, a1, a2, a3, a4, a5, a6⟩ := bs_splice h6 (by rw [hL]; decide)
              have rd := (SR.out w4 (bs 5 (.slice (some ⟨ga, 0, none⟩) L.length ca) L * (heldA hb h' * (workA x S2 st2 * pool S2))) (h6.to (by ac_rfl)))
              obtain ⟨-, (⟨-, h9⟩ | ⟨va', c', e, ha⟩)⟩ := rd
              · exact absurd h9 (by rw [Hm.out]; omega)
              simp only [Value.slice.injEq] at e
              obtain ⟨rfl, -, rfl⟩ := e
              obtain ⟨part, hpt⟩ : ∃ part, (l.drop done).take k = part := ⟨_, rfl⟩
              have hpl : part.length = k := by rw [← hpt, List.length_take, List.length_drop, Hm.out]; omega
              have h7 := (a6 r part (by rw [hpl, hL]; omega)).1
              have hcp := fun ty => run_copy_row (P := Tryz.prog) w4 48 48 ty 5 ga r (480 - r) (ca - r) (va'.add done) k (cap - done) cur 5 (part.map SL.u8) Tryz.underlying48 info_u8s a4
                (by rw [List.length_map, hpl]; exact (Nat.min_eq_left (by omega)).symm)
                (fun j v hv => by
                  have hj : j < k := by rw [← hpl]; simpa using (List.getElem?_eq_some_iff.1 hv).1
                  rw [Addr.add_add]
                  refine ha (done + j) v ?_
                  rw [← hv, ← hpt, List.getElem?_map, List.getElem?_map, List.getElem?_take, if_pos hj, List.getElem?_drop])
                (by rw [List.length_map, hpl, a3]; omega) (u8_one _)
              rw [List.length_map, hpl] at hcp
              obtain ⟨RW, hRW⟩ : ∃ RW, RW = (cur.toList.take r ++ part.map SL.u8 ++ cur.toList.drop (r + (part.map SL.u8).length)).toArray := ⟨_, rfl⟩
              rw [← hRW] at h7
              rw [List.length_map, hpl] at hRW
              rw [← hRW] at hcp
              have Hcp := SL.hid hcp
              have hrd := h7.rds
              have hwr := write_anyW x _ S2 st2 b _ (putAt L r part) _ (h7.to (by ac_rfl : _ = workA x S2 st2 * (pool S2 * (bs 5 (.slice (some ⟨ga, 0, none⟩) L.length ca) (putAt L r part) * (heldA hb h' * G))))) hrd
              obtain ⟨⟨r3, st3⟩, hp3⟩ : ∃ p, wwrite b (putAt L r part) st2 = p := ⟨_, rfl⟩
              have hK : ∀ p, wwrite b (putAt L r part) st2 = p → wwrK (wwr x.c.ask x.n o l f') done o k l (h', b, L) st2 = match p with | (.ok _, st') => wwr x.c.ask x.n o l f' (done + k) h' st' | (.bad c, st') => (.bad c, st') := by
                intro p hp
                unfold wwrK WM.bind
                dsimp only
                rw [hr, hpt, hp]
                cases p with
                | mk a c => cases a <;> rfl
              have hK2 := hK _ hp3
              rw [hp3] at hwr
              have hln : (putAt L r part).length = 480 := by rw [putAt_length (by rw [hpl, HL.out]; omega)]; exact HL.out
              rw [HL.out] at hwr a1 ⊢
              have Hwr := SL.hid hwr
              have D5 := SL.hid ((dk.trans d4).setRow ga RW)
              clear hop2 h6 h7 hcp hRW hrd hwr ha a2 a3 a4 a5 a6 hK hp3 hL hpl hpt hr hln cb
              go_wp2_with (refine wpList_copy_run (Hcp.out _) _ _ rfl rfl rfl rfl rfl ?_)
              generalize w4.setRow ga RW = w5 at *
              clear Hcp
              refine Hwr.out.mono ?_
              cases r3 with
              | bad cN =>
                have HN := SL.hid ((WM.bind_bad hK2).symm.trans HN0.out)
                rintro e w6 ⟨S6, hS6, d6, rfl, h8⟩
                go_wp2_with fail
                exact ⟨rfl, HQ.out _ _ (by rw [HE.out, ← HN.out]; exact ⟨S6, (HSk.out.trans hS2).trans hS6, D5.out.trans d6, rfl, (h8.to (by ac_rfl : _ = (bs 5 (.slice (some ⟨ga, 0, none⟩) 480 ca) (putAt L r part) * heldA hb h') * (workA x S6 st3 * (pool S6 * G)))).right⟩)⟩
              | ok u =>
                have HN := SL.hid ((WM_bind_congr hK2).symm.trans HN0.out)
                rintro e w6 ⟨S6, v6, hS6, d6, rfl, h8⟩
                obtain ⟨rfl, h9⟩ := Sat.fact_iff.1 h8
                clear h8
                go_wp2_with fail
                go_roundw
                case rel => exact ⟨done + k, f', h', st3, S6, by rw [Hm.out]; omega, by rw [Hm.out]; omega, by go_num, HN.out, (HSk.out.trans hS2).trans hS6, D5.out.trans d6, (h9.to (by ac_rfl : _ = bs 5 (.slice (some ⟨ga, 0, none⟩) 480 ca) (putAt L r part) * (heldA hb h' * (workA x S6 st3 * (pool S6 * G))))).right⟩
                case measure => simp [intOf]; omega
          · obtain rfl : done = m := by omega
            have HN0 := SL.hid (show wwrE o l h stk = T from (WM.bind_ok (wwr_end (by rw [Hm.out]; exact Nat.le_refl _) stk)).symm.trans HTk.out)
            have hf := Sat.heldFit hk4
            have c3 := (held_cell hk4 (j := 3) (by decide)).1
            have f3 := (held_cell hk4 (j := 3) (by decide)).2
            rw [show h.l.getD 3 0 = h.n.sz from rfl] at c3
            obtain ⟨z, hz⟩ : ∃ z, max h.n.sz ((o + l.length : Nat) : Int) = z := ⟨_, rfl⟩
            have h20 := (held_set (h' := h.setSz z) hk4 (j := 3) (z := z) hf rfl).drew
            have D20 := SL.hid (dk.setCell ⟨hb, 3, none⟩ (.int .i64 z)).drew
            have hsv := save_anyW x _ Sk stk hb (h.setSz z) _ h20
            obtain ⟨⟨r6, st6⟩, hp6⟩ : ∃ p, wsave (h.setSz z) stk = p := ⟨_, rfl⟩
            rw [hp6] at hsv
            have HN := SL.hid (show (r6, st6) = T by rw [← HN0.out, ← hp6, ← hz]; rfl)
            have hwr : IntKind.i64.wrap ((o : Int) + (done : Int)) = (o : Int) + (done : Int) := by rw [IntKind.wrap_i64]; omega
            have hz2 : (if h.n.sz < IntKind.i64.wrap ((o : Int) + (done : Int)) then IntKind.i64.wrap ((o : Int) + (done : Int)) else h.n.sz) = z := by rw [hwr, ← hz, Hm.out]; split <;> omega
            have Hz2 := SL.hid hz2
            have Hsv := SL.hid hsv
            have H20 := SL.hid h20
            have hlt' : ¬ (done : Int) < (done : Int) := by omega
            clear hf h20 hsv hp6 hz hk4 HN0 hwr hz2
            generalize h.n.sz = sz at *
            go_wp2_with fail
            go_region_law (fail)
            all_goals
              rw [Hz2.out]
              generalize (wr.setCell ⟨hb, 3, none⟩ (.int .i64 z)).drew = w20 at *
              cases r6 with
              | bad cN =>
                go_wp2_with fail
                refine Hsv.out.mono ?_
                rintro e w22 ⟨S6, hS6, d6, rfl, h23⟩
                go_wp2_with fail
                exact ⟨rfl, HQ.out _ _ (by rw [HE.out, ← HN.out]; exact ⟨S6, HSk.out.trans hS6, D20.out.trans d6, rfl, (h23.to (by ac_rfl : _ = heldA hb (h.setSz z) * (workA x S6 st6 * (pool S6 * G)))).right⟩)⟩
              | ok u6 =>
                go_wp2_with fail
                refine Hsv.out.mono ?_
                rintro e w22 ⟨S6, v6, hS6, d6, rfl, h23⟩
                obtain ⟨rfl, h24⟩ := Sat.fact_iff.1 h23
                go_wp2_with fail
                go_end0
                exact HQ.out _ _ (by rw [HE.out, ← HN.out]; exact ⟨S6, _, HSk.out.trans hS6, D20.out.trans d6, rfl, Sat.fact_iff.2 ⟨rfl, (h24.to (by ac_rfl : _ = heldA hb (h.setSz z) * (workA x S6 st6 * (pool S6 * G)))).right⟩⟩)
    · have hT : T = (.bad 1, st1) := by rw [← HT.out]; exact if_neg hz
      have HT2 := SL.hid hT
      rw [Hm.out] at hz
      clear hT HT
      by_cases hz1 : 0 ≤ off
      · by_cases hz2 : (m : Int) ≤ 4096
        · have hz4 : ¬ off ≤ 122880 - (m : Int) := fun h9 => hz ⟨hz1, by omega, h9⟩
          have hz3 : decide (off ≤ 122880 - (m : Int)) = false := decide_eq_false hz4
          clear hz hz4
          go_wp2_with fail
          (with_reducible refine (need_no w2).mono ?_)
          rintro e w4 ⟨rfl, rfl⟩
          go_wp2_with fail
          exact ⟨rfl, HQ.out _ _ (by rw [HE.out, HT2.out]; exact ⟨S', hS, d2, rfl, H4.out.right⟩)⟩
        · clear hz
          go_wp2_with fail
          (with_reducible refine (need_no w2).mono ?_)
          rintro e w4 ⟨rfl, rfl⟩
          go_wp2_with fail
          exact ⟨rfl, HQ.out _ _ (by rw [HE.out, HT2.out]; exact ⟨S', hS, d2, rfl, H4.out.right⟩)⟩
      · have hz2 : off < 0 := by omega
        clear hz
        go_wp2_with fail
        (with_reducible refine (need_no w2).mono ?_)
        rintro e w4 ⟨rfl, rfl⟩
        go_wp2_with fail
        exact ⟨rfl, HQ.out _ _ (by rw [HE.out, HT2.out]; exact ⟨S', hS, d2, rfl, H4.out.right⟩)⟩
end
end Go.Proofs.YtaoohjeaaccnfaaGreat.Fs

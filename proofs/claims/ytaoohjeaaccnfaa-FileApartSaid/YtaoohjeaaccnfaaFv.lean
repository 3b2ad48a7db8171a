/- file: the jobs of New, Links, Node, Left. -/
import Derived.Test.YtaoohjeaaccnfaaFu
import Derived.Test.YtaoohjeaaccnfaaFt
import Derived.Test.YtaoohjeaaccnfaaFh
namespace Go.SL
set_option linter.unusedVariables false
set_option linter.unusedSimpArgs false
open Go.RowKit
section
variable {σ : Type}
def newHd (id : Nat) (kd : Int) : Hd := ⟨id, ⟨kd, 1, 0, List.replicate 16 0, 0⟩, List.replicate 240 0⟩
def wnewK (kd : Int) (id : Nat) : WM σ Nat := wsave (newHd id kd) ⇝ fun _ => WM.pure id
def wnew (ask : Asks σ) (n : Nat) (kd : Int) : WM σ Nat := fun st => if kd = 1 ∨ kd = 2 then (wtake ask n ⇝ wnewK kd) st else (.bad 1, st)
end
end Go.SL
namespace Go.Proofs.Ytaoohjeaaccnfaa.Fs
set_option linter.unusedVariables false
set_option linter.unusedSimpArgs false
open Go.RowKit Go.SL Go.Proofs.Ytaoohjeaaccnfaa.Ba
section
variable {σ α : Type}
def intA (b : Nat) (z : Int) : Assn := pt b (.cells #[.int .i64 z] 3 (0, 0))
theorem newHd_fit (id : Nat) (kd : Int) : (newHd id kd).fit := ⟨rfl, rfl⟩
set_option maxRecDepth 100000 in
set_option maxHeartbeats 2000000 in
theorem new_job {c : Cx σ} (hc : c.Ok) {n : Nat} (hn : n ≤ 3840) (kd : Int) (kb : Nat) : Job c n 25 #[.pointer (some ⟨kb, 0, none⟩)] natR (intA kb kd) (wnew c.ask n kd) := by
  intro x w S st F hx1 hx2 h
  subst hx1 hx2
  have ck : w.cell? ⟨kb, 0, none⟩ = some (.int .i64 kd) := (h.to (by ac_rfl : _ = intA kb kd * (workA x S st * (pool S * F)))).cell 0
  show Calls Try.prog 25 #[.pointer (some ⟨x.k, 0, none⟩), .pointer (some ⟨kb, 0, none⟩)] w _
  by_cases hk : kd = 1 ∨ kd = 2
  · have ht := wtake_any x hc hn w S st _ h
    have hE : wnew x.c.ask x.n kd st = (wtake x.c.ask x.n ⇝ wnewK kd) st := if_pos hk
    rw [hE]
    obtain ⟨⟨r, st1⟩, hp⟩ : ∃ p, wtake x.c.ask x.n st = p := ⟨_, rfl⟩
    rw [hp] at ht
    clear hE h
    cases r with
    | bad cN =>
      rw [WM.bind_bad hp]
      clear hp
      rcases hk with rfl | rfl
      all_goals
        go_enter Try.func25, Try.ntmps25
        go_wp2_with fail
        (with_reducible refine (need_yes w).mono ?_)
        rintro e w2 ⟨rfl, rfl⟩
        go_wp2_with fail
        (with_reducible refine ht.mono ?_)
        rintro e w2 ⟨S', hS, d2, rfl, h2⟩
        go_wp2_with fail
        exact ⟨rfl, S', hS, d2, rfl, h2⟩
    | ok id =>
      rw [WM.bind_ok hp]
      clear hp
      have hbu := built_held (id : Int) (newHd id kd).n (newHd_fit id kd).1
      have Hbu := SL.hid hbu
      obtain ⟨HL, hHL⟩ : ∃ L, L = ints ((id : Int) :: ((newHd id kd).n.l ++ List.replicate 240 0)) := ⟨_, rfl⟩
      rw [← hHL] at hbu
      have hHL2 : HL = ints (newHd id kd).l := hHL
      have HHL := SL.hid hHL2
      clear Hbu hHL hHL2
      have hfin : ∀ p, wsave (newHd id kd) st1 = p → ∀ r st2, p = (r, st2) → wnewK kd id st1 = (match r with | .ok _ => .ok id | .bad c => .bad c, st2) := by
        intro p hp r st2 he
        subst he
        cases r with
        | ok u => exact WM.bind_ok hp
        | bad c => exact WM.bind_bad hp
      obtain ⟨⟨r2, st2⟩, hp2⟩ : ∃ p, wsave (newHd id kd) st1 = p := ⟨_, rfl⟩
      have hE2 := hfin _ hp2 r2 st2 rfl
      rw [hE2]
      have hsv := fun w S hb F h Q hQ => save_any x w S st1 hb (newHd id kd) F h Q hQ
      rw [hp2] at hsv
      have Hsv := SL.hid hsv
      have hfit := newHd_fit id kd
      have Hfit := SL.hid hfit
      clear hfin hE2 hp2 hsv hfit
      rcases hk with rfl | rfl
      all_goals
        have Hb := SL.hid hbu
        clear hbu
        go_enter Try.func25, Try.ntmps25
        go_wp2_with fail
        (with_reducible refine (need_yes w).mono ?_)
        rintro e w2 ⟨rfl, rfl⟩
        go_wp2_with fail
        (with_reducible refine ht.mono ?_)
        rintro e w2 ⟨S', v, hS, d2, rfl, h2⟩
        obtain ⟨rfl, h3⟩ := Sat.fact_iff.1 h2
        have ck2 : w2.cell? ⟨kb, 0, none⟩ = some _ := (h3.to (by ac_rfl : _ = intA kb _ * (workA x S' st1 * (pool S' * F)))).cell 0
        clear ck
        have h4 := h3.alloc (.cells HL 67 (0, 0))
        have h5 : Sat (w2.alloc (.cells HL 67 (0, 0))) (heldA w2.heap.size (newHd id _) * (workA x S' st1 * (pool S' * (intA kb _ * F)))) := Sat.held.2 ⟨Hfit.out, by rw [HHL.out] at h4 ⊢; exact h4⟩
        have D5 := d2.alloc (.cells HL 67 (0, 0))
        have H5 := SL.hid h5
        clear h2 h3 h4 h5 ht
        go_wp2_with (refine wpList_build_to (by exact rfl) 67 #[(0, .tmp 15), (1, .tmp 17)] (by exact rfl) _ (by exact rfl) HL (by exact Hb.out) ?_)
        refine Hsv.out _ S' _ _ H5.out _ ?_
        clear H5 Hsv
        generalize w2.alloc (.cells HL 67 (0, 0)) = w3 at *
        cases r2 with
        | bad cN =>
          rintro e w4 ⟨S2, hS2, d4, rfl, h6⟩
          go_wp2_with fail
          exact ⟨rfl, S2, hS.trans hS2, D5.trans d4, rfl, (h6.to (by ac_rfl : _ = heldA w2.heap.size (newHd id _) * (workA x S2 st2 * (pool S2 * (intA kb _ * F))))).right⟩
        | ok u =>
          rintro e w4 ⟨S2, v4, hS2, d4, rfl, h6⟩
          obtain ⟨rfl, h7⟩ := Sat.fact_iff.1 h6
          go_wp2_with fail
          go_ret
          exact ⟨S2, _, hS.trans hS2, D5.trans d4, rfl, Sat.fact_iff.2 ⟨rfl, (h7.to (by ac_rfl : _ = heldA w2.heap.size (newHd id _) * (workA x S2 st2 * (pool S2 * (intA kb _ * F))))).right⟩⟩
  · have hE : wnew x.c.ask x.n kd st = (.bad 1, st) := if_neg hk
    rw [hE]
    have h1 : (kd == 1) = false := by simp; omega
    have h2 : (kd == 2) = false := by simp; omega
    clear hE hk
    go_enter Try.func25, Try.ntmps25
    go_wp2_with fail
    (with_reducible refine (need_no w).mono ?_)
    rintro e w2 ⟨rfl, rfl⟩
    go_wp2_with fail
    exact ⟨rfl, S, Ext.refl S, Side.refl w, rfl, h⟩
end
end Go.Proofs.Ytaoohjeaaccnfaa.Fs

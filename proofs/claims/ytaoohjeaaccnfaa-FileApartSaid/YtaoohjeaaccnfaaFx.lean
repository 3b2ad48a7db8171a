/- file: the jobs of Left, Format, Need. -/
import Derived.Test.YtaoohjeaaccnfaaFw
namespace Go.SL
set_option linter.unusedVariables false
set_option linter.unusedSimpArgs false
open Go.RowKit
section
variable {σ : Type}
/-- Format's job, behind the bitmap. -/
def wformat (ask : Asks σ) : WM σ Unit := fun st => (wmark ask 0 true ⇝ fun _ => wmark ask 1 true ⇝ fun _ => wsave (newHd 1 2)) { st with bits := some (zs 480) }
def Hd.pages (h : Hd) : List Int := h.n.dr ++ h.row
def Hd.need (h : Hd) : Nat := 1 + h.pages.countP (fun p => decide (p ≠ 0)) + if h.n.rw = 0 then 0 else 1
def wneedb (ask : Asks σ) (n : Nat) (node : Int) : WM σ Nat := wload ask n node ⇝ fun h => WM.pure h.need
theorem Hd.pages_length {h : Hd} (hf : h.fit) : h.pages.length = 256 := by simp [Hd.pages, hf.1, hf.2]
theorem Hd.page_pages {h : Hd} (hf : h.fit) (i : Nat) : h.page i = h.pages.getD i 0 := by
  unfold Hd.page Hd.pages
  split
  · rename_i hi; rw [List.getD, List.getD, List.getElem?_append_left (by rw [hf.1]; exact hi)]
  · rename_i hi; rw [List.getD, List.getD, List.getElem?_append_right (by rw [hf.1]; omega), hf.1]
end
end Go.SL
namespace Go.Proofs.Ytaoohjeaaccnfaa.Fs
set_option linter.unusedVariables false
set_option linter.unusedSimpArgs false
open Go.RowKit Go.SL Go.Proofs.Ytaoohjeaaccnfaa.Ba
section
variable {σ α : Type}
set_option maxRecDepth 100000 in
set_option maxHeartbeats 2000000 in
theorem left_job {c : Cx σ} (hc : c.Ok) {n : Nat} (hn : n ≤ 3840) : Job c n 48 #[] natR emp (wleft c.ask n) := by
  intro x w S st F hx1 hx2 h
  subst hx1 hx2
  show Calls Try.prog 48 #[.pointer (some ⟨x.k, 0, none⟩)] w _
  have c1 : w.cell? ⟨x.k, 1, none⟩ = some (.int .i64 (x.n : Int)) := workX1 h
  have hb := fun (w : World) h => bitmap_any x hc w S st (emp * F) h
  obtain ⟨⟨r, st1⟩, hp⟩ : ∃ p, wbits x.c.ask st = p := ⟨_, rfl⟩
  rw [hp] at hb
  cases r with
  | bad cN =>
    have hE : wleft x.c.ask x.n st = (.bad cN, st1) := WM.bind_bad hp
    rw [hE]
    clear hE hp
    go_enter Try.func48, Try.ntmps48
    go_wp2_with fail
    refine wp_region_held_drew (S := (fun w' => w'.cell? ⟨x.k, 1, none⟩ = some (.int .i64 (x.n : Int)))) (by kernel_rfl) ?_ (fun hHeld => ?_)
    · (first | exact c1 | go_keep)
    refine wpAnyH_take (i := 0) (v := ?_) rfl (by kernel_rfl) (by kernel_rfl) (by kernel_rfl) (fun _ _ _ h => h) (Or.inl ⟨by kernel_rfl, ?_⟩) (by assumption) ?_
    rotate_left
    · intro w hSw; (try dsimp only at hSw); go_simp; try with_reducible rfl
    try simp only [List.getElem_toArray, List.getElem_cons_succ, List.getElem_cons_zero, Act.put, List.setIfInBounds_toArray, List.set_cons_zero, List.set_cons_succ]
    refine wpAnyH_take (i := 1) (v := ?_) rfl (by kernel_rfl) (by kernel_rfl) (by kernel_rfl) (fun _ _ _ h => h) (Or.inl ⟨by kernel_rfl, ?_⟩) (by assumption) ?_
    rotate_left
    · intro w hSw; (try dsimp only at hSw); go_simp; try with_reducible rfl
    try simp only [List.getElem_toArray, List.getElem_cons_succ, List.getElem_cons_zero, Act.put, List.setIfInBounds_toArray, List.set_cons_zero, List.set_cons_succ]
    refine wpAnyH_take (i := 2) (v := ?_) rfl (by kernel_rfl) (by kernel_rfl) (by kernel_rfl) (fun _ _ _ h => h) (Or.inl ⟨by kernel_rfl, ?_⟩) (by assumption) ?_
    rotate_left
    · intro w hSw; (try dsimp only at hSw); go_simp; try with_reducible rfl
    try simp only [List.getElem_toArray, List.getElem_cons_succ, List.getElem_cons_zero, Act.put, List.setIfInBounds_toArray, List.set_cons_zero, List.set_cons_succ]
    refine wpAnyH_take (i := 3) (v := ?_) rfl (by kernel_rfl) (by kernel_rfl) (by kernel_rfl) (fun _ _ _ h => h) (Or.inl ⟨by kernel_rfl, ?_⟩) (by assumption) ?_
    rotate_left
    · intro w hSw; (try dsimp only at hSw); go_simp; try with_reducible rfl
    try simp only [List.getElem_toArray, List.getElem_cons_succ, List.getElem_cons_zero, Act.put, List.setIfInBounds_toArray, List.set_cons_zero, List.set_cons_succ]
    refine wpAnyH_take (i := 4) (v := ?_) rfl (by kernel_rfl) (by kernel_rfl) (by kernel_rfl) (fun _ _ _ h => h) (Or.inl ⟨by kernel_rfl, ?_⟩) (by assumption) ?_
    rotate_left
    · intro w hSw; (try dsimp only at hSw); go_simp; try with_reducible rfl
    try simp only [List.getElem_toArray, List.getElem_cons_succ, List.getElem_cons_zero, Act.put, List.setIfInBounds_toArray, List.set_cons_zero, List.set_cons_succ]
    refine wpAnyH_take (i := 6) (v := ?_) rfl (by kernel_rfl) (by kernel_rfl) (by kernel_rfl) (fun _ _ _ h => h) (Or.inl ⟨by kernel_rfl, ?_⟩) (by assumption) ?_
    rotate_left
    · intro w hSw; (try dsimp only at hSw); go_simp; try with_reducible rfl
    try simp only [List.getElem_toArray, List.getElem_cons_succ, List.getElem_cons_zero, Act.put, List.setIfInBounds_toArray, List.set_cons_zero, List.set_cons_succ]
    refine wpAnyH_take (i := 7) (v := ?_) rfl (by kernel_rfl) (by kernel_rfl) (by kernel_rfl) (fun _ _ _ h => h) (Or.inl ⟨by kernel_rfl, ?_⟩) (by assumption) ?_
    rotate_left
    · intro w hSw; (try dsimp only at hSw); go_simp; try with_reducible rfl
    try simp only [List.getElem_toArray, List.getElem_cons_succ, List.getElem_cons_zero, Act.put, List.setIfInBounds_toArray, List.set_cons_zero, List.set_cons_succ]
    refine wpAnyH_take (i := 8) (v := ?_) rfl (by kernel_rfl) (by kernel_rfl) (by kernel_rfl) (fun _ _ _ h => h) (Or.inl ⟨by kernel_rfl, ?_⟩) (by assumption) ?_
    rotate_left
    · intro w hSw; (try dsimp only at hSw); go_simp; try with_reducible rfl
    try simp only [List.getElem_toArray, List.getElem_cons_succ, List.getElem_cons_zero, Act.put, List.setIfInBounds_toArray, List.set_cons_zero, List.set_cons_succ]
    refine wpAnyH_take (i := 9) (v := ?_) rfl (by kernel_rfl) (by kernel_rfl) (by kernel_rfl) (fun _ _ _ h => h) (Or.inl ⟨by kernel_rfl, ?_⟩) (by assumption) ?_
    rotate_left
    · intro w hSw; (try dsimp only at hSw); go_simp; try with_reducible rfl
    try simp only [List.getElem_toArray, List.getElem_cons_succ, List.getElem_cons_zero, Act.put, List.setIfInBounds_toArray, List.set_cons_zero, List.set_cons_succ]
    refine wpAnyH_ready (rs := [5]) (by kernel_rfl) (by simp) ?_
    refine AllReadyH.cons rfl (fun K hK => ?_) AllReadyH.nil
    go_simp
    go_wp2_with (go_at_call 50; refine (hb w.drew h.drew).mono ?_; rintro e w1 ⟨S', hS, d1, rfl, h2⟩)
    exact ⟨rfl, S', hS, (Side.refl w).drew.trans d1, rfl, h2⟩
  | ok l =>
    have hE : wleft x.c.ask x.n st = (.ok (x.n - (takenL l x.n).length), st1) := WM.bind_ok hp
    have hbl := (wbits_ok hp (bitsLen h)).1
    have Hbl := SL.hid hbl
    rw [hE]
    have htl := takenL_length l x.n
    have hct := fun w v F h hl => count_any w v l F h hl x.n hn
    have hN : (x.n : Int) ≤ 3840 := by omega
    have hN0 : 0 ≤ (x.n : Int) := by omega
    have hsub : (x.n : Int) - ((takenL l x.n).length : Int) = ((x.n - (takenL l x.n).length : Nat) : Int) := by omega
    obtain ⟨t, ht⟩ : ∃ t, (takenL l x.n).length = t := ⟨_, rfl⟩
    rw [ht] at htl hct hsub ⊢
    have ht0 : 0 ≤ (t : Int) := by omega
    have ht1 : (t : Int) ≤ (x.n : Int) := by omega
    clear hE hp hbl ht htl
    go_enter Try.func48, Try.ntmps48
    go_wp2_with fail
    go_region_held3 (fun w' => w'.cell? ⟨x.k, 1, none⟩ = some (.int .i64 (x.n : Int)))
      (first | exact c1 | exact k1 | exact k2 | go_keep)
      (first
        | (go_at_call 50; refine (hb w.drew h.drew).mono ?_; rintro e w1 ⟨S', v, hS, d1, rfl, hl, h2⟩; have k1 : w1.cell? ⟨x.k, 1, none⟩ = some (.int .i64 (x.n : Int)) := (h2.to (by unfold workX; ac_rfl : _ = pt x.k (.cells (x.cells v st1.dt) 85 (0, 0)) * (btA x.c S' x.b st1.b * (bs 5 v l * (pool S' * (emp * F)))))).cell 1)
        | (go_at_call 49; refine (hct w1 v (workX x v S' st1 * (pool S' * (emp * F))) (h2.to (by ac_rfl)) hl).mono ?_; rintro e w2 ⟨rfl, h3, d2⟩; have k2 : w2.cell? ⟨x.k, 1, none⟩ = some (.int .i64 (x.n : Int)) := (h3.to (by unfold workX; ac_rfl : _ = pt x.k (.cells (x.cells v st1.dt) 85 (0, 0)) * (btA x.c S' x.b st1.b * (bs 5 v l * (pool S' * (emp * F)))))).cell 1))
    all_goals
      go_wp2_with fail
      go_ret
      refine ⟨S', _, hS, ((Side.refl w).drew.trans d1).trans d2, rfl, Sat.fact_iff.2 ⟨?_, Sat.workShut v ?_⟩⟩
      · show Value.int .i64 _ = Value.int .i64 _; congr 1; rw [IntKind.wrap_i64]; omega
      · rw [Hbl.out]; exact (Sat.bitsSome hl h3).to (by ac_rfl)
theorem callsQ {P : Program} {f : FuncId} {args : Array Value} {w : World} {R : Ending → World → Prop} (h : ∀ Q : Ending → World → Prop, RowKit.Hid (∀ e w', R e w' → Q e w') → Calls P f args w Q) : Calls P f args w R := h R (fun _ _ h => h)
set_option maxRecDepth 100000 in
set_option maxHeartbeats 2000000 in
theorem format_job {c : Cx σ} (hc : c.Ok) {n : Nat} : Job c n 52 #[] unitR emp (wformat c.ask) := by
  intro x w S st F hx1 hx2 h
  subst hx1 hx2
  show Calls Try.prog 52 #[.pointer (some ⟨x.k, 0, none⟩)] w _
  refine callsQ fun Q HQ => ?_
  obtain ⟨v0, h1⟩ := Sat.workOpen h
  have hnw := bnew_any w
  obtain ⟨stA, hA⟩ : ∃ stA, stA = ({ st with bits := some (zs 480) } : Wst σ) := ⟨_, rfl⟩
  have hE : wformat x.c.ask st = (wmark x.c.ask 0 true ⇝ fun _ => wmark x.c.ask 1 true ⇝ fun _ => wsave (newHd 1 2)) stA := by rw [hA]; rfl
  have HE0 := SL.hid hE
  have HA := SL.hid hA
  have hbu := built_held 1 (newHd 1 2).n (newHd_fit 1 2).1
  obtain ⟨HL, hHL⟩ : ∃ L, L = ints ((1 : Int) :: ((newHd 1 2).n.l ++ List.replicate 240 0)) := ⟨_, rfl⟩
  rw [← hHL] at hbu
  have HHL := SL.hid (show HL = ints (newHd 1 2).l from hHL)
  have Hb := SL.hid hbu
  have hlen : (zs 480).length = 480 := length_zs 480
  have Hlen := SL.hid hlen
  clear hbu hHL hE hA h hlen
  generalize zs 480 = Z at *
  obtain ⟨⟨r1, st1⟩, hp1⟩ : ∃ p, wmark x.c.ask 0 true stA = p := ⟨_, rfl⟩
  have hm1 : ∀ (w : World) (S : Hp) (F : Assn), Sat w (workA x S stA * (pool S * F)) → Calls Try.prog 40 #[.pointer (some ⟨x.k, 0, none⟩), .int .i64 0, .bool true] w (WQ x unitR S F w (wmark x.c.ask 0 true stA)) := fun w S F h => mark_any x hc w S stA 0 true F (by decide) h
  rw [hp1] at hm1
  go_enter Try.func52, Try.ntmps52
  go_wp2_with fail
  (with_reducible refine hnw.mono ?_)
  rintro e w2 ⟨v, rfl, h2, d2⟩
  have h3 := h2.under h1
  obtain ⟨va, vc, rfl⟩ := sl_shape h3
  rw [Hlen.out] at h3 ⊢
  have h4 : Sat w2 (pt x.k (.cells (x.cells v0 st.dt) 85 (0, 0)) * (btA x.c S x.b st.b * (bs 5 (.slice va 480 vc) Z * (pool S * (emp * F))))) := (h3.to (by unfold workX; ac_rfl : _ = bitsA st.bits v0 * (pt x.k (.cells (x.cells v0 st.dt) 85 (0, 0)) * (btA x.c S x.b st.b * (bs 5 (.slice va 480 vc) Z * (pool S * (emp * F))))))).right
  obtain ⟨v1, n1, k1, rfl⟩ : ∃ a n c, v0 = .slice a n c := by
    rcases Sat.bitsCases (h3.to (by ac_rfl : _ = bitsA st.bits v0 * (bs 5 (.slice va 480 vc) Z * (workX x v0 S st * (pool S * (emp * F)))))) with ⟨_, rfl, _⟩ | ⟨l, _, _, hx⟩
    · exact ⟨_, _, _, rfl⟩
    · obtain ⟨a, b, e⟩ := sl_shape hx; exact ⟨_, _, _, e⟩
  have g2 : w2.cell? ⟨x.k, 2, none⟩ = some (.slice v1 n1 k1) := h4.cell 2
  have f2 : w2.frozen? ⟨x.k, 2, none⟩ = false := h4.frozen 2
  have h5 := h4.setCell 2 (.slice va 480 vc)
  have D5 := d2.setCell ⟨x.k, 2, none⟩ (.slice va 480 vc)
  have h6 : Sat (w2.setCell ⟨x.k, 2, none⟩ (.slice va 480 vc)) (workA x S stA * (pool S * (emp * F))) := by
    rw [HA.out]
    refine Sat.workShut (.slice va 480 vc) ?_
    have h7 := Sat.bitsSome Hlen.out h5.front3
    exact h7.to (by unfold workX Wk.cells; simp only [List.setIfInBounds_toArray, List.set_cons_succ, List.set_cons_zero]; ac_rfl)
  have hm := hm1 _ S _ h6
  clear hnw h1 h2 h3 h4 h5 h6 hm1
  cases r1 with
  | bad cN =>
    have hE : (wmark x.c.ask 0 true ⇝ fun _ => wmark x.c.ask 1 true ⇝ fun _ => wsave (newHd 1 2)) stA = (.bad cN, st1) := WM.bind_bad hp1
    have HE := SL.hid (HE0.out.trans hE)
    clear hE hp1
    go_wp2_with fail
    (with_reducible refine hm.mono ?_)
    rintro e w3 ⟨S', hS, d3, rfl, h7⟩
    go_wp2_with fail
    exact ⟨rfl, HQ.out _ _ (by rw [HE.out]; exact ⟨S', hS, D5.trans d3, rfl, h7⟩)⟩
  | ok u =>
    have hE : (wmark x.c.ask 0 true ⇝ fun _ => wmark x.c.ask 1 true ⇝ fun _ => wsave (newHd 1 2)) stA = (wmark x.c.ask 1 true ⇝ fun _ => wsave (newHd 1 2)) st1 := WM.bind_ok hp1
    have HE1 := SL.hid (HE0.out.trans hE)
    clear hE hp1
    obtain ⟨⟨r2, st2⟩, hp2⟩ : ∃ p, wmark x.c.ask 1 true st1 = p := ⟨_, rfl⟩
    have hm2 : ∀ (w : World) (S : Hp) (F : Assn), Sat w (workA x S st1 * (pool S * F)) → Calls Try.prog 40 #[.pointer (some ⟨x.k, 0, none⟩), .int .i64 1, .bool true] w (WQ x unitR S F w (wmark x.c.ask 1 true st1)) := fun w S F h => mark_any x hc w S st1 1 true F (by decide) h
    rw [hp2] at hm2
    cases r2 with
    | bad cN =>
      have hE : (wmark x.c.ask 1 true ⇝ fun _ => wsave (newHd 1 2)) st1 = (.bad cN, st2) := WM.bind_bad hp2
      have HE := SL.hid (HE1.out.trans hE)
      clear hE hp2
      go_wp2_with fail
      (with_reducible refine hm.mono ?_)
      rintro e w3 ⟨S', v3, hS, d3, rfl, h7⟩
      obtain ⟨rfl, h8⟩ := Sat.fact_iff.1 h7
      go_wp2_with fail
      (with_reducible refine (hm2 w3 S' _ h8).mono ?_)
      rintro e w4 ⟨S2, hS2, d4, rfl, h9⟩
      go_wp2_with fail
      exact ⟨rfl, HQ.out _ _ (by rw [HE.out]; exact ⟨S2, hS.trans hS2, (D5.trans d3).trans d4, rfl, h9⟩)⟩
    | ok u2 =>
      have hE : (wmark x.c.ask 1 true ⇝ fun _ => wsave (newHd 1 2)) st1 = wsave (newHd 1 2) st2 := WM.bind_ok hp2
      have HE2 := SL.hid (HE1.out.trans hE)
      clear hE hp2
      have hsv := fun w S hb F h => save_anyW x w S st2 hb (newHd 1 2) F h
      obtain ⟨⟨r3, st3⟩, hp3⟩ : ∃ p, wsave (newHd 1 2) st2 = p := ⟨_, rfl⟩
      rw [hp3] at hsv
      have HE := SL.hid (HE2.out.trans hp3)
      have Hsv := SL.hid hsv
      clear hp3 hsv
      go_wp2_with fail
      (with_reducible refine hm.mono ?_)
      rintro e w3 ⟨S', v3, hS, d3, rfl, h7⟩
      obtain ⟨rfl, h8⟩ := Sat.fact_iff.1 h7
      go_wp2_with fail
      (with_reducible refine (hm2 w3 S' _ h8).mono ?_)
      rintro e w4 ⟨S2, v4, hS2, d4, rfl, h9⟩
      obtain ⟨rfl, h10⟩ := Sat.fact_iff.1 h9
      have h11 := h10.alloc (.cells HL 67 (0, 0))
      have h12 : Sat (w4.alloc (.cells HL 67 (0, 0))) (heldA w4.heap.size (newHd 1 2) * (workA x S2 st2 * (pool S2 * (emp * F)))) := Sat.held.2 ⟨newHd_fit 1 2, by rw [HHL.out] at h11 ⊢; exact h11⟩
      have D12 := SL.hid (((D5.trans d3).trans d4).alloc (.cells HL 67 (0, 0)))
      have HS := SL.hid (hS.trans hS2)
      have hs := SL.hid (Hsv.out _ _ _ _ h12)
      clear hm hm2 h7 h8 h9 h10 h11 h12 Hsv D5 d3 d4 hS hS2
      go_wp2_with (refine wpList_build_to (by exact rfl) 67 #[(0, .const (.int .i64 1)), (1, .tmp 11)] (by exact rfl) _ (by exact rfl) HL (by exact Hb.out) ?_)
      refine hs.out.mono ?_
      cases r3 with
      | bad cN =>
        rintro e w5 ⟨S3, hS3, d5, rfl, h13⟩
        go_wp2_with fail
        exact ⟨rfl, HQ.out _ _ (by rw [HE.out]; exact ⟨S3, HS.out.trans hS3, D12.out.trans d5, rfl, (h13.to (by ac_rfl : _ = heldA w4.heap.size (newHd 1 2) * (workA x S3 st3 * (pool S3 * (emp * F))))).right⟩)⟩
      | ok u3 =>
        rintro e w5 ⟨S3, v5, hS3, d5, rfl, h13⟩
        obtain ⟨rfl, h14⟩ := Sat.fact_iff.1 h13
        go_wp2_with fail
        go_end0
        exact HQ.out _ _ (by rw [HE.out]; exact ⟨S3, _, HS.out.trans hS3, D12.out.trans d5, rfl, Sat.fact_iff.2 ⟨rfl, (h14.to (by ac_rfl : _ = heldA w4.heap.size (newHd 1 2) * (workA x S3 st3 * (pool S3 * (emp * F))))).right⟩⟩)
def cntP (h : Hd) (k : Nat) : Nat := (h.pages.take k).countP (fun p => decide (p ≠ 0))
theorem cntP_le (h : Hd) (k : Nat) : cntP h k ≤ k := Nat.le_trans List.countP_le_length (List.length_take_le _ _)
theorem cntP_succ {h : Hd} (hf : h.fit) {k : Nat} (hk : k < 256) : cntP h (k + 1) = cntP h k + if h.page k = 0 then 0 else 1 := by
  unfold cntP
  have hk2 : k < h.pages.length := by rw [Hd.pages_length hf]; exact hk
  rw [List.take_succ_eq_append_getElem hk2, List.countP_append, Hd.page_pages hf, List.getD, List.getElem?_eq_getElem hk2]
  simp only [Option.getD_some, List.countP_singleton, decide_not, Bool.not_eq_true', decide_eq_false_iff_not]
  by_cases h0 : h.pages[k] = 0
  · simp [h0]
  · simp [h0]
def NeedRel (h : Hd) (w : World) (u5 u10 : Value) (wr : World) : Prop := ∃ k : Nat, k ≤ 256 ∧ u10 = .int .i64 (k : Int) ∧ u5 = .int .i64 ((1 + cntP h k : Nat) : Int) ∧ w = wr
set_option maxRecDepth 100000 in
set_option maxHeartbeats 2000000 in
theorem need_job {c : Cx σ} (hc : c.Ok) {n : Nat} (node : Int) (nb : Nat) : Job c n 43 #[.pointer (some ⟨nb, 0, none⟩)] natR (intA nb node) (wneedb c.ask n node) := by
  intro x w S st F hx1 hx2 h
  subst hx1 hx2
  have cn : w.cell? ⟨nb, 0, none⟩ = some (.int .i64 node) := (h.to (by ac_rfl : _ = intA nb node * (workA x S st * (pool S * F)))).cell 0
  show Calls Try.prog 43 #[.pointer (some ⟨x.k, 0, none⟩), .pointer (some ⟨nb, 0, none⟩)] w _
  refine callsQ fun Q HQ => ?_
  have hl := load_anyW x hc w S st node _ h
  obtain ⟨⟨r, st1⟩, hp⟩ : ∃ p, wload x.c.ask x.n node st = p := ⟨_, rfl⟩
  rw [hp] at hl
  clear h
  cases r with
  | bad cN =>
    have HE := SL.hid (show wneedb x.c.ask x.n node st = (.bad cN, st1) from WM.bind_bad hp)
    clear hp
    go_enter Try.func43, Try.ntmps43
    go_wp2_with fail
    (with_reducible refine hl.mono ?_)
    rintro e w2 ⟨S', hS, d2, rfl, h2⟩
    go_wp2_with fail
    exact ⟨rfl, HQ.out _ _ (by rw [HE.out]; exact ⟨S', hS, d2, rfl, h2⟩)⟩
  | ok hh =>
    have HE := SL.hid (show wneedb x.c.ask x.n node st = (.ok hh.need, st1) from WM.bind_ok hp)
    clear hp
    go_enter Try.func43, Try.ntmps43
    go_wp2_with fail
    (with_reducible refine hl.mono ?_)
    rintro e w2 ⟨S', v, hS, d2, rfl, h2⟩
    obtain ⟨hb, rfl, h3⟩ := Sat.heldR h2
    have hf := Sat.heldFit h3
    have c20 : w2.cell? ⟨hb, 20, none⟩ = some (.int .i64 hh.n.rw) := held_rw hf (Sat.held.1 h3).2
    have Hpg := SL.hid (fun i hi => page_any w2 hb hh _ h3 i hi)
    have H3 := SL.hid h3; have Hf := SL.hid hf
    clear h2 h3 hf hl cn
    go_wp2_with fail
    go_loopw [5, 10] (fun u5 u10 wr => NeedRel hh w2 u5 u10 wr) (fun u5 u10 _ => 256 - (intOf u10).toNat)
    case atStart => exact ⟨0, Nat.zero_le _, rfl, rfl, rfl⟩
    case round =>
      obtain ⟨k, hk, rfl, rfl, rfl⟩ := hrel
      have hcl := cntP_le hh k
      by_cases hlt : k < 256
      · have hlt' : (k : Int) < 256 := by omega
        have hpg := Hpg.out k hlt
        have hsc := cntP_succ Hf.out hlt
        unfold IntQ at hpg
        by_cases h0 : hh.page k = 0
        · rw [h0] at hpg
          rw [if_pos h0] at hsc
          have Hsc := SL.hid hsc
          clear h0 hsc
          go_wp2_with fail
          (with_reducible refine hpg.mono ?_)
          rintro e w3 ⟨rfl, rfl⟩
          go_wp2_with fail
          go_roundw
          case rel => exact ⟨k + 1, by omega, by go_num, by rw [Hsc.out, Nat.add_zero]; congr 1, rfl⟩
          case measure => simp [intOf]; omega
        · rw [if_neg h0] at hsc
          have Hsc := SL.hid hsc
          have h1 : (hh.page k != 0) = true := by simpa using h0
          obtain ⟨t, ht⟩ : ∃ t, 1 + cntP hh k = t := ⟨_, rfl⟩
          have ht2 : (t : Int) ≤ 1000 := by omega
          have ht3 : 0 ≤ (t : Int) := by omega
          rw [ht]
          have Ht := SL.hid ht
          clear h0 hsc ht
          generalize hh.page k = y at *
          go_wp2_with fail
          (with_reducible refine hpg.mono ?_)
          rintro e w3 ⟨rfl, rfl⟩
          go_wp2_with fail
          go_roundw
          case rel => exact ⟨k + 1, by omega, by go_num, by rw [Hsc.out, ← Nat.add_assoc, Ht.out]; go_num, rfl⟩
          case measure => simp [intOf]; omega
      · obtain rfl : k = 256 := by omega
        have hneed : hh.need = (1 + cntP hh 256) + if hh.n.rw = 0 then 0 else 1 := by
          unfold Hd.need cntP
          rw [List.take_of_length_le (by rw [Hd.pages_length Hf.out]; exact Nat.le_refl _)]
        have Hneed := SL.hid hneed
        obtain ⟨t, ht⟩ : ∃ t, 1 + cntP hh 256 = t := ⟨_, rfl⟩
        have ht2 : (t : Int) ≤ 1000 := by omega
        have ht3 : 0 ≤ (t : Int) := by omega
        rw [ht]
        have Ht := SL.hid ht
        clear hneed ht hcl hlt
        have hfin : ∀ z : Nat, z = hh.need → Q (.returned (.int .i64 (z : Int))) w2 := fun z hz => HQ.out _ _ (by
          rw [HE.out]
          exact ⟨S', _, hS, d2, rfl, Sat.fact_iff.2 ⟨by rw [hz], H3.out.right⟩⟩)
        have Hfin := SL.hid hfin
        clear hfin
        by_cases hrw : hh.n.rw = 0
        · rw [hrw] at c20
          have HN := SL.hid (show t = hh.need by rw [Hneed.out, Ht.out, if_pos hrw, Nat.add_zero])
          clear hrw
          go_wp2_with fail
          exact Hfin.out t HN.out
        · have h1 : (hh.n.rw != 0) = true := by simpa using hrw
          have HN := SL.hid (show t + 1 = hh.need by rw [Hneed.out, Ht.out, if_neg hrw])
          have hw1 : wrap64 ((t : Int) + 1) = ((t + 1 : Nat) : Int) := by unfold wrap64; omega
          clear hrw
          generalize hh.n.rw = y at *
          go_wp2_with fail
          exact Hfin.out (t + 1) HN.out
end
end Go.Proofs.Ytaoohjeaaccnfaa.Fs

/- file: the jobs of New, Links, Node, Left. file: the jobs of Links, Node, Left. file: the jobs of Left, Format, Need. file: Free's job. -/
import Derived.Test.YtaoohjeaaccnfaaGreatFu
import Derived.Test.YtaoohjeaaccnfaaGreatFh
namespace Go.SL
set_option linter.unusedVariables false
set_option linter.unusedSimpArgs false
open Go.RowKit
section
variable {σ : Type}
def newHd (id : Nat) (kd : Int) : Hd := ⟨id, ⟨kd, 1, 0, List.replicate 16 0, 0⟩, List.replicate 240 0⟩
def wnewK (kd : Int) (id : Nat) : WM σ Nat := WM.bind (wsave (newHd id kd)) fun _ => WM.pure id
def wnew (ask : Asks σ) (n : Nat) (kd : Int) : WM σ Nat := fun st => if kd = 1 ∨ kd = 2 then (WM.bind (wtake ask n) (wnewK kd)) st else (.bad 1, st)
end
end Go.SL
namespace Go.Proofs.YtaoohjeaaccnfaaGreat.Fs
set_option linter.unusedVariables false
set_option linter.unusedSimpArgs false
open Go.RowKit Go.SL Go.Proofs.YtaoohjeaaccnfaaGreat.Ba
section
variable {σ α : Type}
def intA (b : Nat) (z : Int) : Assn := pt b (.cells #[.int .i64 z] 3 (0, 0))
theorem newHd_fit (id : Nat) (kd : Int) : (newHd id kd).fit := ⟨rfl, rfl⟩
set_option maxRecDepth 100000 in
set_option maxHeartbeats 2000000 in
theorem new_job {c : Cx σ} (hc : c.Ok) {n : Nat} (hn : n ≤ 3840) (kd : Int) (kb : Nat) : Job c n 40 #[.pointer (some ⟨kb, 0, none⟩)] natR (intA kb kd) (wnew c.ask n kd) := by
  intro x w S st F hx1 hx2 h
  subst hx1 hx2
  have ck : w.cell? ⟨kb, 0, none⟩ = some (.int .i64 kd) := (h.to (by ac_rfl : _ = intA kb kd * (workA x S st * (pool S * F)))).cell 0
  show Calls Tryz.prog 40 #[.pointer (some ⟨x.k, 0, none⟩), .pointer (some ⟨kb, 0, none⟩)] w _
  by_cases hk : kd = 1 ∨ kd = 2
  · have ht := wtake_any x hc hn w S st _ h
    have hE : wnew x.c.ask x.n kd st = (WM.bind (wtake x.c.ask x.n) (wnewK kd)) st := if_pos hk
    rw [hE]
    obtain ⟨⟨r, st1⟩, hp⟩ : ∃ p, wtake x.c.ask x.n st = p := ⟨_, rfl⟩
    rw [hp] at ht
    clear hE h
    cases r with
    | bad cN =>
      rw [WM.bind_bad hp]
      clear hp
      rcases hk with rfl | rfl
      all_goals
        go_enter Tryz.func40, Tryz.ntmps40
        go_wp2_with fail
        (with_reducible refine (need_yes w).mono ?_)
        rintro e w2 ⟨rfl, rfl⟩
        go_wp2_with fail
        (with_reducible refine ht.mono ?_)
        rintro e w2 ⟨S', hS, d2, rfl, h2⟩
        go_wp2_with fail
        exact ⟨rfl, S', hS, d2, rfl, h2⟩
    | ok id =>
      rw [WM.bind_ok hp]
      clear hp
      have hbu := built_held (id : Int) (newHd id kd).n (newHd_fit id kd).1
      have Hbu := SL.hid hbu
      obtain ⟨HL, hHL⟩ : ∃ L, L = ints ((id : Int) :: ((newHd id kd).n.l ++ List.replicate 240 0)) := ⟨_, rfl⟩
      rw [← hHL] at hbu
      have hHL2 : HL = ints (newHd id kd).l := hHL
      have HHL := SL.hid hHL2
      clear Hbu hHL hHL2
      have hfin : ∀ p, wsave (newHd id kd) st1 = p → ∀ r st2, p = (r, st2) → wnewK kd id st1 = (match r with | .ok _ => .ok id | .bad c => .bad c, st2) := by
        intro p hp r st2 he
        subst he
        cases r with
        | ok u => exact WM.bind_ok hp
        | bad c => exact WM.bind_bad hp
      obtain ⟨⟨r2, st2⟩, hp2⟩ : ∃ p, wsave (newHd id kd) st1 = p := ⟨_, rfl⟩
      have hE2 := hfin _ hp2 r2 st2 rfl
      rw [hE2]
      have hsv := fun w S hb F h Q hQ => save_any x w S st1 hb (newHd id kd) F h Q hQ
      rw [hp2] at hsv
      have Hsv := SL.hid hsv
      have hfit := newHd_fit id kd
      have Hfit := SL.hid hfit
      clear hfin hE2 hp2 hsv hfit
      rcases hk with rfl | rfl
      all_goals
        have Hb := SL.hid hbu
        clear hbu
        go_enter Tryz.func40, Tryz.ntmps40
        go_wp2_with fail
        (with_reducible refine (need_yes w).mono ?_)
        rintro e w2 ⟨rfl, rfl⟩
        go_wp2_with fail
        (with_reducible refine ht.mono ?_)
        rintro e w2 ⟨S', v, hS, d2, rfl, h2⟩
        obtain ⟨rfl, h3⟩ := Sat.fact_iff.1 h2
        have ck2 : w2.cell? ⟨kb, 0, none⟩ = some _ := (h3.to (by ac_rfl : _ = intA kb _ * (workA x S' st1 * (pool S' * F)))).cell 0
        clear ck
        have h4 := h3.alloc (.cells HL 75 (0, 0))
        have h5 : Sat (w2.alloc (.cells HL 75 (0, 0))) (heldA w2.heap.size (newHd id _) * (workA x S' st1 * (pool S' * (intA kb _ * F)))) := Sat.held.2 ⟨Hfit.out, by rw [HHL.out] at h4 ⊢; exact h4⟩
        have D5 := d2.alloc (.cells HL 75 (0, 0))
        have H5 := SL.hid h5
        clear h2 h3 h4 h5 ht
        go_wp2_with (refine wpList_build_to (by exact rfl) 75 #[(0, .tmp 15), (1, .tmp 17)] (by exact rfl) _ (by exact rfl) HL (by exact Hb.out) ?_)
        refine Hsv.out _ S' _ _ H5.out _ ?_
        clear H5 Hsv
        generalize w2.alloc (.cells HL 75 (0, 0)) = w3 at *
        cases r2 with
        | bad cN =>
          rintro e w4 ⟨S2, hS2, d4, rfl, h6⟩
          go_wp2_with fail
          exact ⟨rfl, S2, hS.trans hS2, D5.trans d4, rfl, (h6.to (by ac_rfl : _ = heldA w2.heap.size (newHd id _) * (workA x S2 st2 * (pool S2 * (intA kb _ * F))))).right⟩
        | ok u =>
          rintro e w4 ⟨S2, v4, hS2, d4, rfl, h6⟩
          obtain ⟨rfl, h7⟩ := Sat.fact_iff.1 h6
          go_wp2_with fail
          go_ret
          exact ⟨S2, _, hS.trans hS2, D5.trans d4, rfl, Sat.fact_iff.2 ⟨rfl, (h7.to (by ac_rfl : _ = heldA w2.heap.size (newHd id _) * (workA x S2 st2 * (pool S2 * (intA kb _ * F))))).right⟩⟩
  · have hE : wnew x.c.ask x.n kd st = (.bad 1, st) := if_neg hk
    rw [hE]
    have h1 : (kd == 1) = false := by simp; omega
    have h2 : (kd == 2) = false := by simp; omega
    clear hE hk
    go_enter Tryz.func40, Tryz.ntmps40
    go_wp2_with fail
    (with_reducible refine (need_no w).mono ?_)
    rintro e w2 ⟨rfl, rfl⟩
    go_wp2_with fail
    exact ⟨rfl, S, Ext.refl S, Side.refl w, rfl, h⟩
end
end Go.Proofs.YtaoohjeaaccnfaaGreat.Fs
namespace Go.SL
set_option linter.unusedVariables false
set_option linter.unusedSimpArgs false
open Go.RowKit
section
variable {σ α β : Type}
def Hd.setLk (h : Hd) (z : Int) : Hd := { h with n := { h.n with lk := z } }
def wlinksZ (h : Hd) (z : Int) : WM σ Unit := fun st => if 0 ≤ z ∧ z ≤ 65535 then wsave (h.setLk z) st else (.bad 1, st)
def wlinks (ask : Asks σ) (n : Nat) (node d : Int) : WM σ Unit := WM.bind (wload ask n node) fun h => wlinksZ h (wrap64 (h.n.lk + d))
def wnode (ask : Asks σ) (n : Nat) (node : Int) : WM σ Nd := WM.bind (wload ask n node) fun h => WM.pure h.n
def wleft (ask : Asks σ) (n : Nat) : WM σ Nat := WM.bind (wbits ask) fun l => WM.pure (n - (takenL l n).length)
theorem Hd.setLk_fit {h : Hd} (hf : h.fit) (z : Int) : (h.setLk z).fit := hf
theorem Hd.setLk_l (h : Hd) (z : Int) : (h.setLk z).l = h.l.set 2 z := rfl
end
end Go.SL
namespace Go.Proofs.YtaoohjeaaccnfaaGreat.Fs
set_option linter.unusedVariables false
set_option linter.unusedSimpArgs false
open Go.RowKit Go.SL Go.Proofs.YtaoohjeaaccnfaaGreat.Ba
section
variable {σ α : Type}
/-- load, as what it comes to. -/
theorem load_anyW (x : Wk σ) (hc : x.c.Ok) (w : World) (S : Hp) (st : Wst σ) (id : Int) (F : Assn) (h : Sat w (workA x S st * (pool S * F))) :
    Calls Tryz.prog 35 #[.pointer (some ⟨x.k, 0, none⟩), .int .i64 id] w (WQ x heldR S F w (wload x.c.ask x.n id st)) :=
  load_any x hc w S st id F h _ fun _ _ h => h
theorem save_anyW (x : Wk σ) (w : World) (S : Hp) (st : Wst σ) (hb : Nat) (h : Hd) (F : Assn) (hs : Sat w (heldA hb h * (workA x S st * (pool S * F)))) :
    Calls Tryz.prog 43 #[.pointer (some ⟨x.k, 0, none⟩), .pointer (some ⟨hb, 0, none⟩)] w (WQ x unitR S (heldA hb h * F) w (wsave h st)) :=
  save_any x w S st hb h F hs _ fun _ _ h => h
theorem Sat.heldR {w : World} {h : Hd} {v : Value} {F : Assn} (hs : Sat w (heldR h v * F)) : ∃ hb, v = .pointer (some ⟨hb, 0, none⟩) ∧ Sat w (heldA hb h * F) := by
  obtain ⟨hb, h1⟩ := Sat.ex_star_iff.1 hs
  obtain ⟨h2, h3⟩ := Sat.fact_iff.1 (h1.to (star_assoc _ _ _))
  exact ⟨hb, h2, h3⟩
theorem held_cell {w : World} {hb : Nat} {h : Hd} {F : Assn} (hs : Sat w (heldA hb h * F)) {j : Nat} (hj : j < 261) : w.cell? ⟨hb, j, none⟩ = some (.int .i64 (h.l.getD j 0)) ∧ w.frozen? ⟨hb, j, none⟩ = false := by
  obtain ⟨hf, h2⟩ := Sat.held.1 hs
  exact ⟨by rw [h2.cell, get_ints_lt (by rw [Hd.l_length hf]; exact hj)], h2.frozen j⟩
theorem held_set {w : World} {hb : Nat} {h h' : Hd} {F : Assn} (hs : Sat w (heldA hb h * F)) {j : Nat} {z : Int} (hf : h'.fit) (hl : h'.l = h.l.set j z) : Sat (w.setCell ⟨hb, j, none⟩ (.int .i64 z)) (heldA hb h' * F) := by
  obtain ⟨_, h2⟩ := Sat.held.1 hs
  refine Sat.held.2 ⟨hf, ?_⟩
  have := h2.setCell j (.int .i64 z)
  rw [set_ints] at this
  rw [hl]; exact this
theorem Sat.heldFit {w : World} {hb : Nat} {h : Hd} {F : Assn} (hs : Sat w (heldA hb h * F)) : h.fit := (Sat.held.1 hs).1
theorem nodeone_results {w : World} {tmps : Array Value} {a : Nat} {X : Array Value} {F : Assn} (h3 : tmps[3]? = some (ptV a)) (ha : Sat w (pt a (.cells X 35 (0, 0)) * F)) (hX : X.size = 20) :
    (results Tryz.f34 tmps).run Tryz.prog w = .ok (.agg X) w := by
  have hl := run_loadVar_row (P := Tryz.prog) w a 35 35 X (0, 0) _ ha.heap Tryz.underlying35 rfl (by rw [hX]; exact info_node0)
  simp [results, Tryz.results34, h3, asAddr, hl]
set_option maxRecDepth 100000 in
set_option maxHeartbeats 2000000 in
theorem node_job {c : Cx σ} (hc : c.Ok) {n : Nat} (node : Int) (nb : Nat) : Job c n 34 #[.pointer (some ⟨nb, 0, none⟩)] nodeR (intA nb node) (wnode c.ask n node) := by
  intro x w S st F hx1 hx2 h
  subst hx1 hx2
  show Calls Tryz.prog 34 #[.pointer (some ⟨x.k, 0, none⟩), .pointer (some ⟨nb, 0, none⟩)] w _
  have h1 := h.alloc (.cells #[.int .i64 0, .int .i64 0, .int .i64 0, .int .i64 0, .int .i64 0, .int .i64 0, .int .i64 0, .int .i64 0, .int .i64 0, .int .i64 0, .int .i64 0, .int .i64 0, .int .i64 0, .int .i64 0, .int .i64 0, .int .i64 0, .int .i64 0, .int .i64 0, .int .i64 0, .int .i64 0] 35 (0, 0))
  have D1 := (Side.refl w).alloc (.cells #[.int .i64 0, .int .i64 0, .int .i64 0, .int .i64 0, .int .i64 0, .int .i64 0, .int .i64 0, .int .i64 0, .int .i64 0, .int .i64 0, .int .i64 0, .int .i64 0, .int .i64 0, .int .i64 0, .int .i64 0, .int .i64 0, .int .i64 0, .int .i64 0, .int .i64 0, .int .i64 0] 35 (0, 0))
  have h2 := h1.to (by ac_rfl : _ = workA x S st * (pool S * (intA nb node * (pt w.heap.size (.cells #[.int .i64 0, .int .i64 0, .int .i64 0, .int .i64 0, .int .i64 0, .int .i64 0, .int .i64 0, .int .i64 0, .int .i64 0, .int .i64 0, .int .i64 0, .int .i64 0, .int .i64 0, .int .i64 0, .int .i64 0, .int .i64 0, .int .i64 0, .int .i64 0, .int .i64 0, .int .i64 0] 35 (0, 0)) * F))))
  have cn : (w.alloc (.cells #[.int .i64 0, .int .i64 0, .int .i64 0, .int .i64 0, .int .i64 0, .int .i64 0, .int .i64 0, .int .i64 0, .int .i64 0, .int .i64 0, .int .i64 0, .int .i64 0, .int .i64 0, .int .i64 0, .int .i64 0, .int .i64 0, .int .i64 0, .int .i64 0, .int .i64 0, .int .i64 0] 35 (0, 0))).cell? ⟨nb, 0, none⟩ = some (.int .i64 node) := h2.front3.cell 0
  have hl := load_anyW x hc _ S st node _ h2
  obtain ⟨⟨r, st1⟩, hp⟩ : ∃ p, wload x.c.ask x.n node st = p := ⟨_, rfl⟩
  rw [hp] at hl
  have hz := SL.hid h1.heap
  clear h1 h2 h
  cases r with
  | bad cN =>
    have hE : wnode x.c.ask x.n node st = (.bad cN, st1) := WM.bind_bad hp
    rw [hE]
    clear hE hp
    go_enter Tryz.func34, Tryz.ntmps34
    go_wp2_with fail
    (with_reducible refine hl.mono ?_)
    rintro e w2 ⟨S', hS, d2, rfl, h2⟩
    go_wp2_with fail
    exact ⟨rfl, S', hS, D1.trans d2, rfl, (h2.to (by ac_rfl : _ = pt w.heap.size (.cells #[.int .i64 0, .int .i64 0, .int .i64 0, .int .i64 0, .int .i64 0, .int .i64 0, .int .i64 0, .int .i64 0, .int .i64 0, .int .i64 0, .int .i64 0, .int .i64 0, .int .i64 0, .int .i64 0, .int .i64 0, .int .i64 0, .int .i64 0, .int .i64 0, .int .i64 0, .int .i64 0] 35 (0, 0)) * (workA x S' st1 * (pool S' * (intA nb node * F))))).right⟩
  | ok hh =>
    have hE : wnode x.c.ask x.n node st = (.ok hh.n, st1) := WM.bind_ok hp
    rw [hE]
    clear hE hp
    go_enter Tryz.func34, Tryz.ntmps34
    go_wp2_with fail
    (with_reducible refine hl.mono ?_)
    rintro e w2 ⟨S', v, hS, d2, rfl, h2⟩
    obtain ⟨hb, rfl, h3⟩ := Sat.heldR h2
    have hf := Sat.heldFit h3
    have hrow := SL.hid (held_node hf (Sat.held.1 h3).2)
    have hinf : (Tryz.prog.info? 35).map (·.size) = some (hh.n.l.map (Value.int .i64)).length := by rw [List.length_map, Nd.cells hf.1]; exact info_node0
    have hsz : (hh.n.l.map (Value.int .i64)).toArray.size = 20 := by simp [Nd.cells hf.1]
    have hinf2 : (Tryz.prog.info? 35).map (·.size) = some (hh.n.l.map (Value.int .i64)).toArray.size := by rw [hsz]; exact info_node0
    have hone : (hh.n.l.map (Value.int .i64)).toArray.all (·.oneCell') = true := by simp [Value.oneCell']
    have h4 : Sat w2 (pt w.heap.size (.cells #[.int .i64 0, .int .i64 0, .int .i64 0, .int .i64 0, .int .i64 0, .int .i64 0, .int .i64 0, .int .i64 0, .int .i64 0, .int .i64 0, .int .i64 0, .int .i64 0, .int .i64 0, .int .i64 0, .int .i64 0, .int .i64 0, .int .i64 0, .int .i64 0, .int .i64 0, .int .i64 0] 35 (0, 0)) * (heldA hb hh * (workA x S' st1 * (pool S' * (intA nb node * F))))) := h3.to (by ac_rfl)
    have Hz4 := SL.hid h4.heap
    have h5 := h4.setRow (cs' := (hh.n.l.map (Value.int .i64)).toArray)
    have D5 := SL.hid ((D1.trans d2).setRow w.heap.size (hh.n.l.map (Value.int .i64)).toArray)
    have H5 := SL.hid h5; have Hinf := SL.hid hinf; have Hinf2 := SL.hid hinf2; have Hone := SL.hid hone; have Hsz := SL.hid hsz; have Hf := SL.hid hf
    clear h2 h3 h4 h5 hinf hinf2 hone hf hl hz cn d2 hsz
    go_wp2_with (first
      | (refine wpList_load_mid (by exact rfl) 35 (.tmp 8) (by exact rfl) hb 1 (by exact rfl) (hh.n.l.map (Value.int .i64)) _ (by with_reducible exact hrow.out) Tryz.underlying35 rfl (by with_reducible exact Hinf.out) ?_)
      | (refine wpList_store_row (by exact rfl) 35 (.tmp 3) (.tmp 9) (by exact rfl) w.heap.size (hh.n.l.map (Value.int .i64)).toArray (by exact rfl) (by exact rfl) 35 #[.int .i64 0, .int .i64 0, .int .i64 0, .int .i64 0, .int .i64 0, .int .i64 0, .int .i64 0, .int .i64 0, .int .i64 0, .int .i64 0, .int .i64 0, .int .i64 0, .int .i64 0, .int .i64 0, .int .i64 0, .int .i64 0, .int .i64 0, .int .i64 0, .int .i64 0, .int .i64 0] (by with_reducible exact Hz4.out) Hinf2.out (by rw [Hsz.out]; rfl) Hone.out ?_))
    exact bodyPost_ret (nodeone_results rfl H5.out Hsz.out) rfl ⟨S', _, hS, D5.out, rfl, Sat.fact_iff.2 ⟨⟨rfl, Hf.out.1⟩, H5.out.right.right⟩⟩
end
end Go.Proofs.YtaoohjeaaccnfaaGreat.Fs
namespace Go.SL
set_option linter.unusedVariables false
set_option linter.unusedSimpArgs false
open Go.RowKit
section
variable {σ : Type}
/-- Format's job, behind the bitmap. -/
def wformat (ask : Asks σ) : WM σ Unit := fun st => (WM.bind (wmark ask 0 true) fun _ => WM.bind (wmark ask 1 true) fun _ => wsave (newHd 1 2)) { st with bits := some (zs 480) }
def Hd.pages (h : Hd) : List Int := h.n.dr ++ h.row
def Hd.need (h : Hd) : Nat := 1 + h.pages.countP (fun p => decide (p ≠ 0)) + if h.n.rw = 0 then 0 else 1
def wneedb (ask : Asks σ) (n : Nat) (node : Int) : WM σ Nat := WM.bind (wload ask n node) fun h => WM.pure h.need
theorem Hd.pages_length {h : Hd} (hf : h.fit) : h.pages.length = 256 := by simp [Hd.pages, hf.1, hf.2]
theorem Hd.page_pages {h : Hd} (hf : h.fit) (i : Nat) : h.page i = h.pages.getD i 0 := by
  unfold Hd.page Hd.pages
  split
  · rename_i hi; rw [List.getD, List.getD, List.getElem?_append_left (by rw [hf.1]; exact hi)]
  · rename_i hi; rw [List.getD, List.getD, List.getElem?_append_right (by rw [hf.1]; omega), hf.1]
end
end Go.SL
namespace Go.Proofs.YtaoohjeaaccnfaaGreat.Fs
set_option linter.unusedVariables false
set_option linter.unusedSimpArgs false
open Go.RowKit Go.SL Go.Proofs.YtaoohjeaaccnfaaGreat.Ba
section
variable {σ α : Type}
set_option maxRecDepth 100000 in
set_option maxHeartbeats 2000000 in
theorem left_job {c : Cx σ} (hc : c.Ok) {n : Nat} (hn : n ≤ 3840) : Job c n 37 #[] natR emp (wleft c.ask n) := by
  intro x w S st F hx1 hx2 h
  subst hx1 hx2
  show Calls Tryz.prog 37 #[.pointer (some ⟨x.k, 0, none⟩)] w _
  have c1 : w.cell? ⟨x.k, 1, none⟩ = some (.int .i64 (x.n : Int)) := workX1 h
  have hb := fun (w : World) h => bitmap_any x hc w S st (emp * F) h
  obtain ⟨⟨r, st1⟩, hp⟩ : ∃ p, wbits x.c.ask st = p := ⟨_, rfl⟩
  rw [hp] at hb
  cases r with
  | bad cN =>
    have hE : wleft x.c.ask x.n st = (.bad cN, st1) := WM.bind_bad hp
    rw [hE]
    clear hE hp
    go_enter Tryz.func37, Tryz.ntmps37
    go_wp2_with fail
    refine wp_region_held_drew (S := (fun w' => w'.cell? ⟨x.k, 1, none⟩ = some (.int .i64 (x.n : Int)))) (by kernel_rfl) ?_ (fun hHeld => ?_)
    · (first | exact c1 | go_keep)
    refine wpAnyH_take (i := 0) (v := ?_) rfl (by kernel_rfl) (by kernel_rfl) (by kernel_rfl) (fun _ _ _ h => h) (Or.inl ⟨by kernel_rfl, ?_⟩) (by assumption) ?_
    rotate_left
    · intro w hSw; (try dsimp only at hSw); go_simp; try with_reducible rfl
    try simp only [List.getElem_toArray, List.getElem_cons_succ, List.getElem_cons_zero, Act.put, List.setIfInBounds_toArray, List.set_cons_zero, List.set_cons_succ]
    refine wpAnyH_take (i := 1) (v := ?_) rfl (by kernel_rfl) (by kernel_rfl) (by kernel_rfl) (fun _ _ _ h => h) (Or.inl ⟨by kernel_rfl, ?_⟩) (by assumption) ?_
    rotate_left
    · intro w hSw; (try dsimp only at hSw); go_simp; try with_reducible rfl
    try simp only [List.getElem_toArray, List.getElem_cons_succ, List.getElem_cons_zero, Act.put, List.setIfInBounds_toArray, List.set_cons_zero, List.set_cons_succ]
    refine wpAnyH_take (i := 2) (v := ?_) rfl (by kernel_rfl) (by kernel_rfl) (by kernel_rfl) (fun _ _ _ h => h) (Or.inl ⟨by kernel_rfl, ?_⟩) (by assumption) ?_
    rotate_left
    · intro w hSw; (try dsimp only at hSw); go_simp; try with_reducible rfl
    try simp only [List.getElem_toArray, List.getElem_cons_succ, List.getElem_cons_zero, Act.put, List.setIfInBounds_toArray, List.set_cons_zero, List.set_cons_succ]
    refine wpAnyH_take (i := 3) (v := ?_) rfl (by kernel_rfl) (by kernel_rfl) (by kernel_rfl) (fun _ _ _ h => h) (Or.inl ⟨by kernel_rfl, ?_⟩) (by assumption) ?_
    rotate_left
    · intro w hSw; (try dsimp only at hSw); go_simp; try with_reducible rfl
    try simp only [List.getElem_toArray, List.getElem_cons_succ, List.getElem_cons_zero, Act.put, List.setIfInBounds_toArray, List.set_cons_zero, List.set_cons_succ]
    refine wpAnyH_take (i := 4) (v := ?_) rfl (by kernel_rfl) (by kernel_rfl) (by kernel_rfl) (fun _ _ _ h => h) (Or.inl ⟨by kernel_rfl, ?_⟩) (by assumption) ?_
    rotate_left
    · intro w hSw; (try dsimp only at hSw); go_simp; try with_reducible rfl
    try simp only [List.getElem_toArray, List.getElem_cons_succ, List.getElem_cons_zero, Act.put, List.setIfInBounds_toArray, List.set_cons_zero, List.set_cons_succ]
    refine wpAnyH_take (i := 6) (v := ?_) rfl (by kernel_rfl) (by kernel_rfl) (by kernel_rfl) (fun _ _ _ h => h) (Or.inl ⟨by kernel_rfl, ?_⟩) (by assumption) ?_
    rotate_left
    · intro w hSw; (try dsimp only at hSw); go_simp; try with_reducible rfl
    try simp only [List.getElem_toArray, List.getElem_cons_succ, List.getElem_cons_zero, Act.put, List.setIfInBounds_toArray, List.set_cons_zero, List.set_cons_succ]
    refine wpAnyH_take (i := 7) (v := ?_) rfl (by kernel_rfl) (by kernel_rfl) (by kernel_rfl) (fun _ _ _ h => h) (Or.inl ⟨by kernel_rfl, ?_⟩) (by assumption) ?_
    rotate_left
    · intro w hSw; (try dsimp only at hSw); go_simp; try with_reducible rfl
    try simp only [List.getElem_toArray, List.getElem_cons_succ, List.getElem_cons_zero, Act.put, List.setIfInBounds_toArray, List.set_cons_zero, List.set_cons_succ]
    refine wpAnyH_take (i := 8) (v := ?_) rfl (by kernel_rfl) (by kernel_rfl) (by kernel_rfl) (fun _ _ _ h => h) (Or.inl ⟨by kernel_rfl, ?_⟩) (by assumption) ?_
    rotate_left
    · intro w hSw; (try dsimp only at hSw); go_simp; try with_reducible rfl
    try simp only [List.getElem_toArray, List.getElem_cons_succ, List.getElem_cons_zero, Act.put, List.setIfInBounds_toArray, List.set_cons_zero, List.set_cons_succ]
    refine wpAnyH_take (i := 9) (v := ?_) rfl (by kernel_rfl) (by kernel_rfl) (by kernel_rfl) (fun _ _ _ h => h) (Or.inl ⟨by kernel_rfl, ?_⟩) (by assumption) ?_
    rotate_left
    · intro w hSw; (try dsimp only at hSw); go_simp; try with_reducible rfl
    try simp only [List.getElem_toArray, List.getElem_cons_succ, List.getElem_cons_zero, Act.put, List.setIfInBounds_toArray, List.set_cons_zero, List.set_cons_succ]
    refine wpAnyH_ready (rs := [5]) (by kernel_rfl) (by simp) ?_
    refine AllReadyH.cons rfl (fun K hK => ?_) AllReadyH.nil
    go_simp
    go_wp2_with (go_at_call 39; refine (hb w.drew h.drew).mono ?_; rintro e w1 ⟨S', hS, d1, rfl, h2⟩)
    exact ⟨rfl, S', hS, (Side.refl w).drew.trans d1, rfl, h2⟩
  | ok l =>
    have hE : wleft x.c.ask x.n st = (.ok (x.n - (takenL l x.n).length), st1) := WM.bind_ok hp
    have hbl := (wbits_ok hp (bitsLen h)).1
    have Hbl := SL.hid hbl
    rw [hE]
    have htl := takenL_length l x.n
    have hct := fun w v F h hl => count_any w v l F h hl x.n hn
    have hN : (x.n : Int) ≤ 3840 := by omega
    have hN0 : 0 ≤ (x.n : Int) := by omega
    have hsub : (x.n : Int) - ((takenL l x.n).length : Int) = ((x.n - (takenL l x.n).length : Nat) : Int) := by omega
    obtain ⟨t, ht⟩ : ∃ t, (takenL l x.n).length = t := ⟨_, rfl⟩
    rw [ht] at htl hct hsub ⊢
    have ht0 : 0 ≤ (t : Int) := by omega
    have ht1 : (t : Int) ≤ (x.n : Int) := by omega
    clear hE hp hbl ht htl
    go_enter Tryz.func37, Tryz.ntmps37
    go_wp2_with fail
    go_region_held3 (fun w' => w'.cell? ⟨x.k, 1, none⟩ = some (.int .i64 (x.n : Int)))
      (first | exact c1 | exact k1 | exact k2 | go_keep)
      (first
        | (go_at_call 39; refine (hb w.drew h.drew).mono ?_; rintro e w1 ⟨S', v, hS, d1, rfl, hl, h2⟩; have k1 : w1.cell? ⟨x.k, 1, none⟩ = some (.int .i64 (x.n : Int)) := (h2.to (by unfold workX; ac_rfl : _ = pt x.k (.cells (x.cells v st1.dt) 81 (0, 0)) * (btA x.c S' x.b st1.b * (bs 5 v l * (pool S' * (emp * F)))))).cell 1)
        | (go_at_call 38; refine (hct w1 v (workX x v S' st1 * (pool S' * (emp * F))) (h2.to (by ac_rfl)) hl).mono ?_; rintro e w2 ⟨rfl, h3, d2⟩; have k2 : w2.cell? ⟨x.k, 1, none⟩ = some (.int .i64 (x.n : Int)) := (h3.to (by unfold workX; ac_rfl : _ = pt x.k (.cells (x.cells v st1.dt) 81 (0, 0)) * (btA x.c S' x.b st1.b * (bs 5 v l * (pool S' * (emp * F)))))).cell 1))
    all_goals
      go_wp2_with fail
      go_ret
      refine ⟨S', _, hS, ((Side.refl w).drew.trans d1).trans d2, rfl, Sat.fact_iff.2 ⟨?_, Sat.workShut v ?_⟩⟩
      · show Value.int .i64 _ = Value.int .i64 _; congr 1; rw [IntKind.wrap_i64]; omega
      · rw [Hbl.out]; exact (Sat.bitsSome hl h3).to (by ac_rfl)
theorem callsQ {P : Program} {f : FuncId} {args : Array Value} {w : World} {R : Ending → World → Prop} (h : ∀ Q : Ending → World → Prop, RowKit.Hid (∀ e w', R e w' → Q e w') → Calls P f args w Q) : Calls P f args w R := h R (fun _ _ h => h)
set_option maxRecDepth 100000 in
set_option maxHeartbeats 2000000 in
theorem format_job {c : Cx σ} (hc : c.Ok) {n : Nat} : Job c n 60 #[] unitR emp (wformat c.ask) := by
  intro x w S st F hx1 hx2 h
  subst hx1 hx2
  show Calls Tryz.prog 60 #[.pointer (some ⟨x.k, 0, none⟩)] w _
  refine callsQ fun Q HQ => ?_
  obtain ⟨v0, h1⟩ := Sat.workOpen h
  have hnw := bnew_any w
  obtain ⟨stA, hA⟩ : ∃ stA, stA = ({ st with bits := some (zs 480) } : Wst σ) := ⟨_, rfl⟩
  have hE : wformat x.c.ask st = (WM.bind (wmark x.c.ask 0 true) fun _ => WM.bind (wmark x.c.ask 1 true) fun _ => wsave (newHd 1 2)) stA := by rw [hA]; rfl
  have HE0 := SL.hid hE
  have HA := SL.hid hA
  have hbu := built_held 1 (newHd 1 2).n (newHd_fit 1 2).1
  obtain ⟨HL, hHL⟩ : ∃ L, L = ints ((1 : Int) :: ((newHd 1 2).n.l ++ List.replicate 240 0)) := ⟨_, rfl⟩
  rw [← hHL] at hbu
  have HHL := SL.hid (show HL = ints (newHd 1 2).l from hHL)
  have Hb := SL.hid hbu
  have hlen : (zs 480).length = 480 := length_zs 480
  have Hlen := SL.hid hlen
  clear hbu hHL hE hA h hlen
  generalize zs 480 = Z at *
  obtain ⟨⟨r1, st1⟩, hp1⟩ : ∃ p, wmark x.c.ask 0 true stA = p := ⟨_, rfl⟩
  have hm1 : ∀ (w : World) (S : Hp) (F : Assn), Sat w (workA x S stA * (pool S * F)) → Calls Tryz.prog 59 #[.pointer (some ⟨x.k, 0, none⟩), .int .i64 0, .bool true] w (WQ x unitR S F w (wmark x.c.ask 0 true stA)) := fun w S F h => mark_any x hc w S stA 0 true F (by decide) h
  rw [hp1] at hm1
  go_enter Tryz.func60, Tryz.ntmps60
  go_wp2_with fail
  (with_reducible refine hnw.mono ?_)
  rintro e w2 ⟨v, rfl, h2, d2⟩
  have h3 := h2.under h1
  obtain ⟨va, vc, rfl⟩ := sl_shape h3
  rw [Hlen.out] at h3 ⊢
  have h4 : Sat w2 (pt x.k (.cells (x.cells v0 st.dt) 81 (0, 0)) * (btA x.c S x.b st.b * (bs 5 (.slice va 480 vc) Z * (pool S * (emp * F))))) := (h3.to (by unfold workX; ac_rfl : _ = bitsA st.bits v0 * (pt x.k (.cells (x.cells v0 st.dt) 81 (0, 0)) * (btA x.c S x.b st.b * (bs 5 (.slice va 480 vc) Z * (pool S * (emp * F))))))).right
  obtain ⟨v1, n1, k1, rfl⟩ : ∃ a n c, v0 = .slice a n c := by
    rcases Sat.bitsCases (h3.to (by ac_rfl : _ = bitsA st.bits v0 * (bs 5 (.slice va 480 vc) Z * (workX x v0 S st * (pool S * (emp * F)))))) with ⟨_, rfl, _⟩ | ⟨l, _, _, hx⟩
    · exact ⟨_, _, _, rfl⟩
    · obtain ⟨a, b, e⟩ := sl_shape hx; exact ⟨_, _, _, e⟩
  have g2 : w2.cell? ⟨x.k, 2, none⟩ = some (.slice v1 n1 k1) := h4.cell 2
  have f2 : w2.frozen? ⟨x.k, 2, none⟩ = false := h4.frozen 2
  have h5 := h4.setCell 2 (.slice va 480 vc)
  have D5 := d2.setCell ⟨x.k, 2, none⟩ (.slice va 480 vc)
  have h6 : Sat (w2.setCell ⟨x.k, 2, none⟩ (.slice va 480 vc)) (workA x S stA * (pool S * (emp * F))) := by
    rw [HA.out]
    refine Sat.workShut (.slice va 480 vc) ?_
    have h7 := Sat.bitsSome Hlen.out h5.front3
    exact h7.to (by unfold workX Wk.cells; simp only [List.setIfInBounds_toArray, List.set_cons_succ, List.set_cons_zero]; ac_rfl)
  have hm := hm1 _ S _ h6
  clear hnw h1 h2 h3 h4 h5 h6 hm1
  cases r1 with
  | bad cN =>
    have hE : (WM.bind (wmark x.c.ask 0 true) fun _ => WM.bind (wmark x.c.ask 1 true) fun _ => wsave (newHd 1 2)) stA = (.bad cN, st1) := WM.bind_bad hp1
    have HE := SL.hid (HE0.out.trans hE)
    clear hE hp1
    go_wp2_with fail
    (with_reducible refine hm.mono ?_)
    rintro e w3 ⟨S', hS, d3, rfl, h7⟩
    go_wp2_with fail
    exact ⟨rfl, HQ.out _ _ (by rw [HE.out]; exact ⟨S', hS, D5.trans d3, rfl, h7⟩)⟩
  | ok u =>
    have hE : (WM.bind (wmark x.c.ask 0 true) fun _ => WM.bind (wmark x.c.ask 1 true) fun _ => wsave (newHd 1 2)) stA = (WM.bind (wmark x.c.ask 1 true) fun _ => wsave (newHd 1 2)) st1 := WM.bind_ok hp1
    have HE1 := SL.hid (HE0.out.trans hE)
    clear hE hp1
    obtain ⟨⟨r2, st2⟩, hp2⟩ : ∃ p, wmark x.c.ask 1 true st1 = p := ⟨_, rfl⟩
    have hm2 : ∀ (w : World) (S : Hp) (F : Assn), Sat w (workA x S st1 * (pool S * F)) → Calls Tryz.prog 59 #[.pointer (some ⟨x.k, 0, none⟩), .int .i64 1, .bool true] w (WQ x unitR S F w (wmark x.c.ask 1 true st1)) := fun w S F h => mark_any x hc w S st1 1 true F (by decide) h
    rw [hp2] at hm2
    cases r2 with
    | bad cN =>
      have hE : (WM.bind (wmark x.c.ask 1 true) fun _ => wsave (newHd 1 2)) st1 = (.bad cN, st2) := WM.bind_bad hp2
      have HE := SL.hid (HE1.out.trans hE)
      clear hE hp2
      go_wp2_with fail
      (with_reducible refine hm.mono ?_)
      rintro e w3 ⟨S', v3, hS, d3, rfl, h7⟩
      obtain ⟨rfl, h8⟩ := Sat.fact_iff.1 h7
      go_wp2_with fail
      (with_reducible refine (hm2 w3 S' _ h8).mono ?_)
      rintro e w4 ⟨S2, hS2, d4, rfl, h9⟩
      go_wp2_with fail
      exact ⟨rfl, HQ.out _ _ (by rw [HE.out]; exact ⟨S2, hS.trans hS2, (D5.trans d3).trans d4, rfl, h9⟩)⟩
    | ok u2 =>
      have hE : (WM.bind (wmark x.c.ask 1 true) fun _ => wsave (newHd 1 2)) st1 = wsave (newHd 1 2) st2 := WM.bind_ok hp2
      have HE2 := SL.hid (HE1.out.trans hE)
      clear hE hp2
      have hsv := fun w S hb F h => save_anyW x w S st2 hb (newHd 1 2) F h
      obtain ⟨⟨r3, st3⟩, hp3⟩ : ∃ p, wsave (newHd 1 2) st2 = p := ⟨_, rfl⟩
      rw [hp3] at hsv
      have HE := SL.hid (HE2.out.trans hp3)
      have Hsv := SL.hid hsv
      clear hp3 hsv
      go_wp2_with fail
      (with_reducible refine hm.mono ?_)
      rintro e w3 ⟨S', v3, hS, d3, rfl, h7⟩
      obtain ⟨rfl, h8⟩ := Sat.fact_iff.1 h7
      go_wp2_with fail
      (with_reducible refine (hm2 w3 S' _ h8).mono ?_)
      rintro e w4 ⟨S2, v4, hS2, d4, rfl, h9⟩
      obtain ⟨rfl, h10⟩ := Sat.fact_iff.1 h9
      have h11 := h10.alloc (.cells HL 75 (0, 0))
      have h12 : Sat (w4.alloc (.cells HL 75 (0, 0))) (heldA w4.heap.size (newHd 1 2) * (workA x S2 st2 * (pool S2 * (emp * F)))) := Sat.held.2 ⟨newHd_fit 1 2, by rw [HHL.out] at h11 ⊢; exact h11⟩
      have D12 := SL.hid (((D5.trans d3).trans d4).alloc (.cells HL 75 (0, 0)))
      have HS := SL.hid (hS.trans hS2)
      have hs := SL.hid (Hsv.out _ _ _ _ h12)
      clear hm hm2 h7 h8 h9 h10 h11 h12 Hsv D5 d3 d4 hS hS2
      go_wp2_with (refine wpList_build_to (by exact rfl) 75 #[(0, .const (.int .i64 1)), (1, .tmp 11)] (by exact rfl) _ (by exact rfl) HL (by exact Hb.out) ?_)
      refine hs.out.mono ?_
      cases r3 with
      | bad cN =>
        rintro e w5 ⟨S3, hS3, d5, rfl, h13⟩
        go_wp2_with fail
        exact ⟨rfl, HQ.out _ _ (by rw [HE.out]; exact ⟨S3, HS.out.trans hS3, D12.out.trans d5, rfl, (h13.to (by ac_rfl : _ = heldA w4.heap.size (newHd 1 2) * (workA x S3 st3 * (pool S3 * (emp * F))))).right⟩)⟩
      | ok u3 =>
        rintro e w5 ⟨S3, v5, hS3, d5, rfl, h13⟩
        obtain ⟨rfl, h14⟩ := Sat.fact_iff.1 h13
        go_wp2_with fail
        go_end0
        exact HQ.out _ _ (by rw [HE.out]; exact ⟨S3, _, HS.out.trans hS3, D12.out.trans d5, rfl, Sat.fact_iff.2 ⟨rfl, (h14.to (by ac_rfl : _ = heldA w4.heap.size (newHd 1 2) * (workA x S3 st3 * (pool S3 * (emp * F))))).right⟩⟩)
def cntP (h : Hd) (k : Nat) : Nat := (h.pages.take k).countP (fun p => decide (p ≠ 0))
theorem cntP_le (h : Hd) (k : Nat) : cntP h k ≤ k := Nat.le_trans List.countP_le_length (List.length_take_le _ _)
theorem cntP_succ {h : Hd} (hf : h.fit) {k : Nat} (hk : k < 256) : cntP h (k + 1) = cntP h k + if h.page k = 0 then 0 else 1 := by
  unfold cntP
  have hk2 : k < h.pages.length := by rw [Hd.pages_length hf]; exact hk
  rw [List.take_succ_eq_append_getElem hk2, List.countP_append, Hd.page_pages hf, List.getD, List.getElem?_eq_getElem hk2]
  simp only [Option.getD_some, List.countP_singleton, decide_not, Bool.not_eq_true', decide_eq_false_iff_not]
  by_cases h0 : h.pages[k] = 0
  · simp [h0]
  · simp [h0]
def NeedRel (h : Hd) (w : World) (u5 u10 : Value) (wr : World) : Prop := ∃ k : Nat, k ≤ 256 ∧ u10 = .int .i64 (k : Int) ∧ u5 = .int .i64 ((1 + cntP h k : Nat) : Int) ∧ w = wr
set_option maxRecDepth 100000 in
set_option maxHeartbeats 2000000 in
theorem need_job {c : Cx σ} (hc : c.Ok) {n : Nat} (node : Int) (nb : Nat) : Job c n 87 #[.pointer (some ⟨nb, 0, none⟩)] natR (intA nb node) (wneedb c.ask n node) := by
  intro x w S st F hx1 hx2 h
  subst hx1 hx2
  have cn : w.cell? ⟨nb, 0, none⟩ = some (.int .i64 node) := (h.to (by ac_rfl : _ = intA nb node * (workA x S st * (pool S * F)))).cell 0
  show Calls Tryz.prog 87 #[.pointer (some ⟨x.k, 0, none⟩), .pointer (some ⟨nb, 0, none⟩)] w _
  refine callsQ fun Q HQ => ?_
  have hl := load_anyW x hc w S st node _ h
  obtain ⟨⟨r, st1⟩, hp⟩ : ∃ p, wload x.c.ask x.n node st = p := ⟨_, rfl⟩
  rw [hp] at hl
  clear h
  cases r with
  | bad cN =>
    have HE := SL.hid (show wneedb x.c.ask x.n node st = (.bad cN, st1) from WM.bind_bad hp)
    clear hp
    go_enter Tryz.func87, Tryz.ntmps87
    go_wp2_with fail
    (with_reducible refine hl.mono ?_)
    rintro e w2 ⟨S', hS, d2, rfl, h2⟩
    go_wp2_with fail
    exact ⟨rfl, HQ.out _ _ (by rw [HE.out]; exact ⟨S', hS, d2, rfl, h2⟩)⟩
  | ok hh =>
    have HE := SL.hid (show wneedb x.c.ask x.n node st = (.ok hh.need, st1) from WM.bind_ok hp)
    clear hp
    go_enter Tryz.func87, Tryz.ntmps87
    go_wp2_with fail
    (with_reducible refine hl.mono ?_)
    rintro e w2 ⟨S', v, hS, d2, rfl, h2⟩
    obtain ⟨hb, rfl, h3⟩ := Sat.heldR h2
    have hf := Sat.heldFit h3
    have c20 : w2.cell? ⟨hb, 20, none⟩ = some (.int .i64 hh.n.rw) := held_rw hf (Sat.held.1 h3).2
    have Hpg := SL.hid (fun i hi => page_any w2 hb hh _ h3 i hi)
    have H3 := SL.hid h3; have Hf := SL.hid hf
    clear h2 h3 hf hl cn
    go_wp2_with fail
    go_loopw [5, 10] (fun u5 u10 wr => NeedRel hh w2 u5 u10 wr) (fun u5 u10 _ => 256 - (intOf u10).toNat)
    case atStart => exact ⟨0, Nat.zero_le _, rfl, rfl, rfl⟩
    case round =>
      obtain ⟨k, hk, rfl, rfl, rfl⟩ := hrel
      have hcl := cntP_le hh k
      by_cases hlt : k < 256
      · have hlt' : (k : Int) < 256 := by omega
        have hpg := Hpg.out k hlt
        have hsc := cntP_succ Hf.out hlt
        unfold IntQ at hpg
        by_cases h0 : hh.page k = 0
        · rw [h0] at hpg
          rw [if_pos h0] at hsc
          have Hsc := SL.hid hsc
          clear h0 hsc
          go_wp2_with fail
          (with_reducible refine hpg.mono ?_)
          rintro e w3 ⟨rfl, rfl⟩
          go_wp2_with fail
          go_roundw
          case rel => exact ⟨k + 1, by omega, by go_num, by rw [Hsc.out, Nat.add_zero]; congr 1, rfl⟩
          case measure => simp [intOf]; omega
        · rw [if_neg h0] at hsc
          have Hsc := SL.hid hsc
          have h1 : (hh.page k != 0) = true := by simpa using h0
          obtain ⟨t, ht⟩ : ∃ t, 1 + cntP hh k = t := ⟨_, rfl⟩
          have ht2 : (t : Int) ≤ 1000 := by omega
          have ht3 : 0 ≤ (t : Int) := by omega
          rw [ht]
          have Ht := SL.hid ht
          clear h0 hsc ht
          generalize hh.page k = y at *
          go_wp2_with fail
          (with_reducible refine hpg.mono ?_)
          rintro e w3 ⟨rfl, rfl⟩
          go_wp2_with fail
          go_roundw
          case rel => exact ⟨k + 1, by omega, by go_num, by rw [Hsc.out, ← Nat.add_assoc, Ht.out]; go_num, rfl⟩
          case measure => simp [intOf]; omega
      · obtain rfl : k = 256 := by omega
        have hneed : hh.need = (1 + cntP hh 256) + if hh.n.rw = 0 then 0 else 1 := by
          unfold Hd.need cntP
          rw [List.take_of_length_le (by rw [Hd.pages_length Hf.out]; exact Nat.le_refl _)]
        have Hneed := SL.hid hneed
        obtain ⟨t, ht⟩ : ∃ t, 1 + cntP hh 256 = t := ⟨_, rfl⟩
        have ht2 : (t : Int) ≤ 1000 := by omega
        have ht3 : 0 ≤ (t : Int) := by omega
        rw [ht]
        have Ht := SL.hid ht
        clear hneed ht hcl hlt
        have hfin : ∀ z : Nat, z = hh.need → Q (.returned (.int .i64 (z : Int))) w2 := fun z hz => HQ.out _ _ (by
          rw [HE.out]
          exact ⟨S', _, hS, d2, rfl, Sat.fact_iff.2 ⟨by rw [hz], H3.out.right⟩⟩)
        have Hfin := SL.hid hfin
        clear hfin
        by_cases hrw : hh.n.rw = 0
        · rw [hrw] at c20
          have HN := SL.hid (show t = hh.need by rw [Hneed.out, Ht.out, if_pos hrw, Nat.add_zero])
          clear hrw
          go_wp2_with fail
          exact Hfin.out t HN.out
        · have h1 : (hh.n.rw != 0) = true := by simpa using hrw
          have HN := SL.hid (show t + 1 = hh.need by rw [Hneed.out, Ht.out, if_neg hrw])
          have hw1 : wrap64 ((t : Int) + 1) = ((t + 1 : Nat) : Int) := by unfold wrap64; omega
          clear hrw
          generalize hh.n.rw = y at *
          go_wp2_with fail
          exact Hfin.out (t + 1) HN.out
end
end Go.Proofs.YtaoohjeaaccnfaaGreat.Fs
namespace Go.SL
set_option linter.unusedVariables false
set_option linter.unusedSimpArgs false
open Go.RowKit
section
variable {σ α β : Type}
theorem WM.bind_inv {m : WM σ α} {k : α → WM σ β} {st st' : Wst σ} {b : β} (h : WM.bind m k st = (.ok b, st')) : ∃ a st1, m st = (.ok a, st1) ∧ k a st1 = (.ok b, st') := by
  unfold WM.bind at h
  match hm : m st, h with
  | (.ok a, st1), h => exact ⟨a, st1, rfl, h⟩
  | (.bad c, st1), h => cases h
/-- A node that is held, within a space. -/
structure Hd.Inn (n : Nat) (h : Hd) : Prop where
  fit : h.fit
  ok : h.n.ok = true
  id0 : 1 ≤ h.id
  id1 : h.id < n
  rw0 : 0 ≤ h.n.rw
  rw1 : h.n.rw < n
  pg : ∀ p ∈ h.pages, 0 ≤ p ∧ p < n
theorem all_ptr {l : List Int} (h : l.all ptrOk = true) : ∀ p ∈ l, 0 ≤ p ∧ p < 3840 := fun p hp => ptrOk_range (List.all_eq_true.1 h p hp)
theorem wload_inn {ask : Asks σ} {n : Nat} {id : Int} {st st' : Wst σ} {h : Hd} (hl : wload ask n id st = (.ok h, st')) : h.Inn n := by
  unfold wload at hl
  split at hl
  · rename_i hid
    obtain ⟨L, st1, h1, h2⟩ := WM.bind_inv hl
    unfold wdec at h2
    split at h2
    · rename_i hc
      have hok : (decP L).1.ok = true ∧ (decP L).1.dr.length = 16 := by
        refine ⟨?_, decP_16 L⟩
        unfold decP at hc ⊢
        split at hc
        · rename_i h9; rw [if_pos h9]; simp only [Bool.and_eq_true] at h9; exact h9.1
        · cases hc
      generalize (decP L).1 = nd at *
      obtain ⟨hok, h16⟩ := hok
      have hf := Nd.ok_facts hok
      have hrw := ptrOk_range hf.2.2.2.2.2.2.1
      have key : ∀ row st2, row.length = 240 → (∀ p ∈ row, 0 ≤ p) → (nd.rw < n) → wload2 n id.toNat nd row st2 = (.ok h, st') → h.Inn n := by
        intro row st2 hrl hrp hrn h3
        obtain ⟨_, st3, h4, h5⟩ := WM.bind_inv h3
        obtain ⟨_, st4, h6, h7⟩ := WM.bind_inv h5
        simp only [WM.pure, Prod.mk.injEq, Rs.ok.injEq] at h7
        obtain ⟨rfl, rfl⟩ := h7
        have a1 : nd.dr.all (fun x => decide (x < n)) = true := by
          unfold wwithin at h4; split at h4
          · assumption
          · cases h4
        have a2 : row.all (fun x => decide (x < n)) = true := by
          unfold wwithin at h6; split at h6
          · assumption
          · cases h6
        refine ⟨⟨h16, hrl⟩, hok, by show 1 ≤ id.toNat; omega, by show id.toNat < n; omega, hrw.1, hrn, fun p hp => ?_⟩
        rcases List.mem_append.1 hp with hp | hp
        · exact ⟨(all_ptr hf.2.2.2.2.2.1 p hp).1, by simpa using List.all_eq_true.1 a1 p hp⟩
        · exact ⟨hrp p hp, by simpa using List.all_eq_true.1 a2 p hp⟩
      unfold wload1 at h2
      split at h2
      · rename_i hz
        exact key _ _ rfl (fun p hp => by rw [(List.mem_replicate.1 hp).2]; omega) (by rw [hz]; omega) h2
      · obtain ⟨_, st3, h4, h5⟩ := WM.bind_inv h2
        obtain ⟨L2, st4, h6, h7⟩ := WM.bind_inv h5
        have a1 : [nd.rw].all (fun x => decide (x < n)) = true := by
          unfold wwithin at h4; split at h4
          · assumption
          · cases h4
        unfold wdecR at h7
        split at h7
        · rename_i hc2
          have hro : (rowP L2).1.all ptrOk = true := by
            unfold rowP at hc2 ⊢
            split at hc2
            · rename_i h9; rw [if_pos h9]; exact h9
            · cases hc2
          exact key _ _ (rowP_240 L2) (fun p hp => (all_ptr hro p hp).1) (by simpa using a1) h7
        · cases h7
    · cases h2
  · cases hl
def wfreeP (ask : Asks σ) : List Int → WM σ Unit
  | [] => WM.pure ()
  | p :: ps => fun st => if p = 0 then wfreeP ask ps st else (WM.bind (wmark ask p.toNat false) fun _ => wfreeP ask ps) st
def wfreeR (ask : Asks σ) (h : Hd) : WM σ Unit := fun st => if h.n.rw = 0 then wmark ask h.id false st else (WM.bind (wmark ask h.n.rw.toNat false) fun _ => wmark ask h.id false) st
def wfree (ask : Asks σ) (n : Nat) (node : Int) : WM σ Unit := WM.bind (wload ask n node) fun h => WM.bind (wfreeP ask h.pages) fun _ => wfreeR ask h
/-- What is left of Free's job at a page. -/
def wfreeT (ask : Asks σ) (h : Hd) (k : Nat) : WM σ Unit := WM.bind (wfreeP ask (h.pages.drop k)) fun _ => wfreeR ask h
theorem Hd.drop_pages {h : Hd} (hf : h.fit) {k : Nat} (hk : k < 256) : h.pages.drop k = h.page k :: h.pages.drop (k + 1) := by
  have hk2 : k < h.pages.length := by rw [Hd.pages_length hf]; exact hk
  rw [List.drop_eq_getElem_cons hk2, Hd.page_pages hf, List.getD, List.getElem?_eq_getElem hk2]; rfl
theorem wfreeT_z {ask : Asks σ} {h : Hd} (hf : h.fit) {k : Nat} (hk : k < 256) (h0 : h.page k = 0) (st : Wst σ) : wfreeT ask h k st = wfreeT ask h (k + 1) st := by
  have e : wfreeP ask (h.pages.drop k) st = wfreeP ask (h.pages.drop (k + 1)) st := by rw [Hd.drop_pages hf hk]; exact if_pos h0
  unfold wfreeT WM.bind; rw [e]
theorem wfreeT_b {ask : Asks σ} {h : Hd} (hf : h.fit) {k : Nat} (hk : k < 256) (h0 : h.page k ≠ 0) {st st1 : Wst σ} {c : Int} (hm : wmark ask (h.page k).toNat false st = (.bad c, st1)) : wfreeT ask h k st = (.bad c, st1) := by
  have e : wfreeP ask (h.pages.drop k) st = (.bad c, st1) := by rw [Hd.drop_pages hf hk]; exact (if_neg h0).trans (WM.bind_bad hm)
  exact WM.bind_bad e
theorem wfreeT_s {ask : Asks σ} {h : Hd} (hf : h.fit) {k : Nat} (hk : k < 256) (h0 : h.page k ≠ 0) {st st1 : Wst σ} (hm : wmark ask (h.page k).toNat false st = (.ok (), st1)) : wfreeT ask h k st = wfreeT ask h (k + 1) st1 := by
  have e : wfreeP ask (h.pages.drop k) st = wfreeP ask (h.pages.drop (k + 1)) st1 := by rw [Hd.drop_pages hf hk]; exact (if_neg h0).trans (WM.bind_ok hm)
  unfold wfreeT WM.bind; rw [e]
theorem wfreeT_e {ask : Asks σ} {h : Hd} (hf : h.fit) (st : Wst σ) : wfreeT ask h 256 st = wfreeR ask h st := by
  have e : wfreeP ask (h.pages.drop 256) st = (.ok (), st) := by rw [List.drop_of_length_le (by rw [Hd.pages_length hf]; exact Nat.le_refl _)]; rfl
  exact WM.bind_ok e
theorem Hd.Inn.page {n : Nat} {h : Hd} (hi : h.Inn n) {k : Nat} (hk : k < 256) : 0 ≤ h.page k ∧ h.page k < n := by
  have hk2 : k < h.pages.length := by rw [Hd.pages_length hi.fit]; exact hk
  have := hi.pg _ (List.getElem_mem hk2)
  rw [Hd.page_pages hi.fit, List.getD, List.getElem?_eq_getElem hk2]; exact this
end
end Go.SL
namespace Go.Proofs.YtaoohjeaaccnfaaGreat.Fs
set_option linter.unusedVariables false
set_option linter.unusedSimpArgs false
open Go.RowKit Go.SL Go.Proofs.YtaoohjeaaccnfaaGreat.Ba
section
variable {σ α : Type}
/-- mark, as what it comes to, of a block's number as the program has it. -/
theorem mark_anyI (x : Wk σ) (hc : x.c.Ok) (w : World) (S : Hp) (st : Wst σ) (p : Int) (t : Bool) (F : Assn) (h0 : 0 ≤ p) (h1 : p < 3840) (h : Sat w (workA x S st * (pool S * F))) :
    Calls Tryz.prog 59 #[.pointer (some ⟨x.k, 0, none⟩), .int .i64 p, .bool t] w (WQ x unitR S F w (wmark x.c.ask p.toNat t st)) := by
  have := mark_any x hc w S st p.toNat t F (by omega) h
  rwa [Int.toNat_of_nonneg h0] at this
def FreeRel (x : Wk σ) (hb : Nat) (hh : Hd) (S : Hp) (F : Assn) (w : World) (T : Rs Unit × Wst σ) (u9 : Value) (wr : World) : Prop :=
  ∃ (k : Nat) (stk : Wst σ) (Sk : Hp), k ≤ 256 ∧ u9 = .int .i64 (k : Int) ∧ wfreeT x.c.ask hh k stk = T ∧ Ext S Sk ∧ Side w wr ∧ Sat wr (workA x Sk stk * (pool Sk * (heldA hb hh * F)))
set_option maxRecDepth 100000 in
set_option maxHeartbeats 4000000 in
theorem free_job {c : Cx σ} (hc : c.Ok) {n : Nat} (hn : n ≤ 3840) (node : Int) (nb : Nat) : Job c n 57 #[.pointer (some ⟨nb, 0, none⟩)] unitR (intA nb node) (wfree c.ask n node) := by
  intro x w S st F hx1 hx2 h
  subst hx1 hx2
  have cn : w.cell? ⟨nb, 0, none⟩ = some (.int .i64 node) := (h.to (by ac_rfl : _ = intA nb node * (workA x S st * (pool S * F)))).cell 0
  show Calls Tryz.prog 57 #[.pointer (some ⟨x.k, 0, none⟩), .pointer (some ⟨nb, 0, none⟩)] w _
  refine callsQ fun Q HQ => ?_
  have hl := load_anyW x hc w S st node _ h
  obtain ⟨⟨r, st1⟩, hp⟩ : ∃ p, wload x.c.ask x.n node st = p := ⟨_, rfl⟩
  rw [hp] at hl
  clear h
  cases r with
  | bad cN =>
    have HE := SL.hid (show wfree x.c.ask x.n node st = (.bad cN, st1) from WM.bind_bad hp)
    clear hp
    go_enter Tryz.func57, Tryz.ntmps57
    go_wp2_with fail
    (with_reducible refine hl.mono ?_)
    rintro e w2 ⟨S', hS, d2, rfl, h2⟩
    go_wp2_with fail
    exact ⟨rfl, HQ.out _ _ (by rw [HE.out]; exact ⟨S', hS, d2, rfl, h2⟩)⟩
  | ok hh =>
    have hI := wload_inn hp
    have HI := SL.hid hI
    obtain ⟨T, hT⟩ : ∃ T, wfreeT x.c.ask hh 0 st1 = T := ⟨_, rfl⟩
    have HE := SL.hid (show wfree x.c.ask x.n node st = T from (WM.bind_ok hp).trans hT)
    clear hp
    go_enter Tryz.func57, Tryz.ntmps57
    go_wp2_with fail
    (with_reducible refine hl.mono ?_)
    rintro e w2 ⟨S', v, hS, d2, rfl, h2⟩
    obtain ⟨hb, rfl, h3⟩ := Sat.heldR h2
    have h4 : Sat w2 (workA x S' st1 * (pool S' * (heldA hb hh * (intA nb node * F)))) := h3.to (by ac_rfl)
    have H4 := SL.hid h4; have HT := SL.hid hT
    clear h2 h3 hl cn hI hT h4
    go_wp2_with fail
    go_loopw [9] (fun u9 wr => FreeRel x hb hh S (intA nb node * F) w T u9 wr) (fun u9 _ => 256 - (intOf u9).toNat)
    case atStart => exact ⟨0, st1, S', Nat.zero_le _, rfl, HT.out, hS, d2, H4.out⟩
    case round =>
      obtain ⟨k, stk, Sk, hk, rfl, hTk, hSk, dk, hk4⟩ := hrel
      have HTk := SL.hid hTk; have HSk := SL.hid hSk
      clear H4 HT hTk hSk
      have hk5 := hk4.to (by ac_rfl : _ = heldA hb hh * (workA x Sk stk * (pool Sk * (intA nb node * F))))
      by_cases hlt : k < 256
      · have hlt' : (k : Int) < 256 := by omega
        have hpg := page_any wr hb hh _ hk5 k hlt
        unfold IntQ at hpg
        by_cases h0 : hh.page k = 0
        · have HN := SL.hid ((wfreeT_z HI.out.fit hlt h0 stk).symm.trans HTk.out)
          rw [h0] at hpg
          clear h0 hk5
          go_wp2_with fail
          (with_reducible refine hpg.mono ?_)
          rintro e w3 ⟨rfl, rfl⟩
          go_wp2_with fail
          go_roundw
          case rel => exact ⟨k + 1, stk, Sk, by omega, by go_num, HN.out, HSk.out, dk, hk4⟩
          case measure => simp [intOf]; omega
        · have h1 : (hh.page k != 0) = true := by simpa using h0
          obtain ⟨p0, p1⟩ := HI.out.page hlt
          have hm := mark_anyI x hc wr Sk stk (hh.page k) false _ p0 (by omega) hk4
          obtain ⟨⟨r2, st2⟩, hp2⟩ : ∃ p, wmark x.c.ask (hh.page k).toNat false stk = p := ⟨_, rfl⟩
          rw [hp2] at hm
          cases r2 with
          | bad cN =>
            have HN := SL.hid ((wfreeT_b HI.out.fit hlt h0 hp2).symm.trans HTk.out)
            clear h0 hp2 hk5 p0 p1
            generalize hh.page k = y at *
            go_wp2_with fail
            (with_reducible refine hpg.mono ?_)
            rintro e w3 ⟨rfl, rfl⟩
            go_wp2_with fail
            (with_reducible refine hm.mono ?_)
            rintro e w4 ⟨S2, hS2, d4, rfl, h6⟩
            go_wp2_with fail
            exact ⟨rfl, HQ.out _ _ (by rw [HE.out, ← HN.out]; exact ⟨S2, HSk.out.trans hS2, dk.trans d4, rfl, (h6.to (by ac_rfl : _ = heldA hb hh * (workA x S2 st2 * (pool S2 * (intA nb node * F))))).right⟩)⟩
          | ok u =>
            have HN := SL.hid ((wfreeT_s HI.out.fit hlt h0 hp2).symm.trans HTk.out)
            clear h0 hp2 hk5 p0 p1
            generalize hh.page k = y at *
            go_wp2_with fail
            (with_reducible refine hpg.mono ?_)
            rintro e w3 ⟨rfl, rfl⟩
            go_wp2_with fail
            (with_reducible refine hm.mono ?_)
            rintro e w4 ⟨S2, v4, hS2, d4, rfl, h6⟩
            obtain ⟨rfl, h7⟩ := Sat.fact_iff.1 h6
            go_wp2_with fail
            go_roundw
            case rel => exact ⟨k + 1, st2, S2, by omega, by go_num, HN.out, HSk.out.trans hS2, dk.trans d4, h7⟩
            case measure => simp [intOf]; omega
      · obtain rfl : k = 256 := by omega
        have HR := SL.hid ((wfreeT_e HI.out.fit stk).symm.trans HTk.out)
        have c20 : wr.cell? ⟨hb, 20, none⟩ = some (.int .i64 hh.n.rw) := held_rw HI.out.fit (Sat.held.1 hk5).2
        have c00 : wr.cell? ⟨hb, 0, none⟩ = some (.int .i64 (hh.id : Int)) := held_id (Sat.held.1 hk5).2
        by_cases hrw : hh.n.rw = 0
        · have hm := mark_anyI x hc wr Sk stk (hh.id : Int) false _ (by omega) (by have := HI.out.id1; omega) hk4
          rw [Int.toNat_natCast] at hm
          obtain ⟨⟨r2, st2⟩, hp2⟩ : ∃ p, wmark x.c.ask hh.id false stk = p := ⟨_, rfl⟩
          rw [hp2] at hm
          have HN := SL.hid (HR.out.symm.trans ((if_pos hrw).trans hp2))
          rw [hrw] at c20
          clear hrw hp2 hk5 hlt
          cases r2 with
          | bad cN =>
            go_wp2_with fail
            (with_reducible refine hm.mono ?_)
            rintro e w4 ⟨S2, hS2, d4, rfl, h6⟩
            go_wp2_with fail
            exact ⟨rfl, HQ.out _ _ (by rw [HE.out, HN.out]; exact ⟨S2, HSk.out.trans hS2, dk.trans d4, rfl, (h6.to (by ac_rfl : _ = heldA hb hh * (workA x S2 st2 * (pool S2 * (intA nb node * F))))).right⟩)⟩
          | ok u =>
            go_wp2_with fail
            (with_reducible refine hm.mono ?_)
            rintro e w4 ⟨S2, v4, hS2, d4, rfl, h6⟩
            obtain ⟨rfl, h7⟩ := Sat.fact_iff.1 h6
            go_wp2_with fail
            go_end0
            exact HQ.out _ _ (by rw [HE.out, HN.out]; exact ⟨S2, _, HSk.out.trans hS2, dk.trans d4, rfl, Sat.fact_iff.2 ⟨rfl, (h7.to (by ac_rfl : _ = heldA hb hh * (workA x S2 st2 * (pool S2 * (intA nb node * F))))).right⟩⟩)
        · have h1 : (hh.n.rw != 0) = true := by simpa using hrw
          have hm := mark_anyI x hc wr Sk stk hh.n.rw false _ HI.out.rw0 (by have := HI.out.rw1; omega) hk4
          obtain ⟨⟨r2, st2⟩, hp2⟩ : ∃ p, wmark x.c.ask hh.n.rw.toNat false stk = p := ⟨_, rfl⟩
          rw [hp2] at hm
          cases r2 with
          | bad cN =>
            have HN := SL.hid (HR.out.symm.trans ((if_neg hrw).trans (WM.bind_bad hp2)))
            clear hrw hp2 hk5 hlt
            generalize hh.n.rw = y at *
            go_wp2_with fail
            (with_reducible refine hm.mono ?_)
            rintro e w4 ⟨S2, hS2, d4, rfl, h6⟩
            go_wp2_with fail
            exact ⟨rfl, HQ.out _ _ (by rw [HE.out, HN.out]; exact ⟨S2, HSk.out.trans hS2, dk.trans d4, rfl, (h6.to (by ac_rfl : _ = heldA hb hh * (workA x S2 st2 * (pool S2 * (intA nb node * F))))).right⟩)⟩
          | ok u =>
            have HN := SL.hid (HR.out.symm.trans ((if_neg hrw).trans (WM.bind_ok hp2)))
            clear hrw hp2 hk5 hlt
            generalize hh.n.rw = y at *
            go_wp2_with fail
            (with_reducible refine hm.mono ?_)
            rintro e w4 ⟨S2, v4, hS2, d4, rfl, h6⟩
            obtain ⟨rfl, h7⟩ := Sat.fact_iff.1 h6
            have c00b : w4.cell? ⟨hb, 0, none⟩ = some (.int .i64 (hh.id : Int)) := held_id (Sat.held.1 (h7.to (by ac_rfl : _ = heldA hb hh * (workA x S2 st2 * (pool S2 * (intA nb node * F)))))).2
            have hm2 := mark_anyI x hc w4 S2 st2 (hh.id : Int) false _ (by omega) (by have := HI.out.id1; omega) h7
            rw [Int.toNat_natCast] at hm2
            obtain ⟨⟨r3, st3⟩, hp3⟩ : ∃ p, wmark x.c.ask hh.id false st2 = p := ⟨_, rfl⟩
            rw [hp3] at hm2
            have HN2 := SL.hid (HN.out.trans hp3)
            clear hp3 hm c00 h6
            cases r3 with
            | bad cN =>
              go_wp2_with fail
              (with_reducible refine hm2.mono ?_)
              rintro e w5 ⟨S3, hS3, d5, rfl, h8⟩
              go_wp2_with fail
              exact ⟨rfl, HQ.out _ _ (by rw [HE.out, HN2.out]; exact ⟨S3, (HSk.out.trans hS2).trans hS3, (dk.trans d4).trans d5, rfl, (h8.to (by ac_rfl : _ = heldA hb hh * (workA x S3 st3 * (pool S3 * (intA nb node * F))))).right⟩)⟩
            | ok u3 =>
              go_wp2_with fail
              (with_reducible refine hm2.mono ?_)
              rintro e w5 ⟨S3, v5, hS3, d5, rfl, h8⟩
              obtain ⟨rfl, h9⟩ := Sat.fact_iff.1 h8
              go_wp2_with fail
              go_end0
              exact HQ.out _ _ (by rw [HE.out, HN2.out]; exact ⟨S3, _, (HSk.out.trans hS2).trans hS3, (dk.trans d4).trans d5, rfl, Sat.fact_iff.2 ⟨rfl, (h9.to (by ac_rfl : _ = heldA hb hh * (workA x S3 st3 * (pool S3 * (intA nb node * F))))).right⟩⟩)
end
end Go.Proofs.YtaoohjeaaccnfaaGreat.Fs

/- file: the jobs of Links, Node, Left. -/
import Derived.Test.YtaoohjeaaccnfaaFv
namespace Go.SL
set_option linter.unusedVariables false
set_option linter.unusedSimpArgs false
open Go.RowKit
section
variable {σ α β : Type}
def Hd.setLk (h : Hd) (z : Int) : Hd := { h with n := { h.n with lk := z } }
def wlinksZ (h : Hd) (z : Int) : WM σ Unit := fun st => if 0 ≤ z ∧ z ≤ 65535 then wsave (h.setLk z) st else (.bad 1, st)
def wlinks (ask : Asks σ) (n : Nat) (node d : Int) : WM σ Unit := wload ask n node ⇝ fun h => wlinksZ h (wrap64 (h.n.lk + d))
def wnode (ask : Asks σ) (n : Nat) (node : Int) : WM σ Nd := wload ask n node ⇝ fun h => WM.pure h.n
def wleft (ask : Asks σ) (n : Nat) : WM σ Nat := wbits ask ⇝ fun l => WM.pure (n - (takenL l n).length)
theorem Hd.setLk_fit {h : Hd} (hf : h.fit) (z : Int) : (h.setLk z).fit := hf
theorem Hd.setLk_l (h : Hd) (z : Int) : (h.setLk z).l = h.l.set 2 z := rfl
end
end Go.SL
namespace Go.Proofs.Ytaoohjeaaccnfaa.Fs
set_option linter.unusedVariables false
set_option linter.unusedSimpArgs false
open Go.RowKit Go.SL Go.Proofs.Ytaoohjeaaccnfaa.Ba
section
variable {σ α : Type}
/-- load, as what it comes to. -/
theorem load_anyW (x : Wk σ) (hc : x.c.Ok) (w : World) (S : Hp) (st : Wst σ) (id : Int) (F : Assn) (h : Sat w (workA x S st * (pool S * F))) :
    Calls Try.prog 31 #[.pointer (some ⟨x.k, 0, none⟩), .int .i64 id] w (WQ x heldR S F w (wload x.c.ask x.n id st)) :=
  load_any x hc w S st id F h _ fun _ _ h => h
theorem save_anyW (x : Wk σ) (w : World) (S : Hp) (st : Wst σ) (hb : Nat) (h : Hd) (F : Assn) (hs : Sat w (heldA hb h * (workA x S st * (pool S * F)))) :
    Calls Try.prog 28 #[.pointer (some ⟨x.k, 0, none⟩), .pointer (some ⟨hb, 0, none⟩)] w (WQ x unitR S (heldA hb h * F) w (wsave h st)) :=
  save_any x w S st hb h F hs _ fun _ _ h => h
theorem Sat.heldR {w : World} {h : Hd} {v : Value} {F : Assn} (hs : Sat w (heldR h v * F)) : ∃ hb, v = .pointer (some ⟨hb, 0, none⟩) ∧ Sat w (heldA hb h * F) := by
  obtain ⟨hb, h1⟩ := Sat.ex_star_iff.1 hs
  obtain ⟨h2, h3⟩ := Sat.fact_iff.1 (h1.to (star_assoc _ _ _))
  exact ⟨hb, h2, h3⟩
theorem held_cell {w : World} {hb : Nat} {h : Hd} {F : Assn} (hs : Sat w (heldA hb h * F)) {j : Nat} (hj : j < 261) : w.cell? ⟨hb, j, none⟩ = some (.int .i64 (h.l.getD j 0)) ∧ w.frozen? ⟨hb, j, none⟩ = false := by
  obtain ⟨hf, h2⟩ := Sat.held.1 hs
  exact ⟨by rw [h2.cell, get_ints_lt (by rw [Hd.l_length hf]; exact hj)], h2.frozen j⟩
theorem held_set {w : World} {hb : Nat} {h h' : Hd} {F : Assn} (hs : Sat w (heldA hb h * F)) {j : Nat} {z : Int} (hf : h'.fit) (hl : h'.l = h.l.set j z) : Sat (w.setCell ⟨hb, j, none⟩ (.int .i64 z)) (heldA hb h' * F) := by
  obtain ⟨_, h2⟩ := Sat.held.1 hs
  refine Sat.held.2 ⟨hf, ?_⟩
  have := h2.setCell j (.int .i64 z)
  rw [set_ints] at this
  rw [hl]; exact this
theorem Sat.heldFit {w : World} {hb : Nat} {h : Hd} {F : Assn} (hs : Sat w (heldA hb h * F)) : h.fit := (Sat.held.1 hs).1
set_option maxRecDepth 100000 in
set_option maxHeartbeats 2000000 in
theorem links_job {c : Cx σ} (hc : c.Ok) {n : Nat} (node d : Int) (nb db : Nat) : Job c n 45 #[.pointer (some ⟨nb, 0, none⟩), .pointer (some ⟨db, 0, none⟩)] unitR (intA nb node * intA db d) (wlinks c.ask n node d) := by
  intro x w S st F hx1 hx2 h
  subst hx1 hx2
  have cn : w.cell? ⟨nb, 0, none⟩ = some (.int .i64 node) := (h.to (by ac_rfl : _ = intA nb node * (intA db d * (workA x S st * (pool S * F))))).cell 0
  show Calls Try.prog 45 #[.pointer (some ⟨x.k, 0, none⟩), .pointer (some ⟨nb, 0, none⟩), .pointer (some ⟨db, 0, none⟩)] w _
  have hl := load_anyW x hc w S st node _ h
  obtain ⟨⟨r, st1⟩, hp⟩ : ∃ p, wload x.c.ask x.n node st = p := ⟨_, rfl⟩
  rw [hp] at hl
  cases r with
  | bad cN =>
    have hE : wlinks x.c.ask x.n node d st = (.bad cN, st1) := WM.bind_bad hp
    rw [hE]
    clear hE hp h
    go_enter Try.func45, Try.ntmps45
    go_wp2_with fail
    (with_reducible refine hl.mono ?_)
    rintro e w2 ⟨S', hS, d2, rfl, h2⟩
    go_wp2_with fail
    exact ⟨rfl, S', hS, d2, rfl, h2⟩
  | ok hh =>
    have hE : wlinks x.c.ask x.n node d st = wlinksZ hh (wrap64 (hh.n.lk + d)) st1 := WM.bind_ok hp
    rw [hE]
    clear hE hp h
    obtain ⟨z, hz⟩ : ∃ z, wrap64 (hh.n.lk + d) = z := ⟨_, rfl⟩
    rw [hz]
    have hlk : hh.l.getD 2 0 = hh.n.lk := rfl
    have Hz := SL.hid hz
    obtain ⟨r2, hr2⟩ : ∃ p, wlinksZ hh z st1 = p := ⟨_, rfl⟩
    rw [hr2]
    have Hr2 := SL.hid hr2
    clear hz hr2
    go_enter Try.func45, Try.ntmps45
    go_wp2_with fail
    (with_reducible refine hl.mono ?_)
    rintro e w2 ⟨S', v, hS, d2, rfl, h2⟩
    obtain ⟨hb, rfl, h3⟩ := Sat.heldR h2
    have hcl := (held_cell h3 (j := 2) (by decide)).1
    rw [hlk] at hcl
    have cd : w2.cell? ⟨db, 0, none⟩ = some (.int .i64 d) := (h3.to (by ac_rfl : _ = intA db d * (intA nb node * (heldA hb hh * (workA x S' st1 * (pool S' * F)))))).cell 0
    clear hl h2 cn hlk
    go_wp2_with fail
    go_region_held3 (fun w' => w'.cell? ⟨hb, 2, none⟩ = some (.int .i64 hh.n.lk) ∧ w'.cell? ⟨db, 0, none⟩ = some (.int .i64 d)) (first | exact ⟨hcl, cd⟩ | go_keep) (fail)
    rename_i hHeld
    have H3 := SL.hid h3.drew
    have D2 := SL.hid d2.drew
    clear hHeld h3 d2 hcl cd
    rw [show IntKind.i64.wrap (hh.n.lk + d) = z from by rw [← Hz.out, IntKind.wrap_i64]; unfold wrap64; omega]
    generalize w2.drew = w3 at *
    by_cases hzz : 0 ≤ z ∧ z ≤ 65535
    · have hr3 : wsave (hh.setLk z) st1 = r2 := by rw [← Hr2.out]; exact (if_pos hzz).symm
      have g2 := (held_cell H3.out (j := 2) (by decide)).1
      have f2 := (held_cell H3.out (j := 2) (by decide)).2
      have h4 := held_set (h' := hh.setLk z) H3.out (j := 2) (z := z) (Hd.setLk_fit (Sat.heldFit H3.out) z) rfl
      have hsv := save_anyW x _ S' st1 hb (hh.setLk z) _ h4
      rw [hr3] at hsv
      have Hsv := SL.hid hsv
      have D4 := SL.hid (D2.out.setCell ⟨hb, 2, none⟩ (.int .i64 z))
      obtain ⟨z1, z2⟩ := hzz
      clear h4 hsv hr3 Hr2
      generalize hh.l.getD 2 0 = y at *
      obtain ⟨r3, st2⟩ := r2
      go_wp2_with fail
      (with_reducible refine (need_yes w3).mono ?_)
      rintro e w4 ⟨rfl, rfl⟩
      cases r3 with
      | bad cN =>
        go_wp2_with fail
        refine Hsv.out.mono ?_
        rintro e w5 ⟨S2, hS2, d5, rfl, h6⟩
        go_wp2_with fail
        exact ⟨rfl, S2, hS.trans hS2, D4.out.trans d5, rfl, (h6.to (by ac_rfl : _ = heldA hb (hh.setLk z) * (workA x S2 st2 * (pool S2 * (intA nb node * intA db d * F))))).right⟩
      | ok u =>
        go_wp2_with fail
        refine Hsv.out.mono ?_
        rintro e w5 ⟨S2, v5, hS2, d5, rfl, h6⟩
        obtain ⟨rfl, h7⟩ := Sat.fact_iff.1 h6
        go_wp2_with fail
        go_end0
        exact ⟨S2, _, hS.trans hS2, D4.out.trans d5, rfl, Sat.fact_iff.2 ⟨rfl, (h7.to (by ac_rfl : _ = heldA hb (hh.setLk z) * (workA x S2 st2 * (pool S2 * (intA nb node * intA db d * F))))).right⟩⟩
    · have hr3 : r2 = (.bad 1, st1) := by rw [← Hr2.out]; exact if_neg hzz
      subst hr3
      clear Hr2
      by_cases hz1 : 0 ≤ z
      · have hz2 : decide (z ≤ 65535) = false := decide_eq_false (by omega)
        clear hzz
        go_wp2_with fail
        (with_reducible refine (need_no w3).mono ?_)
        rintro e w4 ⟨rfl, rfl⟩
        go_wp2_with fail
        exact ⟨rfl, S', hS, D2.out, rfl, H3.out.right⟩
      · have hz2 : z < 0 := by omega
        clear hzz
        go_wp2_with fail
        (with_reducible refine (need_no w3).mono ?_)
        rintro e w4 ⟨rfl, rfl⟩
        go_wp2_with fail
        exact ⟨rfl, S', hS, D2.out, rfl, H3.out.right⟩
theorem nodeone_results {w : World} {tmps : Array Value} {a : Nat} {X : Array Value} {F : Assn} (h3 : tmps[3]? = some (ptV a)) (ha : Sat w (pt a (.cells X 48 (0, 0)) * F)) (hX : X.size = 20) :
    (results Try.f47 tmps).run Try.prog w = .ok (.agg X) w := by
  have hl := run_loadVar_row (P := Try.prog) w a 48 48 X (0, 0) _ ha.heap Try.underlying48 rfl (by rw [hX]; exact info_node0)
  simp [results, Try.results47, h3, asAddr, hl]
set_option maxRecDepth 100000 in
set_option maxHeartbeats 2000000 in
theorem node_job {c : Cx σ} (hc : c.Ok) {n : Nat} (node : Int) (nb : Nat) : Job c n 47 #[.pointer (some ⟨nb, 0, none⟩)] nodeR (intA nb node) (wnode c.ask n node) := by
  intro x w S st F hx1 hx2 h
  subst hx1 hx2
  show Calls Try.prog 47 #[.pointer (some ⟨x.k, 0, none⟩), .pointer (some ⟨nb, 0, none⟩)] w _
  have h1 := h.alloc (.cells #[.int .i64 0, .int .i64 0, .int .i64 0, .int .i64 0, .int .i64 0, .int .i64 0, .int .i64 0, .int .i64 0, .int .i64 0, .int .i64 0, .int .i64 0, .int .i64 0, .int .i64 0, .int .i64 0, .int .i64 0, .int .i64 0, .int .i64 0, .int .i64 0, .int .i64 0, .int .i64 0] 48 (0, 0))
  have D1 := (Side.refl w).alloc (.cells #[.int .i64 0, .int .i64 0, .int .i64 0, .int .i64 0, .int .i64 0, .int .i64 0, .int .i64 0, .int .i64 0, .int .i64 0, .int .i64 0, .int .i64 0, .int .i64 0, .int .i64 0, .int .i64 0, .int .i64 0, .int .i64 0, .int .i64 0, .int .i64 0, .int .i64 0, .int .i64 0] 48 (0, 0))
  have h2 := h1.to (by ac_rfl : _ = workA x S st * (pool S * (intA nb node * (pt w.heap.size (.cells #[.int .i64 0, .int .i64 0, .int .i64 0, .int .i64 0, .int .i64 0, .int .i64 0, .int .i64 0, .int .i64 0, .int .i64 0, .int .i64 0, .int .i64 0, .int .i64 0, .int .i64 0, .int .i64 0, .int .i64 0, .int .i64 0, .int .i64 0, .int .i64 0, .int .i64 0, .int .i64 0] 48 (0, 0)) * F))))
  have cn : (w.alloc (.cells #[.int .i64 0, .int .i64 0, .int .i64 0, .int .i64 0, .int .i64 0, .int .i64 0, .int .i64 0, .int .i64 0, .int .i64 0, .int .i64 0, .int .i64 0, .int .i64 0, .int .i64 0, .int .i64 0, .int .i64 0, .int .i64 0, .int .i64 0, .int .i64 0, .int .i64 0, .int .i64 0] 48 (0, 0))).cell? ⟨nb, 0, none⟩ = some (.int .i64 node) := h2.front3.cell 0
  have hl := load_anyW x hc _ S st node _ h2
  obtain ⟨⟨r, st1⟩, hp⟩ : ∃ p, wload x.c.ask x.n node st = p := ⟨_, rfl⟩
  rw [hp] at hl
  have hz := SL.hid h1.heap
  clear h1 h2 h
  cases r with
  | bad cN =>
    have hE : wnode x.c.ask x.n node st = (.bad cN, st1) := WM.bind_bad hp
    rw [hE]
    clear hE hp
    go_enter Try.func47, Try.ntmps47
    go_wp2_with fail
    (with_reducible refine hl.mono ?_)
    rintro e w2 ⟨S', hS, d2, rfl, h2⟩
    go_wp2_with fail
    exact ⟨rfl, S', hS, D1.trans d2, rfl, (h2.to (by ac_rfl : _ = pt w.heap.size (.cells #[.int .i64 0, .int .i64 0, .int .i64 0, .int .i64 0, .int .i64 0, .int .i64 0, .int .i64 0, .int .i64 0, .int .i64 0, .int .i64 0, .int .i64 0, .int .i64 0, .int .i64 0, .int .i64 0, .int .i64 0, .int .i64 0, .int .i64 0, .int .i64 0, .int .i64 0, .int .i64 0] 48 (0, 0)) * (workA x S' st1 * (pool S' * (intA nb node * F))))).right⟩
  | ok hh =>
    have hE : wnode x.c.ask x.n node st = (.ok hh.n, st1) := WM.bind_ok hp
    rw [hE]
    clear hE hp
    go_enter Try.func47, Try.ntmps47
    go_wp2_with fail
    (with_reducible refine hl.mono ?_)
    rintro e w2 ⟨S', v, hS, d2, rfl, h2⟩
    obtain ⟨hb, rfl, h3⟩ := Sat.heldR h2
    have hf := Sat.heldFit h3
    have hrow := SL.hid (held_node hf (Sat.held.1 h3).2)
    have hinf : (Try.prog.info? 48).map (·.size) = some (hh.n.l.map (Value.int .i64)).length := by rw [List.length_map, Nd.cells hf.1]; exact info_node0
    have hsz : (hh.n.l.map (Value.int .i64)).toArray.size = 20 := by simp [Nd.cells hf.1]
    have hinf2 : (Try.prog.info? 48).map (·.size) = some (hh.n.l.map (Value.int .i64)).toArray.size := by rw [hsz]; exact info_node0
    have hone : (hh.n.l.map (Value.int .i64)).toArray.all (·.oneCell') = true := by simp [Value.oneCell']
    have h4 : Sat w2 (pt w.heap.size (.cells #[.int .i64 0, .int .i64 0, .int .i64 0, .int .i64 0, .int .i64 0, .int .i64 0, .int .i64 0, .int .i64 0, .int .i64 0, .int .i64 0, .int .i64 0, .int .i64 0, .int .i64 0, .int .i64 0, .int .i64 0, .int .i64 0, .int .i64 0, .int .i64 0, .int .i64 0, .int .i64 0] 48 (0, 0)) * (heldA hb hh * (workA x S' st1 * (pool S' * (intA nb node * F))))) := h3.to (by ac_rfl)
    have Hz4 := SL.hid h4.heap
    have h5 := h4.setRow (cs' := (hh.n.l.map (Value.int .i64)).toArray)
    have D5 := SL.hid ((D1.trans d2).setRow w.heap.size (hh.n.l.map (Value.int .i64)).toArray)
    have H5 := SL.hid h5; have Hinf := SL.hid hinf; have Hinf2 := SL.hid hinf2; have Hone := SL.hid hone; have Hsz := SL.hid hsz; have Hf := SL.hid hf
    clear h2 h3 h4 h5 hinf hinf2 hone hf hl hz cn d2 hsz
    go_wp2_with (first
      | (refine wpList_load_mid (by exact rfl) 48 (.tmp 8) (by exact rfl) hb 1 (by exact rfl) (hh.n.l.map (Value.int .i64)) _ (by with_reducible exact hrow.out) Try.underlying48 rfl (by with_reducible exact Hinf.out) ?_)
      | (refine wpList_store_row (by exact rfl) 48 (.tmp 3) (.tmp 9) (by exact rfl) w.heap.size (hh.n.l.map (Value.int .i64)).toArray (by exact rfl) (by exact rfl) 48 #[.int .i64 0, .int .i64 0, .int .i64 0, .int .i64 0, .int .i64 0, .int .i64 0, .int .i64 0, .int .i64 0, .int .i64 0, .int .i64 0, .int .i64 0, .int .i64 0, .int .i64 0, .int .i64 0, .int .i64 0, .int .i64 0, .int .i64 0, .int .i64 0, .int .i64 0, .int .i64 0] (by with_reducible exact Hz4.out) Hinf2.out (by rw [Hsz.out]; rfl) Hone.out ?_))
    exact bodyPost_ret (nodeone_results rfl H5.out Hsz.out) rfl ⟨S', _, hS, D5.out, rfl, Sat.fact_iff.2 ⟨⟨rfl, Hf.out.1⟩, H5.out.right.right⟩⟩
end
end Go.Proofs.Ytaoohjeaaccnfaa.Fs

/- file: save. -/
import Derived.Test.YtaoohjeaaccnfaaFn
namespace Go.SL
set_option linter.unusedVariables false
set_option linter.unusedSimpArgs false
open Go.RowKit
section
variable {σ : Type}
def wsaveR (h : Hd) : WM σ Unit := fun st =>
  if h.n.rw = 0 then (.ok (), st) else if h.row.all ptrOk = true then wwrite h.n.rw (leP h.row) st else (.bad 1, st)
def wsave (h : Hd) : WM σ Unit := fun st =>
  if h.n.ok = true then (wwrite (h.id : Int) (encNd h.n) ⇝ fun _ => wsaveR h) st else (.bad 1, st)
theorem wsave_no {h : Hd} {st : Wst σ} (h1 : h.n.ok = false) : wsave h st = (.bad 1, st) := if_neg (by rw [h1]; decide)
theorem wsave_bad {h : Hd} {st st1 : Wst σ} {c : Int} (h1 : h.n.ok = true) (h2 : wwrite (h.id : Int) (encNd h.n) st = (.bad c, st1)) : wsave h st = (.bad c, st1) := (if_pos h1).trans (WM.bind_bad h2)
theorem wsave_z {h : Hd} {st st1 : Wst σ} (h1 : h.n.ok = true) (h2 : wwrite (h.id : Int) (encNd h.n) st = (.ok (), st1)) (h3 : h.n.rw = 0) : wsave h st = (.ok (), st1) := (if_pos h1).trans ((WM.bind_ok h2).trans (if_pos h3))
theorem wsave_rn {h : Hd} {st st1 : Wst σ} (h1 : h.n.ok = true) (h2 : wwrite (h.id : Int) (encNd h.n) st = (.ok (), st1)) (h3 : h.n.rw ≠ 0) (h4 : h.row.all ptrOk = false) : wsave h st = (.bad 1, st1) :=
  (if_pos h1).trans ((WM.bind_ok h2).trans ((if_neg h3).trans (if_neg (by rw [h4]; decide))))
theorem wsave_ry {h : Hd} {st st1 : Wst σ} (h1 : h.n.ok = true) (h2 : wwrite (h.id : Int) (encNd h.n) st = (.ok (), st1)) (h3 : h.n.rw ≠ 0) (h4 : h.row.all ptrOk = true) : wsave h st = wwrite h.n.rw (leP h.row) st1 :=
  (if_pos h1).trans ((WM.bind_ok h2).trans ((if_neg h3).trans (if_pos h4)))
end
end Go.SL
namespace Go.Proofs.Ytaoohjeaaccnfaa.Fs
set_option linter.unusedVariables false
set_option linter.unusedSimpArgs false
open Go.RowKit Go.SL Go.Proofs.Ytaoohjeaaccnfaa.Ba
section
variable {σ α : Type}
theorem held_node {w : World} {hb : Nat} {h : Hd} {F : Assn} (hf : h.fit) (hs : Sat w (pt hb (.cells (ints h.l) 67 (0, 0)) * F)) : w.rangeAt hb 1 (h.n.l.map (Value.int .i64)) := fun j v hv => by
  rw [hs.cell, get_ints, ← List.getElem?_map, Nat.add_comm]
  show (List.map (Value.int .i64) ((h.id : Int) :: (h.n.l ++ h.row)))[j + 1]? = some v
  rw [List.map_cons, List.getElem?_cons_succ, List.map_append, List.getElem?_append_left (List.getElem?_eq_some_iff.1 hv).1]
  exact hv
theorem held_row {w : World} {hb : Nat} {h : Hd} {F : Assn} (hf : h.fit) (hs : Sat w (pt hb (.cells (ints h.l) 67 (0, 0)) * F)) : w.rangeAt hb 21 (h.row.map (Value.int .i64)) := fun j v hv => by
  rw [hs.cell, get_ints, ← List.getElem?_map, show 21 + j = (20 + j) + 1 by omega]
  show (List.map (Value.int .i64) ((h.id : Int) :: (h.n.l ++ h.row)))[20 + j + 1]? = some v
  rw [List.map_cons, List.getElem?_cons_succ, List.map_append, List.getElem?_append_right (by rw [List.length_map, Nd.cells hf.1]; omega), List.length_map, Nd.cells hf.1, Nat.add_sub_cancel_left]
  exact hv
theorem held_rw {w : World} {hb : Nat} {h : Hd} {F : Assn} (hf : h.fit) (hs : Sat w (pt hb (.cells (ints h.l) 67 (0, 0)) * F)) : w.cell? ⟨hb, 20, none⟩ = some (.int .i64 h.n.rw) := by
  have := held_node hf hs 19 (.int .i64 h.n.rw) (by
    have := Nd.at19 hf.1
    rwa [get_ints, ← List.getElem?_map] at this)
  exact this
theorem held_id {w : World} {hb : Nat} {h : Hd} {F : Assn} (hs : Sat w (pt hb (.cells (ints h.l) 67 (0, 0)) * F)) : w.cell? ⟨hb, 0, none⟩ = some (.int .i64 (h.id : Int)) := hs.cell 0
set_option maxRecDepth 100000 in
set_option maxHeartbeats 2000000 in
theorem save_any (x : Wk σ) (w : World) (S : Hp) (st : Wst σ) (hb : Nat) (h : Hd) (F : Assn) (hs : Sat w (heldA hb h * (workA x S st * (pool S * F)))) (Q : Ending → World → Prop)
    (hQ : ∀ e w', WQ x unitR S (heldA hb h * F) w (wsave h st) e w' → Q e w') :
    Calls Try.prog 28 #[.pointer (some ⟨x.k, 0, none⟩), .pointer (some ⟨hb, 0, none⟩)] w Q := by
  obtain ⟨hf, h0⟩ := Sat.held.1 hs
  have HQ := SL.hid hQ; have Hf := SL.hid hf
  have hrow := SL.hid (held_node hf h0)
  have hinf : (Try.prog.info? 48).map (·.size) = some (h.n.l.map (Value.int .i64)).length := by rw [List.length_map, Nd.cells hf.1]; exact info_node0
  have Hinf := SL.hid hinf
  have hvl : h.n.v = .agg (h.n.l.map (Value.int .i64)).toArray := rfl
  have Hs := SL.hid hs
  cases hok : h.n.ok with
  | false =>
    have he := encode_no w h.n hf.1 hok
    rw [hvl] at he
    have HE := SL.hid (wsave_no (st := st) hok)
    clear hf h0 hok hvl hinf hs hQ
    go_enter Try.func28, Try.ntmps28
    go_wp2_with (refine wpList_load_mid (by exact rfl) 48 (.tmp 9) (by exact rfl) hb 1 (by exact rfl) (h.n.l.map (Value.int .i64)) _ (by with_reducible exact hrow.out) Try.underlying48 rfl (by with_reducible exact Hinf.out) ?_)
    (with_reducible refine he.mono ?_)
    rintro e w2 ⟨rfl, h2, d2⟩
    have H2 := h2.keepW Hs.out
    clear h2 he
    go_wp2_with fail
    (with_reducible refine (check_bad _ 1 (by decide)).mono ?_)
    rintro e w3 ⟨rfl, rfl⟩
    go_wp2_with fail
    exact ⟨rfl, HQ.out _ _ (by rw [HE.out]; exact ⟨S, Ext.refl S, d2, rfl, H2.to (by ac_rfl)⟩)⟩
  | true =>
    have he := encode_yes w h.n hf.1 hok
    have hz1 := fun st1 c => wsave_bad (h := h) (st := st) (st1 := st1) (c := c) hok
    have hz2 := fun st1 => wsave_z (h := h) (st := st) (st1 := st1) hok
    have hz3 := fun st1 => wsave_rn (h := h) (st := st) (st1 := st1) hok
    have hz4 := fun st1 => wsave_ry (h := h) (st := st) (st1 := st1) hok
    rw [hvl] at he
    have Hz1 := SL.hid hz1; have Hz2 := SL.hid hz2; have Hz3 := SL.hid hz3; have Hz4 := SL.hid hz4
    clear hf h0 hok hvl hinf hs hQ hz1 hz2 hz3 hz4
    go_enter Try.func28, Try.ntmps28
    go_wp2_with (refine wpList_load_mid (by exact rfl) 48 (.tmp 9) (by exact rfl) hb 1 (by exact rfl) (h.n.l.map (Value.int .i64)) _ (by with_reducible exact hrow.out) Try.underlying48 rfl (by with_reducible exact Hinf.out) ?_)
    (with_reducible refine he.mono ?_)
    rintro e w2 ⟨v2, rfl, h2, d2⟩
    have H2 := h2.under Hs.out
    have hr2 := H2.rds
    obtain ⟨va, vc, rfl⟩ := sl_shape H2
    have H3 := H2.right.to (by ac_rfl : _ = workA x S st * (pool S * (heldA hb h * F)))
    have c0 : w2.cell? ⟨hb, 0, none⟩ = some (.int .i64 (h.id : Int)) := held_id (Sat.held.1 H2.right).2
    have hw := write_anyW x w2 S st (h.id : Int) _ (encNd h.n) _ H3 hr2
    clear h2 he H2 hr2 hrow H3
    obtain ⟨⟨r, st1⟩, hp⟩ : ∃ p, wwrite (h.id : Int) (encNd h.n) st = p := ⟨_, rfl⟩
    rw [hp] at hw
    go_wp2_with fail
    (with_reducible refine (check_ok _).mono ?_)
    rintro e w3 ⟨rfl, rfl⟩
    cases r with
    | bad c =>
      have HE := SL.hid (Hz1.out _ _ hp)
      clear hp
      go_wp2_with fail
      (with_reducible refine hw.mono ?_)
      rintro e w3 ⟨S', hS, d3, rfl, h3⟩
      go_wp2_with fail
      exact ⟨rfl, HQ.out _ _ (by rw [HE.out]; exact ⟨S', hS, d2.trans d3, rfl, h3⟩)⟩
    | ok u =>
      have Hz2 := SL.hid (Hz2.out _ hp); have Hz3 := SL.hid (Hz3.out _ hp); have Hz4 := SL.hid (Hz4.out _ hp)
      clear hp Hz1
      go_wp2_with fail
      (with_reducible refine hw.mono ?_)
      rintro e w3 ⟨S', v3, hS, d3, rfl, h3⟩
      obtain ⟨rfl, h4⟩ := Sat.fact_iff.1 h3
      have h5 : Sat w3 (heldA hb h * (workA x S' st1 * (pool S' * F))) := h4.to (by ac_rfl)
      obtain ⟨hf, h6⟩ := Sat.held.1 h5
      have c20 : w3.cell? ⟨hb, 20, none⟩ = some (.int .i64 h.n.rw) := held_rw hf h6
      have D3 := SL.hid (d2.trans d3)
      have HS := SL.hid hS
      clear hw h3 c0 d2 d3
      by_cases hrw : h.n.rw = 0
      · have HE := SL.hid (Hz2.out hrw)
        have H4 := SL.hid h4
        rw [hrw] at c20
        clear hrw h4 h5 h6 hf
        go_wp2_with fail
        go_end0
        refine HQ.out _ _ ?_
        rw [HE.out]
        exact ⟨S', _, HS.out, D3.out, rfl, Sat.fact_iff.2 ⟨rfl, H4.out⟩⟩
      · have hrw2 : (h.n.rw != 0) = true := by simpa using hrw
        have hrow := SL.hid (held_row hf h6)
        have hinf2 : (Try.prog.info? 65).map (·.size) = some (h.row.map (Value.int .i64)).length := by rw [List.length_map, hf.2]; exact info_row
        have Hinf2 := SL.hid hinf2
        have hio : Value.agg (ints h.row) = .agg (h.row.map (Value.int .i64)).toArray := rfl
        have H5 := SL.hid h5
        cases hra : h.row.all ptrOk with
        | false =>
          have HE := SL.hid (Hz3.out hrw hra)
          have he := encodeRow_no w3 h.row hf.2 hra
          rw [hio] at he
          clear hra hrw h4 h5 h6 hf hinf2 hio
          go_wp2_with (refine wpList_load_mid (by exact rfl) 65 (.tmp 32) (by exact rfl) hb 21 (by exact rfl) (h.row.map (Value.int .i64)) _ (by with_reducible exact hrow.out) Try.underlying65 rfl (by with_reducible exact Hinf2.out) ?_)
          (with_reducible refine he.mono ?_)
          rintro e w4 ⟨rfl, h7, d7⟩
          have H7 := h7.keepW H5.out
          clear h7 he
          go_wp2_with fail
          (with_reducible refine (check_bad _ 1 (by decide)).mono ?_)
          rintro e w5 ⟨rfl, rfl⟩
          go_wp2_with fail
          exact ⟨rfl, HQ.out _ _ (by rw [HE.out]; exact ⟨S', HS.out, D3.out.trans d7, rfl, H7.to (by ac_rfl)⟩)⟩
        | true =>
          have HE := SL.hid (Hz4.out hrw hra)
          have he := encodeRow_yes w3 h.row hf.2 hra
          rw [hio] at he
          clear hra hrw h4 h5 h6 hf hinf2 hio
          go_wp2_with (refine wpList_load_mid (by exact rfl) 65 (.tmp 32) (by exact rfl) hb 21 (by exact rfl) (h.row.map (Value.int .i64)) _ (by with_reducible exact hrow.out) Try.underlying65 rfl (by with_reducible exact Hinf2.out) ?_)
          (with_reducible refine he.mono ?_)
          rintro e w4 ⟨v4, rfl, h7, d7⟩
          have H7 := h7.under H5.out
          have hr7 := H7.rds
          obtain ⟨wa, wc, rfl⟩ := sl_shape H7
          have c20b : w4.cell? ⟨hb, 20, none⟩ = some (.int .i64 h.n.rw) := held_rw Hf.out (Sat.held.1 H7.right).2
          have hw := write_anyW x w4 S' st1 h.n.rw _ (leP h.row) _ (H7.right.to (by ac_rfl : _ = workA x S' st1 * (pool S' * (heldA hb h * F)))) hr7
          clear he h7 H7 hr7 c20
          obtain ⟨⟨r, st2⟩, hp⟩ : ∃ p, wwrite h.n.rw (leP h.row) st1 = p := ⟨_, rfl⟩
          rw [hp] at hw
          have HE2 := SL.hid (HE.out.trans hp)
          clear hp
          go_wp2_with fail
          (with_reducible refine (check_ok _).mono ?_)
          rintro e w5 ⟨rfl, rfl⟩
          cases r with
          | bad c =>
            go_wp2_with fail
            (with_reducible refine hw.mono ?_)
            rintro e w5 ⟨S2, hS2, d5, rfl, h8⟩
            go_wp2_with fail
            exact ⟨rfl, HQ.out _ _ (by rw [HE2.out]; exact ⟨S2, HS.out.trans hS2, (D3.out.trans d7).trans d5, rfl, h8⟩)⟩
          | ok u =>
            go_wp2_with fail
            (with_reducible refine hw.mono ?_)
            rintro e w5 ⟨S2, v5, hS2, d5, rfl, h8⟩
            obtain ⟨rfl, h9⟩ := Sat.fact_iff.1 h8
            clear hw h8
            go_wp2_with fail
            go_end0
            refine HQ.out _ _ ?_
            rw [HE2.out]
            exact ⟨S2, _, HS.out.trans hS2, (D3.out.trans d7).trans d5, rfl, Sat.fact_iff.2 ⟨rfl, h9⟩⟩
end
end Go.Proofs.Ytaoohjeaaccnfaa.Fs

/- replay: whole, head, used, where. -/
import Derived.Test.YtlfooilcngjeiaaQb
import Derived.Test.YtlfooilcngjeiaaRh
import Derived.BigQuiet
namespace Go.SL
set_option linter.unusedVariables false
set_option linter.unusedSimpArgs false
open Go.RowKit
theorem foldl_take {α β : Type} (f : β → α → β) (s : β) (L : List α) {k : Nat} (h : k < L.length) : (L.take (k + 1)).foldl f s = f ((L.take k).foldl f s) L[k] := by
  rw [List.take_succ_eq_append_getElem h, List.foldl_append]; rfl
/-- whole: what was seen so far; nothing: it is not. -/
def wstep (sq : Int) (s : Option (Int × List Int × Int)) (x : Fnd) : Option (Int × List Int × Int) :=
  match s with
  | none => none
  | some (c, seen, h) =>
    if x.1.sq = sq then
      (if x.1.ct = (if c = 0 then x.1.ct else c) then
        some (if c = 0 then x.1.ct else c, if seen.getD x.1.ix.toNat 0 = 0 then seen.set x.1.ix.toNat 1 else seen, if seen.getD x.1.ix.toNat 0 = 0 then h + 1 else h)
      else none)
    else some (c, seen, h)
def wstart : Option (Int × List Int × Int) := some (0, List.replicate 72 0, 0)
def wholeB (L : List Fnd) (sq : Int) : Bool := match L.foldl (wstep sq) wstart with
  | none => false
  | some (c, _, h) => decide (0 < c) && decide (h = c)
theorem wstep_none (sq : Int) (L : List Fnd) : L.foldl (wstep sq) none = none := by
  induction L with
  | nil => rfl
  | cons x L ih => exact ih
theorem wfold_none {sq : Int} {s : Option (Int × List Int × Int)} {L : List Fnd} {k : Nat} (h : (L.take k).foldl (wstep sq) s = none) : L.foldl (wstep sq) s = none := by
  rw [← List.take_append_drop k L, List.foldl_append, h]; exact wstep_none sq _
theorem ok_range {t : Tg} (h : t.ok = true) : 1 ≤ t.ep ∧ 1 ≤ t.st ∧ t.st ≤ t.sq ∧ t.sq ≤ 281474976710655 ∧ t.fl < t.sq ∧ 1 ≤ t.ct ∧ t.ct ≤ 72 ∧ 0 ≤ t.ix ∧ t.ix < t.ct ∧ 0 ≤ t.id ∧ t.id < 3840 := by
  unfold Tg.ok at h
  simp only [Bool.and_eq_true, decide_eq_true_eq] at h
  obtain ⟨⟨⟨⟨⟨⟨⟨⟨⟨⟨h1, h2⟩, h3⟩, h4⟩, h5⟩, h6⟩, h7⟩, h8⟩, h9⟩, h10⟩, h11⟩ := h
  exact ⟨h1, h2, h3, h4, h5, h6, h7, h8, h9, h10, h11⟩
end Go.SL
namespace Go.Proofs.Ytlfooilcngjeiaa
set_option linter.unusedVariables false
set_option linter.unusedSimpArgs false
open Go.RowKit Go.SL
/-- The k-th of what was found, cell by cell. -/
theorem fnd_cells {w : World} {v : Value} {L : List Fnd} (h : RdF w v L) {i : Nat} (hi : i < L.length) :
    ∃ g off c, v = .slice (some ⟨g, off, none⟩) L.length c ∧ ∃ (t : Tg) (p : Nat), L[i] = (t, p) ∧ w.cell? ⟨g, off + i * 8, none⟩ = some (.int .u32 t.ep) ∧ w.cell? ⟨g, off + i * 8 + 1, none⟩ = some (.int .u64 t.st) ∧ w.cell? ⟨g, off + i * 8 + 2, none⟩ = some (.int .u64 t.sq) ∧ w.cell? ⟨g, off + i * 8 + 3, none⟩ = some (.int .u64 t.fl) ∧ w.cell? ⟨g, off + i * 8 + 4, none⟩ = some (.int .i64 t.ix) ∧ w.cell? ⟨g, off + i * 8 + 5, none⟩ = some (.int .i64 t.ct) ∧ w.cell? ⟨g, off + i * 8 + 6, none⟩ = some (.int .i64 t.id) ∧ w.cell? ⟨g, off + i * 8 + 7, none⟩ = some (.int .i64 (p : Int)) := by
  obtain ⟨g, off, c, rfl, hc⟩ := h.cells hi
  refine ⟨g, off, c, rfl, L[i].1, L[i].2, rfl, ?_⟩
  exact ⟨hc 0 (by omega), hc 1 (by omega), hc 2 (by omega), hc 3 (by omega), hc 4 (by omega), hc 5 (by omega), hc 6 (by omega), hc 7 (by omega)⟩
theorem zero72 : Try.zeroCells164 = ints (List.replicate 72 0) := by kernel_rfl
def WholeQ (B : Bool) (w : World) (e : Ending) (w' : World) : Prop := e = .returned (.bool B) ∧ Sat w' (whole w) ∧ Side w w'
def WholeRel (L : List Fnd) (sq : Int) (b5 : Nat) (w : World) (u6 u7 u12 : Value) (wr : World) : Prop :=
  ∃ (k : Nat) (c : Int) (seen : List Int) (h : Nat), k ≤ L.length ∧ u12 = .int .i64 (k : Int) ∧ u6 = .int .i64 c ∧ u7 = .int .i64 (h : Int) ∧ h ≤ k ∧ 0 ≤ c ∧ seen.length = 72 ∧ (L.take k).foldl (wstep sq) wstart = some (c, seen, (h : Int)) ∧ Sat wr (pt b5 (.cells (ints seen) 164 (0, 0)) * whole w) ∧ Side w wr
set_option maxRecDepth 100000 in
set_option maxHeartbeats 2000000 in
theorem whole_any (w : World) (v : Value) (L : List Fnd) (sq : Int) (h : RdF w v L) (hok : ∀ x ∈ L, x.1.ok = true) (hl : L.length ≤ 1000000) :
    Calls Try.prog 55 #[v, .int .u64 sq] w (WholeQ (wholeB L sq) w) := by
  have hln : (L.length : Int) ≤ 1000000 := by omega
  have H0 := SL.hid h
  have Hok := SL.hid hok
  obtain ⟨a, c, rfl⟩ := h.shape
  clear h hok
  go_enter Try.func55, Try.ntmps55
  go_wp2_with fail
  have hA := (Sat.whole w).alloc (.cells Try.zeroCells164 164 (0, 0))
  have hs := (Side.refl w).alloc (.cells Try.zeroCells164 164 (0, 0))
  generalize w.alloc (.cells Try.zeroCells164 164 (0, 0)) = w1 at hA hs ⊢
  rw [zero72] at hA
  generalize w.heap.size = b5 at hA ⊢
  go_loopw [6, 7, 12] (fun u6 u7 u12 wr => WholeRel L sq b5 w u6 u7 u12 wr) (fun _ _ u _ => L.length - (intOf u).toNat)
  case atStart => exact ⟨0, 0, _, 0, Nat.zero_le _, rfl, rfl, rfl, Nat.le_refl _, Int.le_refl _, List.length_replicate, rfl, hA, hs⟩
  case round =>
    clear hA hs
    obtain ⟨k, n, seen, m, hk, rfl, rfl, rfl, hmk, hn0, hsl, hf, hsat, hside⟩ := hrel
    have hR : RdF wr (.slice a L.length c) L := H0.out.keep hsat
    have hm1 : (m : Int) ≤ 1000000 := by omega
    by_cases hlt : k < L.length
    · have hlt' : (k : Int) < (L.length : Int) := by omega
      obtain ⟨g, off, c', hv, t, p, ht, c0, c1, c2, c3, c4, c5, c6, c7⟩ := fnd_cells hR hlt
      cases hv
      have hok := Hok.out _ (List.getElem_mem hlt)
      have hst := foldl_take (wstep sq) wstart L hlt
      rw [hf, ht] at hst
      rw [ht] at hok
      obtain ⟨-, -, -, -, -, hct1, hct2, hix0, hix1, -, -⟩ := ok_range hok
      dsimp only at hct1 hct2 hix0 hix1
      clear hR ht hok hf
      by_cases hsq : sq = t.sq
      · obtain ⟨ix, hix⟩ := Int.eq_ofNat_of_zero_le hix0
        have hixn : ix < 72 := by omega
        have hsx : ix < seen.length := by omega
        rw [hix] at c4
        have hb : (ix : Int) < 72 := by omega
        have cs : wr.cell? ⟨b5, ix, none⟩ = some (.int .i64 (seen.getD ix 0)) := (hsat.cell ix).trans (get_ints_lt hsx)
        have fs : wr.frozen? ⟨b5, ix, none⟩ = false := hsat.frozen ix
        have hset0 := hsat.setCell ix (.int .i64 1)
        rw [set_ints] at hset0
        have hset := (hset0.alloc (.cells #[.int .u32 t.ep, .int .u64 t.st, .int .u64 t.sq, .int .u64 t.fl, .int .i64 (ix : Int), .int .i64 t.ct, .int .i64 t.id, .int .i64 (p : Int)] 119 (0, 0))).right
        clear hset0
        subst hsq
        have hlts : b5 < wr.heap.size := hsat.lt
        have hst2 : (L.take (k + 1)).foldl (wstep t.sq) wstart = if t.ct = (if n = 0 then t.ct else n) then some (if n = 0 then t.ct else n, if seen.getD ix 0 = 0 then seen.set ix 1 else seen, if seen.getD ix 0 = 0 then (m : Int) + 1 else m) else none := by
          rw [hst]; simp only [wstep, if_true, hix, Int.toNat_natCast]
        have Hst := SL.hid hst2
        have Hix := SL.hid hix
        have Hsl := SL.hid hsl
        have Hset := SL.hid hset
        clear hst hst2 hix hsl hset
        generalize seen.getD ix 0 = s0 at cs Hst
        rcases (by omega : n = 0 ∨ (n ≠ 0 ∧ t.ct = n) ∨ (n ≠ 0 ∧ t.ct ≠ n)) with hn | ⟨hn, hc⟩ | ⟨hn, hc⟩
        · subst hn
          by_cases hs0 : s0 = 0
          · subst hs0
            go_wp2_with fail
            go_roundw
            case rel => exact ⟨k + 1, t.ct, seen.set ix 1, m + 1, by omega, by go_num, rfl, by go_num, by omega, by omega, by rw [List.length_set]; exact Hsl.out, by rw [Hst.out]; simp, Hset.out, (hside.setCell _ _).alloc _⟩
            case measure => simp [intOf]; omega
          · have hs1 : (s0 == 0) = false := by simpa using hs0
            go_wp2_with fail
            go_roundw
            case rel => exact ⟨k + 1, t.ct, seen, m, by omega, by go_num, rfl, by go_num, by omega, by omega, Hsl.out, by rw [Hst.out]; simp [hs0], (hsat.alloc _).right, hside.alloc _⟩
            case measure => simp [intOf]; omega
        · have hn1 : (n == 0) = false := by simpa using hn
          subst hc
          by_cases hs0 : s0 = 0
          · subst hs0
            go_wp2_with fail
            go_roundw
            case rel => exact ⟨k + 1, t.ct, seen.set ix 1, m + 1, by omega, by go_num, rfl, by go_num, by omega, by omega, by rw [List.length_set]; exact Hsl.out, by rw [Hst.out]; simp [hn], Hset.out, (hside.setCell _ _).alloc _⟩
            case measure => simp [intOf]; omega
          · have hs1 : (s0 == 0) = false := by simpa using hs0
            go_wp2_with fail
            go_roundw
            case rel => exact ⟨k + 1, t.ct, seen, m, by omega, by go_num, rfl, by go_num, by omega, by omega, Hsl.out, by rw [Hst.out]; simp [hn, hs0], (hsat.alloc _).right, hside.alloc _⟩
            case measure => simp [intOf]; omega
        · have hn1 : (n == 0) = false := by simpa using hn
          have hc1 : (t.ct == n) = false := by simpa using hc
          have hno : wholeB L t.sq = false := by
            have : L.foldl (wstep t.sq) wstart = none := wfold_none (k := k + 1) (by rw [Hst.out, if_neg (by rw [if_neg hn]; exact hc)])
            unfold wholeB; rw [this]
          have Hno := SL.hid hno
          clear hno
          go_wp2_with fail
          go_ret
          exact ⟨by rw [Hno.out]; rfl, (hsat.alloc _).right.right, hside.alloc _⟩
      · have hst2 : (L.take (k + 1)).foldl (wstep sq) wstart = some (n, seen, (m : Int)) := by rw [hst]; simp [wstep, Ne.symm hsq]
        have Hst := SL.hid hst2
        have hne : (t.sq == sq) = false := by simpa using Ne.symm hsq
        clear hst hst2
        go_wp2_with fail
        go_roundw
        case rel => exact ⟨k + 1, n, seen, m, by omega, by go_num, rfl, rfl, by omega, hn0, hsl, Hst.out, (hsat.alloc _).right, hside.alloc _⟩
        case measure => simp [intOf]; omega
    · obtain rfl : k = L.length := by omega
      rw [List.take_length] at hf
      have hB : wholeB L sq = (decide (0 < n) && decide ((m : Int) = n)) := by unfold wholeB; rw [hf]
      have HB := SL.hid hB
      clear hB hf
      by_cases h0 : 0 < n
      · go_wp2_with fail
        go_ret
        exact ⟨by rw [HB.out]; simp only [h0, decide_true, Bool.true_and]; rfl, hsat.right, hside⟩
      · have h1 : ¬ n > 0 := h0
        go_wp2_with fail
        go_ret
        exact ⟨by rw [HB.out, decide_eq_false (by omega : ¬ 0 < n)]; rfl, hsat.right, hside⟩
end Go.Proofs.Ytlfooilcngjeiaa

/- ReplayTells: the document's answer, its row of tags (each behind its place); at, head, stale, walked. ReplayTells: the document's answer: used, head. ReplayTells: the document's answer: stale, whole. -/
import Derived.Test.YtlfooilcngjeiaaQm
import Derived.Test.YtlfooilcngjeiaaQe
import Derived.Test.YtlfooilcngjeiaaJg
import Derived.BigQuiet
namespace Go.SL
set_option linter.unusedVariables false
set_option linter.unusedSimpArgs false
open Go.RowKit
def frC (x : Fnd) : Array Value := #[.int .i64 (x.2 : Int), .int .u32 x.1.ep, .int .u64 x.1.st, .int .u64 x.1.sq, .int .u64 x.1.fl, .int .i64 x.1.ix, .int .i64 x.1.ct, .int .i64 x.1.id]
def flatR (L : List Fnd) : List Value := L.flatMap fun x => (frC x).toList
theorem flatR_snoc (L : List Fnd) (x : Fnd) : flatR (L ++ [x]) = flatR L ++ (frC x).toList := by simp [flatR]
theorem flatR_length (L : List Fnd) : (flatR L).length = L.length * 8 := by
  induction L with
  | nil => rfl
  | cons x L ih => rw [flatR, List.flatMap_cons, List.length_append]; show 8 + (flatR L).length = _; rw [ih, List.length_cons]; omega
theorem flatR_get : ∀ (L : List Fnd) (i j : Nat) (h : i < L.length), j < 8 → (flatR L)[i * 8 + j]? = (frC L[i])[j]? := by
  intro L
  induction L with
  | nil => intro i j h; simp at h
  | cons x L ih =>
    intro i j h hj
    rw [flatR, List.flatMap_cons]
    cases i with
    | zero =>
      rw [List.getElem?_append_left (by show _ < 8; omega)]
      simp
    | succ i =>
      rw [List.getElem?_append_right (by show 8 ≤ _; omega)]
      show (flatR L)[(i + 1) * 8 + j - 8]? = _
      rw [show (i + 1) * 8 + j - 8 = i * 8 + j by omega, ih i j (by simpa using h) hj]
      simp
/-- A slice that reads as these. -/
def RdR (w : World) (v : Value) (L : List Fnd) : Prop := Rds w 8 v L.length (flatR L)
theorem RdR.cells {w : World} {v : Value} {L : List Fnd} (h : RdR w v L) {i : Nat} (hi : i < L.length) :
    ∃ g off c, v = .slice (some ⟨g, off, none⟩) L.length c ∧ ∀ j, j < 8 → w.cell? ⟨g, off + i * 8 + j, none⟩ = (frC L[i])[j]? := by
  rcases h.2 with ⟨_, h0⟩ | ⟨a, c, rfl, ha⟩
  · omega
  · obtain ⟨x, hx⟩ : ∃ x, (flatR L)[0 * 8 + 0]? = some x := ⟨_, by rw [flatR_get L 0 0 (by omega) (by omega)]; rfl⟩
    obtain ⟨g, off, p⟩ := a
    have hp : p = none := by
      have := ha _ _ hx
      cases p with
      | none => rfl
      | some q =>
        simp only [World.cell?, Addr.add] at this
        split at this
        · simp at this
        · cases this
    subst hp
    refine ⟨g, off, c, rfl, fun j hj => ?_⟩
    have hget := flatR_get L i j hi hj
    obtain ⟨y, hy⟩ : ∃ y, (frC L[i])[j]? = some y := ⟨(frC L[i])[j]'(by show j < 8; exact hj), Array.getElem?_eq_getElem (by show j < 8; exact hj)⟩
    rw [hy] at hget ⊢
    have := ha _ _ hget
    rw [Addr.add_lit] at this
    rw [Nat.add_assoc]; exact this
theorem RdR.keep {w w' : World} {v : Value} {L : List Fnd} {P : Assn} (h : RdR w v L) (s : Sat w' (P * whole w)) : RdR w' v L := Rds.carry h fun a u hu => s.cellOld hu
theorem RdR.shape {w : World} {v : Value} {L : List Fnd} (h : RdR w v L) : ∃ a c, v = .slice a L.length c := by
  rcases h.2 with ⟨rfl, h0⟩ | ⟨a, c, rfl, _⟩
  · exact ⟨none, 0, by rw [h0]⟩
  · exact ⟨_, _, rfl⟩
/-- The k-th, cell by cell. -/
theorem fnr_cells {w : World} {v : Value} {L : List Fnd} (h : RdR w v L) {i : Nat} (hi : i < L.length) :
    ∃ g off c, v = .slice (some ⟨g, off, none⟩) L.length c ∧ ∃ (t : Tg) (p : Nat), L[i] = (t, p) ∧ w.cell? ⟨g, off + i * 8, none⟩ = some (.int .i64 (p : Int)) ∧ w.cell? ⟨g, off + i * 8 + 1, none⟩ = some (.int .u32 t.ep) ∧ w.cell? ⟨g, off + i * 8 + 2, none⟩ = some (.int .u64 t.st) ∧ w.cell? ⟨g, off + i * 8 + 3, none⟩ = some (.int .u64 t.sq) ∧ w.cell? ⟨g, off + i * 8 + 4, none⟩ = some (.int .u64 t.fl) ∧ w.cell? ⟨g, off + i * 8 + 5, none⟩ = some (.int .i64 t.ix) ∧ w.cell? ⟨g, off + i * 8 + 6, none⟩ = some (.int .i64 t.ct) ∧ w.cell? ⟨g, off + i * 8 + 7, none⟩ = some (.int .i64 t.id) := by
  obtain ⟨g, off, c, rfl, hc⟩ := h.cells hi
  refine ⟨g, off, c, rfl, L[i].1, L[i].2, rfl, ?_⟩
  exact ⟨hc 0 (by omega), hc 1 (by omega), hc 2 (by omega), hc 3 (by omega), hc 4 (by omega), hc 5 (by omega), hc 6 (by omega), hc 7 (by omega)⟩
end Go.SL
namespace Go.Proofs.Ytlfooilcngjeiaa
set_option linter.unusedVariables false
set_option linter.unusedSimpArgs false
open Go.RowKit Go.SL
def AtRel (L : List Fnd) (id sq : Int) (w : World) (u7 u8 u9 : Value) (wr : World) : Prop :=
  ∃ (k : Nat) (s : Int × Int), k ≤ L.length ∧ u9 = .int .i64 (k : Int) ∧ u7 = .int .i64 s.1 ∧ u8 = .int .u64 s.2 ∧ (L.take k).foldl (astep id sq) (-1, 0) = s ∧ Sat wr (whole w) ∧ Side w wr
set_option maxRecDepth 100000 in
set_option maxHeartbeats 2000000 in
theorem atRef_any (w : World) (v : Value) (L : List Fnd) (id sq : Int) (h : RdR w v L) (hl : L.length ≤ 1000000) :
    Calls Try.prog 67 #[v, .int .i64 id, .int .u64 sq] w (Tells (.int .i64 (atR L id sq)) w) := by
  have hln : (L.length : Int) ≤ 1000000 := by omega
  have H0 := SL.hid h
  obtain ⟨a, c, rfl⟩ := h.shape
  clear h
  go_enter Try.func67, Try.ntmps67
  go_wp2_with fail
  go_loopw [7, 8, 9] (fun u7 u8 u9 wr => AtRel L id sq w u7 u8 u9 wr) (fun _ _ u _ => L.length - (intOf u).toNat)
  case atStart => exact ⟨0, (-1, 0), Nat.zero_le _, rfl, rfl, rfl, rfl, Sat.whole w, Side.refl w⟩
  case round =>
    obtain ⟨k, s, hk, rfl, rfl, rfl, hf, hsat, hside⟩ := hrel
    have hR : RdR wr (.slice a L.length c) L := H0.out.keep (hsat.to (emp_star _).symm)
    by_cases hlt : k < L.length
    · have hlt' : (k : Int) < (L.length : Int) := by omega
      obtain ⟨g, off, c', hv, t, p, ht, c0, c1, c2, c3, c4, c5, c6, c7⟩ := fnr_cells hR hlt
      cases hv
      have hst := foldl_take (astep id sq) (-1, 0) L hlt
      rw [hf, ht] at hst
      have hA := hsat.alloc (.cells #[.int .u32 t.ep, .int .u64 t.st, .int .u64 t.sq, .int .u64 t.fl, .int .i64 t.ix, .int .i64 t.ct, .int .i64 t.id] 80 (0, 0))
      have hsA := hside.alloc (.cells #[.int .u32 t.ep, .int .u64 t.st, .int .u64 t.sq, .int .u64 t.fl, .int .i64 t.ix, .int .i64 t.ct, .int .i64 t.id] 80 (0, 0))
      have HA := SL.hid hA
      have Hst := SL.hid hst
      have hd1 : (wr.alloc (.cells #[.int .u32 t.ep, .int .u64 t.st, .int .u64 t.sq, .int .u64 t.fl, .int .i64 t.ix, .int .i64 t.ct, .int .i64 t.id] 80 (0, 0))).cell? ⟨g, off + k * 8, none⟩ = some (.int .i64 (p : Int)) := ((Sat.whole wr).alloc _).cellOld c0
      obtain ⟨be, mo⟩ := s
      clear hR ht hf hst hA
      by_cases hc : t.id = id ∧ t.sq ≤ sq ∧ mo < t.sq
      · obtain ⟨h1, h2, h3⟩ := hc
        subst h1
        have hst2 : (L.take (k + 1)).foldl (astep t.id sq) (-1, 0) = ((p : Int), t.sq) := by rw [Hst.out]; unfold astep; rw [if_pos ⟨rfl, h2, h3⟩]
        have Hst2 := SL.hid hst2
        clear hst2 Hst
        go_wp2_with fail
        go_roundw
        case rel => exact ⟨k + 1, _, by omega, by go_num, rfl, rfl, Hst2.out, HA.out.right, hsA⟩
        case measure => simp [intOf]; omega
      · have hst2 : (L.take (k + 1)).foldl (astep id sq) (-1, 0) = (be, mo) := by rw [Hst.out]; unfold astep; rw [if_neg hc]
        have Hst2 := SL.hid hst2
        clear hst2 Hst
        by_cases h1 : t.id = id
        · subst h1
          by_cases h2 : t.sq ≤ sq
          · have h3 : ¬ mo < t.sq := fun h => hc ⟨rfl, h2, h⟩
            clear hc
            go_wp2_with fail
            go_roundw
            case rel => exact ⟨k + 1, _, by omega, by go_num, rfl, rfl, Hst2.out, HA.out.right, hsA⟩
            case measure => simp [intOf]; omega
          · clear hc
            go_wp2_with fail
            go_roundw
            case rel => exact ⟨k + 1, _, by omega, by go_num, rfl, rfl, Hst2.out, HA.out.right, hsA⟩
            case measure => simp [intOf]; omega
        · have hne : (t.id == id) = false := by simpa using h1
          clear hc
          go_wp2_with fail
          go_roundw
          case rel => exact ⟨k + 1, _, by omega, by go_num, rfl, rfl, Hst2.out, HA.out.right, hsA⟩
          case measure => simp [intOf]; omega
    · obtain rfl : k = L.length := by omega
      rw [List.take_length] at hf
      go_wp2_with fail
      go_ret
      exact ⟨by unfold atR; rw [hf]; rfl, hsat, hside⟩
end Go.Proofs.Ytlfooilcngjeiaa
namespace Go.SL
set_option linter.unusedVariables false
set_option linter.unusedSimpArgs false
open Go.RowKit
theorem RdI.shape {w : World} {v : Value} {l : List Int} (h : RdI w v l) : ∃ a c, v = .slice a l.length c := by
  rcases h with ⟨x, c, rfl, rfl⟩ | ⟨g, o, c, rfl, _⟩
  · exact ⟨_, _, rfl⟩
  · exact ⟨_, _, rfl⟩
theorem RdI.at {w : World} {v : Value} {l : List Int} (h : RdI w v l) {k : Nat} (hk : k < l.length) : ∃ g o c, v = .slice (some ⟨g, o, none⟩) l.length c ∧ w.cell? ⟨g, o + k, none⟩ = some (.int .i64 (l.getD k 0)) := by
  rcases h with ⟨x, c, rfl, rfl⟩ | ⟨g, o, c, rfl, _, _, hc⟩
  · simp at hk
  · exact ⟨_, _, _, rfl, hc k hk⟩
theorem satDrewN {w : World} {P : Assn} (h : Sat w P) (n : Nat) : Sat (w.drewN n) P := h
theorem tmod_far {hd p : Int} {P : Nat} (hP : 0 < P) (h0 : 0 ≤ hd) (h1 : p < (P : Int)) : (hd - p + (P : Int)).tmod (P : Int) = (hd - p) % (P : Int) := by
  rw [Int.tmod_eq_emod_of_nonneg (by omega), Int.add_emod_right]
end Go.SL
namespace Go.Proofs.Ytlfooilcngjeiaa
set_option linter.unusedVariables false
set_option linter.unusedSimpArgs false
open Go.RowKit Go.SL
set_option maxRecDepth 100000 in
set_option maxHeartbeats 2000000 in
theorem usedRef_any (w : World) (v : Value) (l : List Int) (hd : Int) (P : Nat) (h : RdI w v l) (hl : l.length ≤ 1000000) (hP0 : 0 < P) (hP : P ≤ 1000000) (h0 : 0 ≤ hd) (h1 : hd < (P : Int)) (hb : ∀ k, k < l.length → l.getD k 0 < (P : Int)) :
    Calls Try.prog 69 #[.int .i64 (P : Int), .int .i64 hd, v] w (IntIs (usedI l hd P) w) := by
  have hln : (l.length : Int) ≤ 1000000 := by omega
  have hPn : ¬ (P : Int) = 0 := by omega
  have hPm : (P : Int) ≤ 1000000 := by omega
  have H0 := SL.hid h
  have Hb := SL.hid hb
  have HP := SL.hid hP0
  obtain ⟨a, c, rfl⟩ := h.shape
  clear h hb hP0
  go_enter Try.func69, Try.ntmps69
  go_wp2_with fail
  go_loop [7, 8] (fun u7 u8 => UsedRel l hd P u7 u8) (fun _ u => l.length - (intOf u).toNat)
  case atStart => exact ⟨0, 0, Nat.zero_le _, rfl, rfl, Int.le_refl _, by omega, rfl⟩
  case round =>
    obtain ⟨k, n, hk, rfl, rfl, hn0, hn1, hf⟩ := hrel
    by_cases hlt : k < l.length
    · have hlt' : (k : Int) < (l.length : Int) := by omega
      obtain ⟨g, o, c', hv, hck⟩ := H0.out.at hlt
      cases hv
      have hst := foldl_take' (ustep hd P) 0 l 0 hlt
      rw [hf] at hst
      have hpb := Hb.out k hlt
      have hm0 := Int.emod_nonneg (hd - l.getD k 0) hPn
      have hm1 := Int.emod_lt_of_pos (hd - l.getD k 0) (by omega : (0 : Int) < P)
      have htm := tmod_far HP.out h0 hpb
      clear hf
      have Hst := SL.hid hst
      clear hst
      generalize l.getD k 0 = p at *
      by_cases hp : p < 0
      · have hs2 : (l.take (k + 1)).foldl (ustep hd P) 0 = n := by rw [Hst.out]; unfold ustep; rw [if_pos hp]
        have Hs2 := SL.hid hs2
        clear hs2 Hst htm hm0 hm1
        go_wp2_with fail
        go_round
        case rel => exact ⟨k + 1, n, by omega, by go_num, rfl, hn0, hn1, Hs2.out⟩
        case measure => simp [intOf]; omega
      · have hs2 : (l.take (k + 1)).foldl (ustep hd P) 0 = max n (if (hd - p) % (P : Int) = 0 then (P : Int) else (hd - p) % (P : Int)) := by rw [Hst.out]; unfold ustep; rw [if_neg hp]
        have Hs2 := SL.hid hs2
        clear hs2 Hst
        generalize (hd - p) % (P : Int) = m at *
        by_cases hm : m = 0
        · subst hm
          go_wp2_with fail
          go_round
          case rel => exact ⟨k + 1, max n P, by omega, by go_num, rfl, by omega, by omega, by rw [Hs2.out]; simp⟩
          case measure => simp [intOf]; omega
        · have hm2 : (m == 0) = false := by simpa using hm
          go_wp2_with fail
          go_round
          case rel => exact ⟨k + 1, max n m, by omega, by go_num, rfl, by omega, by omega, by rw [Hs2.out, if_neg hm]⟩
          case measure => simp [intOf]; omega
    · obtain rfl : k = l.length := by omega
      rw [List.take_length] at hf
      go_wp2_with fail
      go_ret
      exact ⟨by unfold usedI; rw [hf]; rfl, rfl⟩
set_option maxRecDepth 100000 in
set_option maxHeartbeats 2000000 in
theorem headRef_any (w : World) (v : Value) (L : List Fnd) (sq : Int) (P : Nat) (h : RdR w v L) (hP0 : 0 < P) (hP : P ≤ 1000000) (hok : ∀ x ∈ L, x.1.ok = true ∧ x.2 ≤ 1048576) (hl : L.length ≤ 1000000) :
    Calls Try.prog 68 #[v, .int .i64 (P : Int), .int .u64 sq] w (Tells (.int .i64 (headI L sq P)) w) := by
  have hln : (L.length : Int) ≤ 1000000 := by omega
  have hPn : ¬ (P : Int) = 0 := by omega
  have H0 := SL.hid h
  have Hok := SL.hid hok
  obtain ⟨a, c, rfl⟩ := h.shape
  clear h hok hP0
  go_enter Try.func68, Try.ntmps68
  go_wp2_with fail
  go_loopw [7, 8, 9] (fun u7 u8 u9 wr => HeadRel L sq P w u7 u8 u9 wr) (fun _ _ u _ => L.length - (intOf u).toNat)
  case atStart => exact ⟨0, (0, -1), Nat.zero_le _, rfl, rfl, rfl, rfl, Sat.whole w, Side.refl w⟩
  case round =>
    obtain ⟨k, s, hk, rfl, rfl, rfl, hf, hsat, hside⟩ := hrel
    have hR : RdR wr (.slice a L.length c) L := H0.out.keep (hsat.to (emp_star _).symm)
    by_cases hlt : k < L.length
    · have hlt' : (k : Int) < (L.length : Int) := by omega
      obtain ⟨g, off, c', hv, t, p, ht, c0, c1, c2, c3, c4, c5, c6, c7⟩ := fnr_cells hR hlt
      cases hv
      obtain ⟨hok, hpl⟩ := Hok.out _ (List.getElem_mem hlt)
      have hst := foldl_take (hstep sq P) (0, -1) L hlt
      rw [hf, ht] at hst
      rw [ht] at hok hpl
      obtain ⟨-, -, -, -, -, hct1, hct2, hix0, hix1, -, -⟩ := ok_range hok
      dsimp only at hct1 hct2 hix0 hix1 hpl
      have hA := hsat.alloc (.cells #[.int .u32 t.ep, .int .u64 t.st, .int .u64 t.sq, .int .u64 t.fl, .int .i64 t.ix, .int .i64 t.ct, .int .i64 t.id] 80 (0, 0))
      have hsA := hside.alloc (.cells #[.int .u32 t.ep, .int .u64 t.st, .int .u64 t.sq, .int .u64 t.fl, .int .i64 t.ix, .int .i64 t.ct, .int .i64 t.id] 80 (0, 0))
      have HA := SL.hid hA
      have HsA := SL.hid hsA
      have Hst := SL.hid hst
      obtain ⟨at', ix'⟩ := s
      clear hR ht hok hf hst hA hsA
      by_cases hsq : sq = t.sq
      · subst hsq
        by_cases hlx : ix' < t.ix
        · have hst2 : (L.take (k + 1)).foldl (hstep t.sq P) (0, -1) = (((p : Int) + (t.ct - t.ix)) % (P : Int), t.ix) := by rw [Hst.out]; unfold hstep; rw [if_pos ⟨rfl, hlx⟩]
          have Hst2 := SL.hid hst2
          have htm : ((p : Int) + t.ct - t.ix).tmod (P : Int) = ((p : Int) + (t.ct - t.ix)) % (P : Int) := by rw [Int.tmod_eq_emod_of_nonneg (by omega)]; congr 1; omega
          have hd1 : (wr.alloc (.cells #[.int .u32 t.ep, .int .u64 t.st, .int .u64 t.sq, .int .u64 t.fl, .int .i64 t.ix, .int .i64 t.ct, .int .i64 t.id] 80 (0, 0))).cell? ⟨g, off + k * 8, none⟩ = some (.int .i64 (p : Int)) := ((Sat.whole wr).alloc _).cellOld c0
          clear hst2 Hst
          generalize ((p : Int) + (t.ct - t.ix)) % (P : Int) = res at htm Hst2
          go_wp2_with fail
          go_quiet (fail)
          go_wp2
          go_roundw
          case rel => exact ⟨k + 1, _, by omega, by go_num, rfl, rfl, Hst2.out, satDrewN HA.out.right nq, side_drewN HsA.out nq⟩
          case measure => simp [intOf]; omega
        · have hst2 : (L.take (k + 1)).foldl (hstep t.sq P) (0, -1) = (at', ix') := by rw [Hst.out]; unfold hstep; rw [if_neg (fun h => hlx h.2)]
          have Hst2 := SL.hid hst2
          clear hst2 Hst
          go_wp2_with fail
          go_roundw
          case rel => exact ⟨k + 1, _, by omega, by go_num, rfl, rfl, Hst2.out, HA.out.right, HsA.out⟩
          case measure => simp [intOf]; omega
      · have hst2 : (L.take (k + 1)).foldl (hstep sq P) (0, -1) = (at', ix') := by rw [Hst.out]; unfold hstep; rw [if_neg (fun h => hsq h.1.symm)]
        have Hst2 := SL.hid hst2
        have hne : (t.sq == sq) = false := by simpa using Ne.symm hsq
        clear hst2 Hst
        go_wp2_with fail
        go_roundw
        case rel => exact ⟨k + 1, _, by omega, by go_num, rfl, rfl, Hst2.out, HA.out.right, HsA.out⟩
        case measure => simp [intOf]; omega
    · obtain rfl : k = L.length := by omega
      rw [List.take_length] at hf
      go_wp2_with fail
      go_ret
      exact ⟨by unfold headI; rw [hf]; rfl, hsat, hside⟩
end Go.Proofs.Ytlfooilcngjeiaa
namespace Go.SL
set_option linter.unusedVariables false
set_option linter.unusedSimpArgs false
open Go.RowKit
theorem hasIx_take (L : List Fnd) (sq k : Int) {i : Nat} (h : i < L.length) : hasIx (L.take (i + 1)) sq k = (hasIx (L.take i) sq k || (decide (L[i].1.sq = sq) && decide (L[i].1.ix = k))) := by
  have e : L.take (i + 1) = L.take i ++ [L[i]] := by rw [List.take_add_one, List.getElem?_eq_getElem h]; rfl
  rw [e, hasIx_snoc]
theorem rfold_none {sq : Int} {s : Option Int} {L : List Fnd} {k : Nat} (h : (L.take k).foldl (rstep sq) s = none) : L.foldl (rstep sq) s = none := by
  rw [← List.take_append_drop k L, List.foldl_append, h, rstep_none]
theorem wholeR_no {L : List Fnd} {sq c : Int} (h : L.foldl (rstep sq) (some 0) = some c) {k : Nat} (hk : (k : Int) < c) (hno : hasIx L sq (k : Int) = false) : wholeR L sq = false := by
  unfold wholeR
  rw [h]
  have : ((List.range c.toNat).all fun k : Nat => hasIx L sq (k : Int)) = false := List.all_eq_false.2 ⟨k, List.mem_range.2 (by omega), by rw [hno]; decide⟩
  show (((List.range c.toNat).all fun k : Nat => hasIx L sq (k : Int)) && decide (0 < c)) = false
  rw [this]; rfl
theorem wholeR_end {L : List Fnd} {sq c : Int} (h : L.foldl (rstep sq) (some 0) = some c) (hall : ∀ j : Nat, (j : Int) < c → hasIx L sq (j : Int) = true) : wholeR L sq = decide (0 < c) := by
  unfold wholeR
  rw [h]
  have : ((List.range c.toNat).all fun k : Nat => hasIx L sq (k : Int)) = true := List.all_eq_true.2 fun k hk => hall k (by have := List.mem_range.1 hk; omega)
  show (((List.range c.toNat).all fun k : Nat => hasIx L sq (k : Int)) && decide (0 < c)) = decide (0 < c)
  rw [this]; rfl
end Go.SL
namespace Go.Proofs.Ytlfooilcngjeiaa
set_option linter.unusedVariables false
set_option linter.unusedSimpArgs false
open Go.RowKit Go.SL
def ValIs (v : Value) (w : World) (e : Ending) (w' : World) : Prop := e = .returned v ∧ w = w'
def WrRel (L : List Fnd) (sq : Int) (u5 u6 : Value) : Prop :=
  ∃ (k : Nat) (c : Int), k ≤ L.length ∧ u6 = .int .i64 (k : Int) ∧ u5 = .int .i64 c ∧ 0 ≤ c ∧ c ≤ 72 ∧ (L.take k).foldl (rstep sq) (some 0) = some c
def WrRel2 (L : List Fnd) (sq c : Int) (u7 : Value) : Prop := ∃ k : Nat, (k : Int) ≤ c ∧ u7 = .int .i64 (k : Int) ∧ ∀ j : Nat, j < k → hasIx L sq (j : Int) = true
def WrRel3 (L : List Fnd) (sq : Int) (k : Nat) (u8 u9 : Value) : Prop := ∃ i : Nat, i ≤ L.length ∧ u9 = .int .i64 (i : Int) ∧ u8 = .bool (hasIx (L.take i) sq (k : Int))
set_option maxRecDepth 100000 in
set_option maxHeartbeats 2000000 in
theorem wholeRef_any (w : World) (v : Value) (L : List Fnd) (sq : Int) (h : RdR w v L) (hok : ∀ x ∈ L, x.1.ok = true) (hl : L.length ≤ 1000000) :
    Calls Try.prog 66 #[v, .int .u64 sq] w (ValIs (.bool (wholeR L sq)) w) := by
  have hln : (L.length : Int) ≤ 1000000 := by omega
  have H0 := SL.hid h
  have Hok := SL.hid hok
  obtain ⟨a, c, rfl⟩ := h.shape
  clear h hok
  go_enter Try.func66, Try.ntmps66
  go_wp2_with fail
  go_loop [5, 6] (fun u5 u6 => WrRel L sq u5 u6) (fun _ u => L.length - (intOf u).toNat)
  case atStart => exact ⟨0, 0, Nat.zero_le _, rfl, rfl, Int.le_refl _, by omega, rfl⟩
  case round =>
    obtain ⟨k, n, hk, rfl, rfl, hn0, hn1, hf⟩ := hrel
    by_cases hlt : k < L.length
    · have hlt' : (k : Int) < (L.length : Int) := by omega
      obtain ⟨g, off, c', hv, t, p, ht, c0, c1, c2, c3, c4, c5, c6, c7⟩ := fnr_cells H0.out hlt
      cases hv
      have hok := Hok.out _ (List.getElem_mem hlt)
      have hst := foldl_take (rstep sq) (some 0) L hlt
      rw [hf, ht] at hst
      rw [ht] at hok
      obtain ⟨-, -, -, -, -, hct1, hct2, -, -, -, -⟩ := ok_range hok
      dsimp only at hct1 hct2
      clear ht hok hf
      by_cases hsq : t.sq = sq
      · have hsb : (t.sq == sq) = true := by simpa using hsq
        by_cases hn : n = 0
        · subst hn
          have hst2 : (L.take (k + 1)).foldl (rstep sq) (some 0) = some t.ct := by
            rw [hst]; show (if t.sq = sq then (if (0 : Int) ≠ 0 ∧ (0 : Int) ≠ t.ct then none else some t.ct) else some 0) = _
            rw [if_pos hsq, if_neg (fun h => h.1 rfl)]
          have Hst := SL.hid hst2
          clear hst hst2
          go_wp2_with fail
          go_round
          case rel => exact ⟨k + 1, t.ct, by omega, by go_num, rfl, by omega, by omega, Hst.out⟩
          case measure => simp [intOf]; omega
        · have hnb : (n == 0) = false := by simpa using hn
          by_cases hc : n = t.ct
          · have hst2 : (L.take (k + 1)).foldl (rstep sq) (some 0) = some t.ct := by
              rw [hst]; show (if t.sq = sq then (if n ≠ 0 ∧ n ≠ t.ct then none else some t.ct) else some n) = _
              rw [if_pos hsq, if_neg (fun h => h.2 hc)]
            have Hst := SL.hid hst2
            clear hst hst2
            subst hc
            go_wp2_with fail
            go_round
            case rel => exact ⟨k + 1, t.ct, by omega, by go_num, rfl, by omega, by omega, Hst.out⟩
            case measure => simp [intOf]; omega
          · have hcb : (n == t.ct) = false := by simpa using hc
            have hcc : (n != t.ct) = true := by simpa using hc
            have hno : wholeR L sq = false := by
              have : L.foldl (rstep sq) (some 0) = none := rfold_none (k := k + 1) (by
                rw [hst]; show (if t.sq = sq then (if n ≠ 0 ∧ n ≠ t.ct then none else some t.ct) else some n) = _
                rw [if_pos hsq, if_pos ⟨hn, hc⟩])
              unfold wholeR; rw [this]
            have Hno := SL.hid hno
            clear hst hno hc
            go_wp2_with fail
            go_ret
            exact ⟨by rw [Hno.out]; rfl, rfl⟩
      · have hsb : (t.sq == sq) = false := by simpa using hsq
        have hst2 : (L.take (k + 1)).foldl (rstep sq) (some 0) = some n := by
          rw [hst]; show (if t.sq = sq then (if n ≠ 0 ∧ n ≠ t.ct then none else some t.ct) else some n) = _
          rw [if_neg hsq]
        have Hst := SL.hid hst2
        clear hst hst2
        go_wp2_with fail
        go_round
        case rel => exact ⟨k + 1, n, by omega, by go_num, rfl, hn0, hn1, Hst.out⟩
        case measure => simp [intOf]; omega
    · obtain rfl : k = L.length := by omega
      rw [List.take_length] at hf
      have Hf := SL.hid hf
      clear hf hlt hk
      go_wp2_with fail
      go_loop [7] (fun u7 => WrRel2 L sq n u7) (fun u => n.toNat - (intOf u).toNat)
      case atStart => exact ⟨0, hn0, rfl, fun j hj => absurd hj (Nat.not_lt_zero _)⟩
      case round =>
        obtain ⟨k, hk, rfl, hall⟩ := hrel
        have Hall := SL.hid hall
        clear hall
        by_cases hkc : (k : Int) < n
        · go_wp2_with fail
          go_loop [8, 9] (fun u8 u9 => WrRel3 L sq k u8 u9) (fun _ u => L.length - (intOf u).toNat)
          case atStart => exact ⟨0, Nat.zero_le _, rfl, rfl⟩
          case round =>
            obtain ⟨i, hi, rfl, rfl⟩ := hrel
            by_cases hlt : i < L.length
            · have hlt' : (i : Int) < (L.length : Int) := by omega
              obtain ⟨g, off, c', hv, t, p, ht, c0, c1, c2, c3, c4, c5, c6, c7⟩ := fnr_cells H0.out hlt
              cases hv
              have hix := hasIx_take L sq (k : Int) hlt
              rw [ht] at hix
              dsimp only at hix
              clear ht
              have fin : ∀ X : Value, X = .bool (hasIx (L.take (i + 1)) sq (k : Int)) → WrRel3 L sq k X (.int .i64 ((i : Int) + 1)) := fun X hX => ⟨i + 1, by omega, by go_num, hX⟩
              have Hfin := SL.hid fin
              have Hix := SL.hid hix
              clear fin hix
              generalize hasIx (L.take i) sq (k : Int) = b at Hix ⊢
              cases b with
              | true =>
                go_wp2_with fail
                go_round
                case rel => exact Hfin.out _ (by rw [Hix.out]; rfl)
                case measure => simp [intOf]; omega
              | false =>
                by_cases h1 : t.sq = sq
                · have h1b : (t.sq == sq) = true := by simpa using h1
                  by_cases h2 : t.ix = (k : Int)
                  · have h2b : (t.ix == (k : Int)) = true := by simpa using h2
                    have e := Hix.out
                    rw [decide_eq_true h1, decide_eq_true h2] at e
                    have He := SL.hid e
                    clear e h1 h2
                    go_wp2_with fail
                    go_round
                    case rel => exact Hfin.out _ (by rw [He.out]; rfl)
                    case measure => simp [intOf]; omega
                  · have h2b : (t.ix == (k : Int)) = false := by simpa using h2
                    have e := Hix.out
                    rw [decide_eq_true h1, decide_eq_false h2] at e
                    have He := SL.hid e
                    clear e h1 h2
                    go_wp2_with fail
                    go_round
                    case rel => exact Hfin.out _ (by rw [He.out]; rfl)
                    case measure => simp [intOf]; omega
                · have h1b : (t.sq == sq) = false := by simpa using h1
                  have e := Hix.out
                  rw [decide_eq_false h1] at e
                  have He := SL.hid e
                  clear e h1
                  go_wp2_with fail
                  go_round
                  case rel => exact Hfin.out _ (by rw [He.out]; rfl)
                  case measure => simp [intOf]; omega
            · obtain rfl : i = L.length := by omega
              rw [List.take_length]
              clear hlt hi
              cases hb : hasIx L sq (k : Int) with
              | true =>
                have Hb := SL.hid hb
                clear hb
                go_wp2_with fail
                go_round
                case rel => exact ⟨k + 1, by omega, by go_num, fun j hj => by
                  rcases Nat.lt_or_eq_of_le (Nat.le_of_lt_succ hj) with h | h
                  · exact Hall.out j h
                  · rw [h]; exact Hb.out⟩
                case measure => simp [intOf]; omega
              | false =>
                have Hno := SL.hid (wholeR_no Hf.out hkc hb)
                clear hb
                go_wp2_with fail
                go_ret
                exact ⟨by rw [Hno.out]; rfl, rfl⟩
        · have hfin := wholeR_end Hf.out (fun j hj => Hall.out j (by omega))
          have Hfin := SL.hid hfin
          clear hfin
          by_cases h0 : 0 < n
          · go_wp2_with fail
            go_ret
            exact ⟨by rw [Hfin.out, decide_eq_true h0]; rfl, rfl⟩
          · go_wp2_with fail
            go_ret
            exact ⟨by rw [Hfin.out, decide_eq_false (by omega)]; rfl, rfl⟩
def StRel (L : List Fnd) (t : Tg) (X : Assn) (w : World) (u5 : Value) (wr : World) : Prop :=
  ∃ k : Nat, k ≤ L.length ∧ u5 = .int .i64 (k : Int) ∧ (∀ j (h : j < L.length), j < k → (decide (t.ep < L[j].1.ep) && decide (L[j].1.st ≤ t.sq)) = false) ∧ Sat wr X ∧ Side w wr
set_option maxRecDepth 100000 in
set_option maxHeartbeats 2000000 in
theorem staleRef_any (w : World) (v : Value) (L : List Fnd) (t : Tg) (h : RdR w v L) (hl : L.length ≤ 1000000) :
    Calls Try.prog 65 #[v, .agg #[.int .u32 t.ep, .int .u64 t.st, .int .u64 t.sq, .int .u64 t.fl, .int .i64 t.ix, .int .i64 t.ct, .int .i64 t.id]] w (Tells (.bool (staleB L t)) w) := by
  have hln : (L.length : Int) ≤ 1000000 := by omega
  have H0 := SL.hid h
  have hA := (Sat.whole w).alloc (.cells #[.int .u32 t.ep, .int .u64 t.st, .int .u64 t.sq, .int .u64 t.fl, .int .i64 t.ix, .int .i64 t.ct, .int .i64 t.id] 80 (0, 0))
  have hs := (Side.refl w).alloc (.cells #[.int .u32 t.ep, .int .u64 t.st, .int .u64 t.sq, .int .u64 t.fl, .int .i64 t.ix, .int .i64 t.ct, .int .i64 t.id] 80 (0, 0))
  obtain ⟨a, c, rfl⟩ := h.shape
  clear h
  go_enter Try.func65, Try.ntmps65
  go_wp2_with fail
  generalize w.alloc (.cells #[.int .u32 t.ep, .int .u64 t.st, .int .u64 t.sq, .int .u64 t.fl, .int .i64 t.ix, .int .i64 t.ct, .int .i64 t.id] 80 (0, 0)) = w1 at hA hs ⊢
  generalize w.heap.size = b at hA ⊢
  obtain ⟨X, hX⟩ : ∃ X, X = pt b (.cells #[.int .u32 t.ep, .int .u64 t.st, .int .u64 t.sq, .int .u64 t.fl, .int .i64 t.ix, .int .i64 t.ct, .int .i64 t.id] 80 (0, 0)) * whole w := ⟨_, rfl⟩
  rw [← hX] at hA
  have HX := SL.hid hX
  clear hX
  go_loopw [5] (fun u5 wr => StRel L t X w u5 wr) (fun u _ => L.length - (intOf u).toNat)
  case atStart => exact ⟨0, Nat.zero_le _, rfl, fun j h hj => absurd hj (Nat.not_lt_zero _), hA, hs⟩
  case round =>
    clear hA hs
    obtain ⟨k, hk, rfl, hall, hsat, hside⟩ := hrel
    have h2 : Sat wr (pt b (.cells #[.int .u32 t.ep, .int .u64 t.st, .int .u64 t.sq, .int .u64 t.fl, .int .i64 t.ix, .int .i64 t.ct, .int .i64 t.id] 80 (0, 0)) * whole w) := HX.out ▸ hsat
    have hR : RdR wr (.slice a L.length c) L := H0.out.keep h2
    have b0 : wr.cell? ⟨b, 0, none⟩ = some (.int .u32 t.ep) := h2.cell 0
    have b2 : wr.cell? ⟨b, 2, none⟩ = some (.int .u64 t.sq) := h2.cell 2
    have Hall := SL.hid hall; have Hs := SL.hid hsat; have Hd := SL.hid hside
    clear hall hsat hside h2
    by_cases hlt : k < L.length
    · have hlt' : (k : Int) < (L.length : Int) := by omega
      obtain ⟨g, off, c', hv, x, p, ht, c0, c1, c2, c3, c4, c5, c6, c7⟩ := fnr_cells hR hlt
      cases hv
      have hfin : (decide (t.ep < L[k].1.ep) && decide (L[k].1.st ≤ t.sq)) = false → ∀ j (h : j < L.length), j < k + 1 → (decide (t.ep < L[j].1.ep) && decide (L[j].1.st ≤ t.sq)) = false := fun h j hj hjk => by
        rcases Nat.lt_or_eq_of_le (Nat.le_of_lt_succ hjk) with h1 | h1
        · exact Hall.out j hj h1
        · subst h1; exact h
      have hyes : (decide (t.ep < L[k].1.ep) && decide (L[k].1.st ≤ t.sq)) = true → staleB L t = true := fun h => List.any_eq_true.2 ⟨_, List.getElem_mem hlt, h⟩
      rw [ht] at hfin hyes
      dsimp only at hfin hyes
      have Hfin := SL.hid hfin; have Hyes := SL.hid hyes
      clear hR ht hfin hyes
      go_wp2_with fail
      by_cases h1 : t.ep < x.ep
      · by_cases h3 : x.st ≤ t.sq
        · have He := SL.hid (Hyes.out (by rw [decide_eq_true h1, decide_eq_true h3]; rfl))
          go_quiet (fail)
          go_wp2
          go_ret
          exact ⟨by rw [He.out]; rfl, (HX.out ▸ satDrewN Hs.out nq : Sat _ (_ * whole w)).right, side_drewN Hd.out nq⟩
        · have He := SL.hid (Hfin.out (by rw [decide_eq_false h3, Bool.and_false]))
          go_quiet (fail)
          go_wp2
          go_roundw
          case rel => exact ⟨k + 1, by omega, by go_num, He.out, satDrewN Hs.out nq, side_drewN Hd.out nq⟩
          case measure => simp [intOf]; omega
      · have hd1 : decide (t.ep < x.ep) = false := decide_eq_false h1
        have He := SL.hid (Hfin.out (by rw [hd1]; rfl))
        go_quiet (fail)
        go_wp2
        go_roundw
        case rel => exact ⟨k + 1, by omega, by go_num, He.out, satDrewN Hs.out nq, side_drewN Hd.out nq⟩
        case measure => simp [intOf]; omega
    · obtain rfl : k = L.length := by omega
      have hno : staleB L t = false := by
        unfold staleB
        rw [List.any_eq_false]
        intro x hx
        obtain ⟨j, hj, rfl⟩ := List.getElem_of_mem hx
        rw [Hall.out j hj hj]; simp
      have Hno := SL.hid hno
      clear hno
      go_wp2_with fail
      go_ret
      exact ⟨by rw [Hno.out]; rfl, (HX.out ▸ Hs.out : Sat _ (_ * whole w)).right, Hd.out⟩
end Go.Proofs.Ytlfooilcngjeiaa

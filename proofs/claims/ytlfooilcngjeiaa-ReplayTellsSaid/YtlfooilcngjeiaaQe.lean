/- replay: head, used; ring.Far. -/
import Derived.Test.YtlfooilcngjeiaaQd
import Derived.IntWalk
namespace Go.SL
set_option linter.unusedVariables false
set_option linter.unusedSimpArgs false
open Go.RowKit
/-- head: where the batch goes on, and the greatest index so far. -/
def hstep (sq : Int) (P : Nat) (s : Int × Int) (x : Fnd) : Int × Int :=
  if x.1.sq = sq ∧ s.2 < x.1.ix then (((x.2 : Int) + (x.1.ct - x.1.ix)) % (P : Int), x.1.ix) else s
def headI (L : List Fnd) (sq : Int) (P : Nat) : Int := (L.foldl (hstep sq P) (0, -1)).1
/-- used: how far ahead the furthest is. -/
def ustep (hd : Int) (P : Nat) (n p : Int) : Int := if p < 0 then n else max n (if (hd - p) % (P : Int) = 0 then (P : Int) else (hd - p) % (P : Int))
def usedI (l : List Int) (hd : Int) (P : Nat) : Int := l.foldl (ustep hd P) 0
theorem maxlt (a b : Int) : (if a < b then b else a) = max a b := by omega
theorem foldl_take' {α β : Type} (f : β → α → β) (s : β) (L : List α) (d : α) {k : Nat} (h : k < L.length) : (L.take (k + 1)).foldl f s = f ((L.take k).foldl f s) (L.getD k d) := by
  rw [foldl_take f s L h, List.getD, List.getElem?_eq_getElem h]; rfl
end Go.SL
namespace Go.Proofs.Ytlfooilcngjeiaa
set_option linter.unusedVariables false
set_option linter.unusedSimpArgs false
open Go.RowKit Go.SL
set_option maxRecDepth 100000 in
theorem far_any (w : World) (r : Nat) (l : List Int) (a b : Int) (F : Assn) (h : Sat w (ringA r l * F)) (h0 : 0 < l.length) (h1 : l.length ≤ 1048576) :
    Calls Try.prog 85 #[.pointer (some ⟨r, 0, none⟩), .int .i64 a, .int .i64 b] w (IntIs ((b - a) % (l.length : Int)) w) := by
  have p1 := place_any w r l b F h h0 h1
  have p2 := place_any w r l a F h h0 h1
  have p3 := place_any w r l (b % (l.length : Int) - a % (l.length : Int)) F h h0 h1
  rw [← Int.sub_emod] at p3
  have a1 := Int.emod_nonneg a (by omega : (l.length : Int) ≠ 0)
  have a2 := Int.emod_lt_of_pos a (by omega : (0 : Int) < l.length)
  have b1 := Int.emod_nonneg b (by omega : (l.length : Int) ≠ 0)
  have b2 := Int.emod_lt_of_pos b (by omega : (0 : Int) < l.length)
  have a3 : a % (l.length : Int) ≤ 1048576 := by omega
  have b3 : b % (l.length : Int) ≤ 1048576 := by omega
  generalize (b - a) % (l.length : Int) = s at p3 ⊢
  generalize a % (l.length : Int) = ra at *
  generalize b % (l.length : Int) = rb at *
  clear h a2 b2
  go_enter Try.func85, Try.ntmps85
  go_wp2_with fail
  refine p1.mono ?_
  rintro e w1 ⟨rfl, rfl⟩
  clear p1
  go_wp2_with fail
  refine p2.mono ?_
  rintro e w1 ⟨rfl, rfl⟩
  clear p2
  go_wp2_with fail
  refine p3.mono ?_
  rintro e w1 ⟨rfl, rfl⟩
  clear p3
  go_wp2
  go_ret
  exact ⟨rfl, rfl⟩
def HeadRel (L : List Fnd) (sq : Int) (P : Nat) (w : World) (u7 u8 u13 : Value) (wr : World) : Prop :=
  ∃ (k : Nat) (s : Int × Int), k ≤ L.length ∧ u13 = .int .i64 (k : Int) ∧ u7 = .int .i64 s.1 ∧ u8 = .int .i64 s.2 ∧ (L.take k).foldl (hstep sq P) (0, -1) = s ∧ Sat wr (whole w) ∧ Side w wr
set_option maxRecDepth 100000 in
set_option maxHeartbeats 2000000 in
theorem head_any (w : World) (v : Value) (L : List Fnd) (sq : Int) (r : Nat) (l : List Int) (F : Assn) (h : RdF w v L) (hr : Sat w (ringA r l * F)) (h0 : 0 < l.length) (h1 : l.length ≤ 1048576) (hok : ∀ x ∈ L, x.1.ok = true ∧ x.2 ≤ 1048576) (hl : L.length ≤ 1000000) :
    Calls Try.prog 57 #[v, .int .u64 sq, ptV r] w (Tells (.int .i64 (headI L sq l.length)) w) := by
  have hln : (L.length : Int) ≤ 1000000 := by omega
  have H0 := SL.hid h
  have Hok := SL.hid hok
  have Hr := SL.hid hr
  have H1 := SL.hid h0
  have H2 := SL.hid h1
  obtain ⟨a, c, rfl⟩ := h.shape
  clear h hok hr h0 h1
  go_enter Try.func57, Try.ntmps57
  go_wp2_with fail
  go_loopw [7, 8, 13] (fun u7 u8 u13 wr => HeadRel L sq l.length w u7 u8 u13 wr) (fun _ _ u _ => L.length - (intOf u).toNat)
  case atStart => exact ⟨0, (0, -1), Nat.zero_le _, rfl, rfl, rfl, rfl, Sat.whole w, Side.refl w⟩
  case round =>
    obtain ⟨k, s, hk, rfl, rfl, rfl, hf, hsat, hside⟩ := hrel
    have hR : RdF wr (.slice a L.length c) L := H0.out.keep (hsat.to (emp_star _).symm)
    by_cases hlt : k < L.length
    · have hlt' : (k : Int) < (L.length : Int) := by omega
      obtain ⟨g, off, c', hv, t, p, ht, c0, c1, c2, c3, c4, c5, c6, c7⟩ := fnd_cells hR hlt
      cases hv
      obtain ⟨hok, hpl⟩ := Hok.out _ (List.getElem_mem hlt)
      have hst := foldl_take (hstep sq l.length) (0, -1) L hlt
      rw [hf, ht] at hst
      rw [ht] at hok hpl
      obtain ⟨-, -, -, -, -, hct1, hct2, hix0, hix1, -, -⟩ := ok_range hok
      dsimp only at hct1 hct2 hix0 hix1 hpl
      have hA := hsat.alloc (.cells #[.int .u32 t.ep, .int .u64 t.st, .int .u64 t.sq, .int .u64 t.fl, .int .i64 t.ix, .int .i64 t.ct, .int .i64 t.id, .int .i64 (p : Int)] 119 (0, 0))
      have hsA := hside.alloc (.cells #[.int .u32 t.ep, .int .u64 t.st, .int .u64 t.sq, .int .u64 t.fl, .int .i64 t.ix, .int .i64 t.ct, .int .i64 t.id, .int .i64 (p : Int)] 119 (0, 0))
      have HA := SL.hid hA
      have Hst := SL.hid hst
      obtain ⟨at', ix'⟩ := s
      clear hR ht hok hf hst hA
      by_cases hsq : sq = t.sq
      · subst hsq
        by_cases hlx : ix' < t.ix
        · have hst2 : (L.take (k + 1)).foldl (hstep t.sq l.length) (0, -1) = (((p : Int) + (t.ct - t.ix)) % (l.length : Int), t.ix) := by rw [Hst.out]; unfold hstep; rw [if_pos ⟨rfl, hlx⟩]
          have Hst2 := SL.hid hst2
          clear hst2 Hst
          go_wp2_with fail
          generalize wr.alloc (.cells #[.int .u32 t.ep, .int .u64 t.st, .int .u64 t.sq, .int .u64 t.fl, .int .i64 t.ix, .int .i64 t.ct, .int .i64 t.id, .int .i64 (p : Int)] 119 (0, 0)) = w5 at HA hsA ⊢
          generalize wr.heap.size = b10 at HA ⊢
          obtain ⟨BIG, hBIG⟩ : ∃ X, X = pt b10 (.cells #[.int .u32 t.ep, .int .u64 t.st, .int .u64 t.sq, .int .u64 t.fl, .int .i64 t.ix, .int .i64 t.ct, .int .i64 t.id, .int .i64 (p : Int)] 119 (0, 0)) * whole w := ⟨_, rfl⟩
          have g4 : ∀ w', Sat w' BIG → w'.cell? ⟨b10, 4, none⟩ = some (.int .i64 t.ix) := fun w' h => (hBIG ▸ h).cell 4
          have g5 : ∀ w', Sat w' BIG → w'.cell? ⟨b10, 5, none⟩ = some (.int .i64 t.ct) := fun w' h => (hBIG ▸ h).cell 5
          have g7 : ∀ w', Sat w' BIG → w'.cell? ⟨b10, 7, none⟩ = some (.int .i64 (p : Int)) := fun w' h => (hBIG ▸ h).cell 7
          have Hgo : Hid (∀ w', Sat w' BIG → Calls Try.prog 50 #[.pointer (some ⟨r, 0, none⟩), .int .i64 (p : Int), .int .i64 (t.ct - t.ix)] w' (IntIs (((p : Int) + (t.ct - t.ix)) % (l.length : Int)) w')) := fun w' h' =>
            go_any w' r l _ _ F ((hBIG ▸ h' : Sat w' (_ * whole w)).right.keepW Hr.out) H1.out H2.out
          have HB1 : Sat w5 BIG := hBIG ▸ HA.out
          have HBd : Sat w5.drew BIG := HB1
          have Hsx := SL.hid hsat
          have HBG := SL.hid hBIG
          have hwr : IntKind.i64.wrap (t.ct - t.ix) = t.ct - t.ix := IntWalk.i64_in _ (by omega)
          clear c0 c1 c2 c3 c4 c5 c6 c7 HA hsat hBIG
          generalize ((p : Int) + (t.ct - t.ix)) % (l.length : Int) = res at Hgo Hst2
          go_region_held3 (fun w' => Sat w' BIG) (first | (with_reducible exact HB1) | (with_reducible exact HBd)) (first
            | (go_at_call 50; (with_reducible refine (Hgo.out _ (by assumption)).mono ?_); rintro e w2 ⟨rfl, rfl⟩))
          all_goals
            go_wp2
            go_roundw
            case rel => exact ⟨k + 1, _, by omega, by go_num, rfl, rfl, Hst2.out, (HBG.out ▸ HBd : Sat _ (_ * whole w)).right, hsA.drew⟩
            case measure => simp [intOf]; omega
        · have hst2 : (L.take (k + 1)).foldl (hstep t.sq l.length) (0, -1) = (at', ix') := by rw [Hst.out]; unfold hstep; rw [if_neg (fun h => hlx h.2)]
          have Hst2 := SL.hid hst2
          clear hst2 Hst
          go_wp2_with fail
          go_roundw
          case rel => exact ⟨k + 1, _, by omega, by go_num, rfl, rfl, Hst2.out, HA.out.right, hsA⟩
          case measure => simp [intOf]; omega
      · have hst2 : (L.take (k + 1)).foldl (hstep sq l.length) (0, -1) = (at', ix') := by rw [Hst.out]; unfold hstep; rw [if_neg (fun h => hsq h.1.symm)]
        have Hst2 := SL.hid hst2
        have hne : (t.sq == sq) = false := by simpa using Ne.symm hsq
        clear hst2 Hst
        go_wp2_with fail
        go_roundw
        case rel => exact ⟨k + 1, _, by omega, by go_num, rfl, rfl, Hst2.out, HA.out.right, hsA⟩
        case measure => simp [intOf]; omega
    · obtain rfl : k = L.length := by omega
      rw [List.take_length] at hf
      go_wp2_with fail
      go_ret
      exact ⟨by unfold headI; rw [hf]; rfl, hsat, hside⟩
def UsedRel (l : List Int) (hd : Int) (P : Nat) (u7 u13 : Value) : Prop :=
  ∃ (k : Nat) (n : Int), k ≤ l.length ∧ u13 = .int .i64 (k : Int) ∧ u7 = .int .i64 n ∧ 0 ≤ n ∧ n ≤ (P : Int) ∧ (l.take k).foldl (ustep hd P) 0 = n
set_option maxRecDepth 100000 in
set_option maxHeartbeats 2000000 in
theorem used_any (w : World) (g : Nat) (cc : Nat) (at_ : List Int) (hd : Int) (r : Nat) (l : List Int) (F : Assn) (h : Sat w (pt g (.cells (ints at_) 3 (0, 0)) * (ringA r l * F))) (h0 : 0 < l.length) (h1 : l.length ≤ 1048576) (hl : at_.length ≤ 1000000) :
    Calls Try.prog 58 #[.slice (some ⟨g, 0, none⟩) at_.length cc, .int .i64 hd, ptV r] w (IntIs (usedI at_ hd l.length) w) := by
  have hln : (at_.length : Int) ≤ 1000000 := by omega
  have hl2 : (l.length : Int) ≤ 1048576 := by omega
  have hlen := ringLen_any w r l _ h.right
  have hfar := fun a => far_any w r l a hd _ h.right h0 h1
  have hc : ∀ i, i < at_.length → w.cell? ⟨g, i, none⟩ = some (.int .i64 (at_.getD i 0)) := fun i hi => (h.cell i).trans (get_ints_lt hi)
  have Hlen := SL.hid hlen; have Hfar := SL.hid hfar; have Hc := SL.hid hc; have H1 := SL.hid h0
  clear hlen hfar hc h h0 h1
  go_enter Try.func58, Try.ntmps58
  go_wp2_with fail
  go_loop [7, 13] (fun u7 u13 => UsedRel at_ hd l.length u7 u13) (fun _ u => at_.length - (intOf u).toNat)
  case atStart => exact ⟨0, 0, Nat.zero_le _, rfl, rfl, Int.le_refl _, by omega, rfl⟩
  case round =>
    obtain ⟨k, n, hk, rfl, rfl, hn0, hn1, hf⟩ := hrel
    by_cases hlt : k < at_.length
    · have hlt' : (k : Int) < (at_.length : Int) := by omega
      have hck := Hc.out k hlt
      have hst := foldl_take' (ustep hd l.length) 0 at_ 0 hlt
      rw [hf] at hst
      have hfp := Hfar.out (at_.getD k 0)
      have hm0 := Int.emod_nonneg (hd - at_.getD k 0) (by have := H1.out; omega : (l.length : Int) ≠ 0)
      have hm1 := Int.emod_lt_of_pos (hd - at_.getD k 0) (by have := H1.out; omega : (0 : Int) < l.length)
      clear hf
      have Hst := SL.hid hst
      clear hst
      generalize at_.getD k 0 = p at *
      by_cases hp : p < 0
      · have hs2 : (at_.take (k + 1)).foldl (ustep hd l.length) 0 = n := by rw [Hst.out]; unfold ustep; rw [if_pos hp]
        have Hs2 := SL.hid hs2
        clear hs2 hfp Hst
        go_wp2_with fail
        go_round
        case rel => exact ⟨k + 1, n, by omega, by go_num, rfl, hn0, hn1, Hs2.out⟩
        case measure => simp [intOf]; omega
      · have hs2 : (at_.take (k + 1)).foldl (ustep hd l.length) 0 = max n (if (hd - p) % (l.length : Int) = 0 then (l.length : Int) else (hd - p) % (l.length : Int)) := by rw [Hst.out]; unfold ustep; rw [if_neg hp]
        have Hs2 := SL.hid hs2
        clear hs2 Hst
        generalize (hd - p) % (l.length : Int) = m at *
        by_cases hm : m = 0
        · subst hm
          go_wp2_with fail
          (with_reducible refine hfp.mono ?_)
          rintro e w1 ⟨rfl, rfl⟩
          clear hfp
          go_wp2_with fail
          (with_reducible refine Hlen.out.mono ?_)
          rintro e w1 ⟨rfl, rfl⟩
          go_wp2_with fail
          go_round
          case rel => exact ⟨k + 1, max n l.length, by omega, by go_num, by rw [maxlt], by omega, by omega, by rw [Hs2.out]; simp⟩
          case measure => simp [intOf]; omega
        · have hm2 : (m == 0) = false := by simpa using hm
          go_wp2_with fail
          (with_reducible refine hfp.mono ?_)
          rintro e w1 ⟨rfl, rfl⟩
          clear hfp
          go_wp2_with fail
          go_round
          case rel => exact ⟨k + 1, max n m, by omega, by go_num, by rw [maxlt], by omega, by omega, by rw [Hs2.out, if_neg hm]⟩
          case measure => simp [intOf]; omega
    · obtain rfl : k = at_.length := by omega
      rw [List.take_length] at hf
      go_wp2_with fail
      go_ret
      exact ⟨by unfold usedI; rw [hf]; rfl, rfl⟩
end Go.Proofs.Ytlfooilcngjeiaa

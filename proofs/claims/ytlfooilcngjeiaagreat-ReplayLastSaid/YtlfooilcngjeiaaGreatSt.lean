/- The sort of uint32: order2, median, medianAdjacent, choosePivot. -/
import Derived.Test.YtlfooilcngjeiaaGreatSq
namespace Go.Proofs.YtlfooilcngjeiaaGreat
set_option linter.unusedVariables false
set_option linter.unusedSimpArgs false
open Go.RowKit Go.SL Go.Sort
/-- The counter of swaps, beside the row. -/
def swA (s n : Nat) : Assn := pt s (.cells #[.int .i64 (n : Int)] 3 (0, 0))
def OrdQ (g s : Nat) (d : Array Int) (r : Nat × Nat × Nat) (tl : List Value) (F : Assn) (w : World) (e : Ending) (w' : World) : Prop :=
  e = .returned (.tuple #[.int .i64 (r.1 : Int), .int .i64 (r.2.1 : Int)]) ∧ Sat w' (uA g d tl * (swA s r.2.2 * F)) ∧ Side w w'
set_option maxRecDepth 100000 in
set_option maxHeartbeats 2000000 in
theorem order2_any (g s : Nat) (d : Array Int) (a b n cap : Nat) (tl : List Value) (w : World) (F : Assn) (h : Sat w (uA g d tl * (swA s n * F))) (ha : a < d.size) (hb : b < d.size) (hsz : d.size ≤ 1000000000) (hcap : d.size ≤ cap) (hn : n ≤ 1000) :
    Calls Tryz.prog 113 #[.slice (some ⟨g, 0, none⟩) d.size cap, .int .i64 (a : Int), .int .i64 (b : Int), .pointer (some ⟨s, 0, none⟩)] w (OrdQ g s d (order2 ltInt d a b n) tl F w) := by
  have ha' : (a : Int) < (d.size : Int) := by omega
  have hb' : (b : Int) < (d.size : Int) := by omega
  have hn' : (n : Int) ≤ 1000 := by omega
  have ka := uA_cell h ha
  have kb := uA_cell h hb
  unfold order2
  generalize d[a]! = xa at *
  generalize d[b]! = xb at *
  have H4 := SL.hid h
  clear h
  cases hcmp : ltInt xb xa with
  | true =>
    have HL : Hid (∀ w, Calls Tryz.prog 102 #[.int .u32 xb, .int .u32 xa] w fun e w' => e = .returned (.bool true) ∧ w' = w) := SL.hid (fun w => by have := less_any xb xa w; rwa [hcmp] at this)
    rw [if_pos rfl]
    clear hcmp
    go_enter Tryz.func113, Tryz.ntmps113
    go_wp2_with fail
    go_quiet ((go_at_call 102; exact Calls.quiet_of_same (HL.out _)))
    obtain ⟨wq, hwq⟩ : ∃ x, w.drewN nq = x := ⟨_, rfl⟩
    have Hq : Sat wq (uA g d tl * (swA s n * F)) := hwq ▸ H4.out.drew
    have sq : Side w wq := hwq ▸ (Side.refl w).drewN nq
    simp only [hwq]
    clear hwq ka kb
    have ks : wq.cell? ⟨s, 0, none⟩ = some (.int .i64 (n : Int)) := (show Sat wq (pt s (.cells #[.int .i64 (n : Int)] 3 (0, 0)) * _) from Hq.front2).cell 0
    have fs : wq.frozen? ⟨s, 0, none⟩ = false := (show Sat wq (pt s (.cells #[.int .i64 (n : Int)] 3 (0, 0)) * _) from Hq.front2).frozen 0
    have h5 := (show Sat wq (pt s (.cells #[.int .i64 (n : Int)] 3 (0, 0)) * _) from Hq.front2).setCell 0 (.int .i64 ((n : Int) + 1))
    simp only [List.setIfInBounds_toArray, List.set_cons_zero] at h5
    have H5 := SL.hid h5.front2
    clear h5 Hq
    go_wp2_with fail
    go_ret2
    exact ⟨rfl, H5.out.to (by unfold swA; simp only [Int.natCast_add, Int.cast_ofNat_Int]), sq.setCell _ _⟩
  | false =>
    have HL : Hid (∀ w, Calls Tryz.prog 102 #[.int .u32 xb, .int .u32 xa] w fun e w' => e = .returned (.bool false) ∧ w' = w) := SL.hid (fun w => by have := less_any xb xa w; rwa [hcmp] at this)
    rw [if_neg (by decide)]
    clear hcmp
    go_enter Tryz.func113, Tryz.ntmps113
    go_wp2_with fail
    go_quiet ((go_at_call 102; exact Calls.quiet_of_same (HL.out _)))
    go_wp2_with fail
    go_ret2
    exact ⟨rfl, H4.out.drew, (Side.refl w).drewN nq⟩
theorem order2_range (d : Array Int) (a b n m : Nat) (ha : a < m) (hb : b < m) : (order2 ltInt d a b n).1 < m ∧ (order2 ltInt d a b n).2.1 < m ∧ (order2 ltInt d a b n).2.2 ≤ n + 1 := by
  unfold order2; split <;> simp [ha, hb]
def MedQ (g s : Nat) (d : Array Int) (r : Nat × Nat) (tl : List Value) (F : Assn) (w : World) (e : Ending) (w' : World) : Prop :=
  e = .returned (.int .i64 (r.1 : Int)) ∧ Sat w' (uA g d tl * (swA s r.2 * F)) ∧ Side w w'
set_option maxRecDepth 100000 in
set_option maxHeartbeats 2000000 in
theorem median_any (g s : Nat) (d : Array Int) (a b c n cap : Nat) (tl : List Value) (w : World) (F : Assn) (h : Sat w (uA g d tl * (swA s n * F))) (ha : a < d.size) (hb : b < d.size) (hc : c < d.size) (hsz : d.size ≤ 1000000000) (hcap : d.size ≤ cap) (hn : n ≤ 900) :
    Calls Tryz.prog 111 #[.slice (some ⟨g, 0, none⟩) d.size cap, .int .i64 (a : Int), .int .i64 (b : Int), .int .i64 (c : Int), .pointer (some ⟨s, 0, none⟩)] w (MedQ g s d (median ltInt d a b c n) tl F w) := by
  have c1 := order2_any g s d a b n cap tl w F h ha hb hsz hcap (by omega)
  obtain ⟨r11, r12, r13⟩ := order2_range d a b n d.size ha hb
  unfold median
  dsimp only
  generalize order2 ltInt d a b n = r1 at *
  obtain ⟨p1, q1, n1⟩ := r1
  dsimp only at r11 r12 r13 ⊢
  obtain ⟨r21, r22, r23⟩ := order2_range d q1 c n1 d.size r12 hc
  generalize hr2 : order2 ltInt d q1 c n1 = r2 at *
  obtain ⟨p2, q2, n2⟩ := r2
  dsimp only at r21 r22 r23 ⊢
  obtain ⟨r31, r32, r33⟩ := order2_range d p1 p2 n2 d.size r11 r21
  generalize hr3 : order2 ltInt d p1 p2 n2 = r3 at *
  obtain ⟨p3, q3, n3⟩ := r3
  dsimp only at r31 r32 r33 ⊢
  have Hr2 := SL.hid hr2; have Hr3 := SL.hid hr3
  clear hr2 hr3
  go_enter Tryz.func111, Tryz.ntmps111
  go_wp2_with fail
  (with_reducible refine c1.mono ?_)
  rintro e w1 ⟨rfl, h1, d1⟩
  have c2 := order2_any g s d q1 c n1 cap tl w1 F h1 r12 hc hsz hcap (by omega)
  rw [Hr2.out] at c2
  clear c1 h h1
  go_wp2_with fail
  (with_reducible refine c2.mono ?_)
  rintro e w2 ⟨rfl, h2, d2⟩
  have c3 := order2_any g s d p1 p2 n2 cap tl w2 F h2 r11 r21 hsz hcap (by omega)
  rw [Hr3.out] at c3
  clear c2 h2
  go_wp2_with fail
  (with_reducible refine c3.mono ?_)
  rintro e w3 ⟨rfl, h3, d3⟩
  clear c3
  go_wp2_with fail
  go_ret
  exact ⟨rfl, h3, (d1.trans d2).trans d3⟩
theorem median_range (d : Array Int) (a b c n m : Nat) (ha : a < m) (hb : b < m) (hc : c < m) : (median ltInt d a b c n).1 < m ∧ (median ltInt d a b c n).2 ≤ n + 3 := by
  unfold median
  dsimp only
  obtain ⟨r11, r12, r13⟩ := order2_range d a b n m ha hb
  generalize order2 ltInt d a b n = r1 at *
  obtain ⟨r21, r22, r23⟩ := order2_range d r1.2.1 c r1.2.2 m r12 hc
  generalize order2 ltInt d r1.2.1 c r1.2.2 = r2 at *
  obtain ⟨r31, r32, r33⟩ := order2_range d r1.1 r2.1 r2.2.2 m r11 r21
  exact ⟨r32, by omega⟩
set_option maxRecDepth 100000 in
theorem medianAdj_any (g s : Nat) (d : Array Int) (a n cap : Nat) (tl : List Value) (w : World) (F : Assn) (h : Sat w (uA g d tl * (swA s n * F))) (ha0 : 1 ≤ a) (ha : a + 1 < d.size) (hsz : d.size ≤ 1000000000) (hcap : d.size ≤ cap) (hn : n ≤ 900) :
    Calls Tryz.prog 110 #[.slice (some ⟨g, 0, none⟩) d.size cap, .int .i64 (a : Int), .pointer (some ⟨s, 0, none⟩)] w (MedQ g s d (medianAdjacent ltInt d a n) tl F w) := by
  have c1 := median_any g s d (a - 1) a (a + 1) n cap tl w F h (by omega) (by omega) ha hsz hcap hn
  unfold medianAdjacent
  generalize median ltInt d (a - 1) a (a + 1) n = r at *
  rw [show (((a - 1 : Nat) : Int)) = (a : Int) - 1 by omega, show ((a + 1 : Nat) : Int) = (a : Int) + 1 by omega] at c1
  have h1 : (1 : Int) ≤ (a : Int) := by omega
  have h2 : (a : Int) ≤ 1000000000 := by omega
  clear h
  go_enter Tryz.func110, Tryz.ntmps110
  go_wp2_with fail
  (with_reducible refine c1.mono ?_)
  rintro e w1 ⟨rfl, h1, d1⟩
  go_wp2_with fail
  go_ret
  exact ⟨rfl, h1, d1⟩
def hintN : Hint → Int
  | .unknown => 0
  | .increasing => 1
  | .decreasing => 2
def ChoQ (g : Nat) (d : Array Int) (r : Nat × Hint) (tl : List Value) (F : Assn) (w : World) (e : Ending) (w' : World) : Prop :=
  e = .returned (.tuple #[.int .i64 (r.1 : Int), .int .i64 (hintN r.2)]) ∧ Sat w' (uA g d tl * F) ∧ Side w w'
def hintOf (n : Nat) : Hint := if n = 0 then .increasing else if n = 12 then .decreasing else .unknown
theorem choose_big {d : Array Int} {a b l : Nat} (hl : l = b - a) (h8 : 8 ≤ l) (h50 : 50 ≤ l) (r1 r2 r3 r4 : Nat × Nat) (h1 : medianAdjacent ltInt d (a + l / 4 * 1) 0 = r1) (h2 : medianAdjacent ltInt d (a + l / 4 * 2) r1.2 = r2) (h3 : medianAdjacent ltInt d (a + l / 4 * 3) r2.2 = r3) (h4 : median ltInt d r1.1 r2.1 r3.1 r3.2 = r4) :
    choosePivot ltInt d a b = (r4.1, hintOf r4.2) := by
  subst hl
  unfold choosePivot
  simp only [ge_iff_le, h8, h50, if_true, h1, h2, h3, h4]
  rfl
theorem choose_mid {d : Array Int} {a b l : Nat} (hl : l = b - a) (h8 : 8 ≤ l) (h50 : ¬ 50 ≤ l) (r4 : Nat × Nat) (h4 : median ltInt d (a + l / 4 * 1) (a + l / 4 * 2) (a + l / 4 * 3) 0 = r4) :
    choosePivot ltInt d a b = (r4.1, hintOf r4.2) := by
  subst hl
  unfold choosePivot
  simp only [ge_iff_le, h8, h50, if_true, if_false, h4]
  rfl
theorem swA_new {w : World} {X : Assn} (h : Sat w X) : Sat (w.alloc (.cells #[.int .i64 0] 3 (0, 0))) (swA w.heap.size 0 * X) := h.alloc (.cells #[.int .i64 0] 3 (0, 0))
theorem swA_cell {w : World} {s n : Nat} {X : Assn} (h : Sat w (swA s n * X)) : w.cell? ⟨s, 0, none⟩ = some (.int .i64 (n : Int)) := Sat.cell (show Sat w (pt s (.cells #[.int .i64 (n : Int)] 3 (0, 0)) * X) from h) 0
set_option maxRecDepth 100000 in
set_option maxHeartbeats 4000000 in
theorem choose_any (g : Nat) (d : Array Int) (a b cap : Nat) (tl : List Value) (w : World) (F : Assn) (h : Sat w (uA g d tl * F)) (hab : a + 13 ≤ b) (hb : b ≤ d.size) (hsz : d.size ≤ 1000000000) (hcap : d.size ≤ cap) :
    Calls Tryz.prog 99 #[.slice (some ⟨g, 0, none⟩) d.size cap, .int .i64 (a : Int), .int .i64 (b : Int)] w (ChoQ g d (choosePivot ltInt d a b) tl F w) := by
  obtain ⟨l, hl⟩ : ∃ l, l = b - a := ⟨_, rfl⟩
  obtain ⟨q, hq⟩ : ∃ q, q = l / 4 := ⟨_, rfl⟩
  have hmb := @choose_big d a b l hl (by omega)
  have hmm := @choose_mid d a b l hl (by omega)
  rw [← hq] at hmb hmm
  have e0 : (b : Int) - (a : Int) = (l : Int) := by omega
  have e1 : (l : Int) / 4 = (q : Int) := by omega
  have e2 : (l : Int).tdiv 4 = (q : Int) := by rw [Int.tdiv_eq_ediv_of_nonneg (by omega)]; exact e1
  have l0 : (13 : Int) ≤ (l : Int) := by omega
  have l1 : (l : Int) ≤ 1000000000 := by omega
  have q1 : (q : Int) ≤ 250000000 := by omega
  have a1 : (a : Int) ≤ 1000000000 := by omega
  have b1 : (b : Int) ≤ 1000000000 := by omega
  obtain ⟨i, hi⟩ : ∃ i, i = a + q * 1 := ⟨_, rfl⟩
  obtain ⟨j, hj⟩ : ∃ j, j = a + q * 2 := ⟨_, rfl⟩
  obtain ⟨k, hk⟩ : ∃ k, k = a + q * 3 := ⟨_, rfl⟩
  rw [← hi, ← hj, ← hk] at hmb hmm
  have hi1 : (a : Int) + (q : Int) = (i : Int) := by omega
  have hj1 : (a : Int) + (q : Int) * 2 = (j : Int) := by omega
  have hk1 : (a : Int) + (q : Int) * 3 = (k : Int) := by omega
  have rk : 1 ≤ i ∧ i + 1 < d.size ∧ 1 ≤ j ∧ j + 1 < d.size ∧ 1 ≤ k ∧ k + 1 < d.size := by omega
  have hA := swA_new h
  have hsA := (Side.refl w).alloc (.cells #[.int .i64 0] 3 (0, 0))
  have Hb := SL.hid hmb; have Hm := SL.hid hmm; have Rk := SL.hid rk; have HA := SL.hid hA.front2; have HsA := SL.hid hsA
  clear hl hq hmb hmm hi hj hk rk h hA hsA hab hb
  by_cases h50 : 50 ≤ l
  · have h50' : (50 : Int) ≤ (l : Int) := by omega
    have hb2 := Hb.out h50
    have hbb := hb2 _ _ _ _ rfl rfl rfl rfl
    have Hbb := SL.hid hbb
    clear hbb hb2
    obtain ⟨m1, m2⟩ := median_range d (i - 1) i (i + 1) 0 d.size (by have := Rk.out; omega) (by have := Rk.out; omega) (by have := Rk.out; omega)
    have x1 : (medianAdjacent ltInt d i 0).1 < d.size ∧ (medianAdjacent ltInt d i 0).2 ≤ 3 := ⟨m1, m2⟩
    clear m1 m2
    go_enter Tryz.func99, Tryz.ntmps99
    go_wp2_with fail
    generalize w.alloc (.cells #[.int .i64 0] 3 (0, 0)) = w1 at *
    generalize w.heap.size = s at *
    have c1 := medianAdj_any g s d i 0 cap tl w1 F HA.out Rk.out.1 Rk.out.2.1 hsz hcap (by omega)
    generalize medianAdjacent ltInt d i 0 = r1 at *
    obtain ⟨p1, n1⟩ := r1
    obtain ⟨x1, y1⟩ := x1
    dsimp only at x1 y1
    (with_reducible refine c1.mono ?_)
    rintro e w2 ⟨rfl, h2, d2⟩
    have H2 := SL.hid h2
    have D2 := HsA.out.trans d2
    clear c1 h2 d2 HA HsA
    have c2 := medianAdj_any g s d j n1 cap tl w2 F H2.out Rk.out.2.2.1 Rk.out.2.2.2.1 hsz hcap (by omega)
    obtain ⟨m1, m2⟩ := median_range d (j - 1) j (j + 1) n1 d.size (by have := Rk.out; omega) (by have := Rk.out; omega) (by have := Rk.out; omega)
    have x2 : (medianAdjacent ltInt d j n1).1 < d.size ∧ (medianAdjacent ltInt d j n1).2 ≤ n1 + 3 := ⟨m1, m2⟩
    clear m1 m2
    generalize medianAdjacent ltInt d j n1 = r2 at *
    obtain ⟨p2, n2⟩ := r2
    obtain ⟨x2, y2⟩ := x2
    dsimp only at x2 y2
    go_wp2_with fail
    (with_reducible refine c2.mono ?_)
    rintro e w3 ⟨rfl, h3, d3⟩
    have H3 := SL.hid h3
    have D3 := D2.trans d3
    clear c2 h3 d3 H2 D2
    have c3 := medianAdj_any g s d k n2 cap tl w3 F H3.out Rk.out.2.2.2.2.1 Rk.out.2.2.2.2.2 hsz hcap (by omega)
    obtain ⟨m1, m2⟩ := median_range d (k - 1) k (k + 1) n2 d.size (by have := Rk.out; omega) (by have := Rk.out; omega) (by have := Rk.out; omega)
    have x3 : (medianAdjacent ltInt d k n2).1 < d.size ∧ (medianAdjacent ltInt d k n2).2 ≤ n2 + 3 := ⟨m1, m2⟩
    clear m1 m2
    generalize medianAdjacent ltInt d k n2 = r3 at *
    obtain ⟨p3, n3⟩ := r3
    obtain ⟨x3, y3⟩ := x3
    dsimp only at x3 y3
    go_wp2_with fail
    (with_reducible refine c3.mono ?_)
    rintro e w4 ⟨rfl, h4, d4⟩
    have H4 := SL.hid h4
    have D4 := D3.trans d4
    clear c3 h4 d4 H3 D3
    have c4 := median_any g s d p1 p2 p3 n3 cap tl w4 F H4.out x1 x2 x3 hsz hcap (by omega)
    generalize median ltInt d p1 p2 p3 n3 = r4 at *
    obtain ⟨p4, n4⟩ := r4
    go_wp2_with fail
    (with_reducible refine c4.mono ?_)
    rintro e w5 ⟨rfl, h5, d5⟩
    have H5 := SL.hid h5
    have ks : w5.cell? ⟨s, 0, none⟩ = some (.int .i64 (n4 : Int)) := swA_cell h5.front2
    have D5 := D4.trans d5
    clear c4 h5 d5 H4 D4
    by_cases z0 : n4 = 0
    · subst z0
      go_wp2_with fail
      go_ret2
      rw [Hbb.out]
      exact ⟨rfl, H5.out.drop2, D5⟩
    · by_cases z1 : n4 = 12
      · subst z1
        go_wp2_with fail
        go_ret2
        rw [Hbb.out]
        exact ⟨rfl, H5.out.drop2, D5⟩
      · have z2 : ((n4 : Int) == 0) = false := by simpa using z0
        have z3 : ((n4 : Int) == 12) = false := by simp; omega
        have Hz : Hid (hintOf n4 = .unknown) := SL.hid (by unfold hintOf; rw [if_neg z0, if_neg z1])
        clear z0 z1
        go_wp2_with fail
        go_ret2
        rw [Hbb.out]
        exact ⟨by dsimp only; rw [Hz.out]; rfl, H5.out.drop2, D5⟩
  · have h50' : ¬ (50 : Int) ≤ (l : Int) := by omega
    have hb2 := Hm.out h50
    have hbb := hb2 _ rfl
    have Hbb := SL.hid hbb
    clear hbb hb2
    go_enter Tryz.func99, Tryz.ntmps99
    go_wp2_with fail
    generalize w.alloc (.cells #[.int .i64 0] 3 (0, 0)) = w4 at *
    generalize w.heap.size = s at *
    have c4 := median_any g s d i j k 0 cap tl w4 F HA.out (by have := Rk.out; omega) (by have := Rk.out; omega) (by have := Rk.out; omega) hsz hcap (by omega)
    generalize median ltInt d i j k 0 = r4 at *
    obtain ⟨p4, n4⟩ := r4
    (with_reducible refine c4.mono ?_)
    rintro e w5 ⟨rfl, h5, d5⟩
    have H5 := SL.hid h5
    have ks : w5.cell? ⟨s, 0, none⟩ = some (.int .i64 (n4 : Int)) := swA_cell h5.front2
    have D5 := HsA.out.trans d5
    clear c4 h5 d5 HA HsA
    by_cases z0 : n4 = 0
    · subst z0
      go_wp2_with fail
      go_ret2
      rw [Hbb.out]
      exact ⟨rfl, H5.out.drop2, D5⟩
    · by_cases z1 : n4 = 12
      · subst z1
        go_wp2_with fail
        go_ret2
        rw [Hbb.out]
        exact ⟨rfl, H5.out.drop2, D5⟩
      · have z2 : ((n4 : Int) == 0) = false := by simpa using z0
        have z3 : ((n4 : Int) == 12) = false := by simp; omega
        have Hz : Hid (hintOf n4 = .unknown) := SL.hid (by unfold hintOf; rw [if_neg z0, if_neg z1])
        clear z0 z1
        go_wp2_with fail
        go_ret2
        rw [Hbb.out]
        exact ⟨by dsimp only; rw [Hz.out]; rfl, H5.out.drop2, D5⟩
end Go.Proofs.YtlfooilcngjeiaaGreat

/- FileRow: the walk. -/
import Derived.Test.YtaoohjeaaccnfaaVi
namespace Go.SL
set_option linter.unusedVariables false
set_option linter.unusedSimpArgs false
/-- Two blocks. -/
def twoP (p q : Nat) : Nat → Bool := fun i => decide (i = p) || decide (i = q)
theorem cntP_none : cntP (fun _ => false) = 0 := by unfold cntP; rw [List.countP_eq_zero]; intro i _ h; cases h
theorem cntP_one {p : Nat} (hp : p < 256) : cntP (fun i => decide (i = p)) = 1 := by
  have := cntP_upd (p := fun i => decide (i = p)) (q := fun _ => false) hp fun i hi => decide_eq_false hi
  rw [cntP_none, if_neg (by decide), if_pos (decide_eq_true rfl)] at this
  omega
theorem cntP_two {p q : Nat} (hp : p < 256) (hq : q < 256) : cntP (twoP p q) = if p = q then 1 else 2 := by
  by_cases e : p = q
  · subst e
    rw [if_pos rfl, ← cntP_one hp]
    exact cntP_congr fun i _ => by unfold twoP; rw [Bool.or_self]
  · have := cntP_upd (p := twoP p q) (q := fun i => decide (i = p)) hq fun i hi => by unfold twoP; rw [decide_eq_false hi, Bool.or_false]
    rw [cntP_one hp, if_neg (by simp; exact fun h => e h.symm), if_pos (by unfold twoP; simp)] at this
    rw [if_neg e]; omega
theorem needP_two {p q : Nat} (hp : p < 256) (hq : q < 256) : needP (twoP p q) = 1 + (if p = q then 1 else 2) + if 16 ≤ max p q then 1 else 0 := by
  unfold needP
  rw [cntP_two hp hq]
  congr 1
  by_cases h : 16 ≤ max p q
  · rw [if_pos h, if_pos]
    rw [rowB_iff]
    rcases Nat.le_total p q with h1 | h1
    · exact ⟨q, by omega, hq, by simp [twoP]⟩
    · exact ⟨p, by omega, hp, by simp [twoP]⟩
  · rw [if_neg h, if_neg]
    intro h9
    obtain ⟨i, h1, h2, h3⟩ := rowB_iff.1 h9
    simp only [twoP, Bool.or_eq_true, decide_eq_true_eq] at h3
    omega
theorem needP_one {p : Nat} (hp : p < 256) : needP (fun i => decide (i = p)) = 2 + if 16 ≤ p then 1 else 0 := by
  have := needP_two hp hp
  rw [if_pos rfl, Nat.max_self] at this
  rw [← this]
  exact needP_congr fun i _ => by unfold twoP; rw [Bool.or_self]
/-- The files of FileRow. -/
def fr1 (p : Nat) : AF := (newF 1).wr (480 * p) [97]
def fr2 (p q : Nat) : AF := (fr1 p).wr (480 * q + 7) [98]
def fr3 (p q : Nat) : AF := (fr2 p q).cut (480 * max p q)
theorem fr1_pr (p i : Nat) : (fr1 p).pr i = decide (i = p) := by
  show (false || touched (480 * p) 1 i) = _
  rw [Bool.false_or]
  unfold touched
  by_cases h : i = p
  · subst h; simp
  · rw [decide_eq_false h]
    simp only [Bool.and_eq_false_iff, decide_eq_false_iff_not]
    omega
theorem fr2_pr (p q i : Nat) : (fr2 p q).pr i = twoP p q i := by
  show ((fr1 p).pr i || touched (480 * q + 7) 1 i) = _
  rw [fr1_pr]
  unfold twoP
  congr 1
  unfold touched
  by_cases h : i = q
  · subst h; simp; omega
  · rw [decide_eq_false h]
    simp only [Bool.and_eq_false_iff, decide_eq_false_iff_not]
    omega
theorem fr3_need {p q : Nat} (hp : p < 256) (hq : q < 256) : needP (fr3 p q).pr = if p = q then 1 else 2 + if 16 ≤ min p q then 1 else 0 := by
  have e : ∀ i, (fr3 p q).pr i = (twoP p q i && decide (480 * i < 480 * max p q)) := fun i => by
    show ((fr2 p q).pr i && decide (480 * i < 480 * max p q)) = _; rw [fr2_pr]
  by_cases h : p = q
  · subst h
    rw [if_pos rfl, ← needP_none]
    refine needP_congr fun i _ => ?_
    rw [e]
    unfold twoP
    by_cases hi : i = p
    · subst hi; simp
    · simp [hi]
  · rw [if_neg h, ← needP_one (show min p q < 256 by omega)]
    refine needP_congr fun i _ => ?_
    rw [e]
    unfold twoP
    by_cases h1 : i = min p q
    · rw [decide_eq_true h1, decide_eq_true (by omega : 480 * i < 480 * max p q), Bool.and_true]
      simp only [Bool.or_eq_true, decide_eq_true_eq]; omega
    · rw [decide_eq_false h1]
      simp only [Bool.and_eq_false_iff, Bool.or_eq_false_iff, decide_eq_false_iff_not]
      omega
end Go.SL
namespace Go.Proofs.Ytaoohjeaaccnfaa.Fs
set_option linter.unusedVariables false
set_option linter.unusedSimpArgs false
open Go.RowKit Go.SL Go.Proofs.Ytaoohjeaaccnfaa.Ba
set_option maxRecDepth 100000 in
set_option maxHeartbeats 8000000 in
theorem row_any (a0 b0 : Int) (w : World) : Calls Try.prog 6 #[.int .i64 a0, .int .i64 b0] w (LawQ w) := by
  refine callsQ fun Q HQ => ?_
  have ha := and16 a0
  have hb := and16 b0
  obtain ⟨p, hp⟩ : ∃ p : Nat, (a0 % 65536).tmod 201 = (p : Int) := ⟨((a0 % 65536).tmod 201).toNat, by rw [Int.tmod_eq_emod_of_nonneg (by omega)]; omega⟩
  obtain ⟨q, hq⟩ : ∃ p : Nat, (b0 % 65536).tmod 201 = (p : Int) := ⟨((b0 % 65536).tmod 201).toNat, by rw [Int.tmod_eq_emod_of_nonneg (by omega)]; omega⟩
  have hp200 : p ≤ 200 := by have h := hp; rw [Int.tmod_eq_emod_of_nonneg (by omega)] at h; omega
  have hq200 : q ≤ 200 := by have h := hq; rw [Int.tmod_eq_emod_of_nonneg (by omega)] at h; omega
  have hpi : (p : Int) ≤ 200 := by omega
  have hqi : (q : Int) ≤ 200 := by omega
  obtain ⟨mx, hmx⟩ : ∃ m, max p q = m := ⟨_, rfl⟩
  obtain ⟨mn, hmn⟩ : ∃ m, min p q = m := ⟨_, rfl⟩
  have n2 := needP_two (p := p) (q := q) (by omega) (by omega)
  have n3 := fr3_need (p := p) (q := q) (by omega) (by omega)
  rw [hmx] at n2
  rw [hmn] at n3
  have n2' : needP (fr2 p q).pr = needP (twoP p q) := needP_congr fun i _ => fr2_pr p q i
  have n1' : needP (fr1 p).pr = 2 + if 16 ≤ p then 1 else 0 := by rw [← needP_one (by omega)]; exact needP_congr fun i _ => fr1_pr p i
  have n0 : needP (newF 1).pr = 1 := needP_none
  obtain ⟨N4, hN4⟩ : ∃ N, 1 + (if p = q then 1 else 2) + (if 16 ≤ mx then 1 else 0) = N := ⟨_, rfl⟩
  obtain ⟨N6, hN6⟩ : ∃ N, (if p = q then 1 else 2 + if 16 ≤ mn then 1 else 0) = N := ⟨_, rfl⟩
  rw [hN4] at n2
  rw [hN6] at n3
  have hcases : (p = q ∧ mx = p ∧ p < 16 ∧ N4 = 2 ∧ N6 = 1) ∨ (p = q ∧ mx = p ∧ 16 ≤ p ∧ N4 = 3 ∧ N6 = 1) ∨
      (p < q ∧ mx = q ∧ q < 16 ∧ p < 16 ∧ N4 = 3 ∧ N6 = 2) ∨ (p < q ∧ mx = q ∧ 16 ≤ q ∧ p < 16 ∧ N4 = 4 ∧ N6 = 2) ∨ (p < q ∧ mx = q ∧ 16 ≤ q ∧ 16 ≤ p ∧ N4 = 4 ∧ N6 = 3) ∨
      (q < p ∧ mx = p ∧ p < 16 ∧ q < 16 ∧ N4 = 3 ∧ N6 = 2) ∨ (q < p ∧ mx = p ∧ 16 ≤ p ∧ q < 16 ∧ N4 = 4 ∧ N6 = 2) ∨ (q < p ∧ mx = p ∧ 16 ≤ p ∧ 16 ≤ q ∧ N4 = 4 ∧ N6 = 3) := by
    rw [← hN4, ← hN6]
    rcases Nat.lt_trichotomy p q with h | h | h
    · have e1 : mx = q := by omega
      have e2 : mn = p := by omega
      have e3 : ¬ p = q := by omega
      rw [if_neg e3, if_neg e3, e1, e2]
      by_cases h2 : 16 ≤ q
      · by_cases h3 : 16 ≤ p
        · exact .inr (.inr (.inr (.inr (.inl ⟨h, rfl, h2, h3, by rw [if_pos h2], by rw [if_pos h3]⟩))))
        · exact .inr (.inr (.inr (.inl ⟨h, rfl, h2, by omega, by rw [if_pos h2], by rw [if_neg h3]⟩)))
      · exact .inr (.inr (.inl ⟨h, rfl, by omega, by omega, by rw [if_neg h2], by rw [if_neg (by omega)]⟩))
    · have e1 : mx = p := by omega
      rw [if_pos h, if_pos h, e1]
      by_cases h2 : 16 ≤ p
      · exact .inr (.inl ⟨h, rfl, h2, by rw [if_pos h2], rfl⟩)
      · exact .inl ⟨h, rfl, by omega, by rw [if_neg h2], rfl⟩
    · have e1 : mx = p := by omega
      have e2 : mn = q := by omega
      have e3 : ¬ p = q := by omega
      rw [if_neg e3, if_neg e3, e1, e2]
      by_cases h2 : 16 ≤ p
      · by_cases h3 : 16 ≤ q
        · exact .inr (.inr (.inr (.inr (.inr (.inr (.inr ⟨h, rfl, h2, h3, by rw [if_pos h2], by rw [if_pos h3]⟩))))))
        · exact .inr (.inr (.inr (.inr (.inr (.inr (.inl ⟨h, rfl, h2, by omega, by rw [if_pos h2], by rw [if_neg h3]⟩))))))
      · exact .inr (.inr (.inr (.inr (.inr (.inl ⟨h, rfl, by omega, by omega, by rw [if_neg h2], by rw [if_neg (by omega)]⟩)))))
  have hn1 : needP (fr1 p).pr ≤ 3 := by rw [n1']; split <;> omega
  have hn2 : needP (fr2 p q).pr = N4 := by rw [n2', n2]
  have hN4' : N4 ≤ 4 := by rw [← hN4]; split <;> split <;> omega
  have HC := SL.hid hcases; have N0 := SL.hid n0; have HN1 := SL.hid hn1; have HN2 := SL.hid hn2; have HN3 := SL.hid n3; have HN4 := SL.hid hN4'
  have HMX := SL.hid hmx
  clear n2 n3 n2' n1' n0 hN4 hN6 hcases hn1 hn2 hN4' hmn mn hmx
  have kc := fun (w : World) (C : Array Value) (n c : Nat) => Lib.run_convert_bytes_const (P := Try.prog) w 22 5 C n c Try.underlying22 Try.underlying5
  go_enter Try.func6, Try.ntmps6
  go_wp2_with fail
  refine (shown_any w).mono ?_
  rintro e w1 ⟨rfl, h1, d1'⟩
  have hm := made_x 12 (by decide) (by decide) _ w1 h1
  go_wp2_with fail
  refine hm.mono ?_
  rintro e w2 ⟨x, b, rfl, d2, h2⟩
  have hA := h2.alloc (.cells #[.pointer (some ⟨b, 0, none⟩), .int .i64 12] 26 (0, 0))
  have D := SL.hid ((d1'.trans d2).alloc (.cells #[.pointer (some ⟨b, 0, none⟩), .int .i64 12] 26 (0, 0)))
  have H : Hid (Sat (w2.alloc (.cells #[.pointer (some ⟨b, 0, none⟩), .int .i64 12] 26 (0, 0))) (fsA x b rootA 10 * (pt w2.heap.size (spO b 12) * whole w))) := hA.to (by ac_rfl)
  clear h1 h2 hA d1' d2 hm
  unfold spV
  go_wp2_with fail
  generalize w2.alloc (.cells #[.pointer (some ⟨b, 0, none⟩), .int .i64 12] 26 (0, 0)) = w3 at *
  generalize w2.heap.size = sc at *
  have hc := y_new H.out (.inl rfl : (1 : Int) = 1 ∨ (1 : Int) = 2) (by decide)
  refine hc.mono ?_
  rintro e w4 ⟨id, rfl, -, -, -, d, h⟩
  replace D := SL.hid (D.out.trans d)
  replace H : Hid (Sat w4 (fsA x b (upO rootA id (some (newF 1))) 9 * (pt sc (spO b 12) * whole w))) := h
  clear hc h d
  have cA : w4.cell? ⟨sc, 0, none⟩ = some (.pointer (some ⟨b, 0, none⟩)) := H.out.front2.cell 0
  have cB : w4.cell? ⟨sc, 1, none⟩ = some (.int .i64 12) := H.out.front2.cell 1
  have hxy : Sat (w4.alloc (.cells #[.int .u8 97] 5 (1, 2))) (fsA x b (upO rootA id (some (newF 1))) 9 * (litA w4.heap.size [97] 1 * (pt sc (spO b 12) * (whole w)))) := (H.out.alloc (.cells #[.int .u8 97] 5 (1, 2))).front2
  have hwa := y_write (f := newF 1) (id := id) (l := [97]) (va := some ⟨w4.heap.size, 0, none⟩) (cap := 1) (upO_same _ _ _) (480 * p) (hD_lit _ _ _) (by decide) (by decide) (by show 480 * p + 1 ≤ 122880; omega) (by have h1 := HN1.out; have h0 := N0.out; show needP (fr1 p).pr ≤ 9 + needP (newF 1).pr; omega) hxy
  rw [upO_up] at hwa
  obtain ⟨k1, hk1⟩ : ∃ k, 9 + needP (newF 1).pr - needP ((newF 1).wr (480 * p) [97]).pr = k := ⟨_, rfl⟩
  have HK1 : Hid (k1 + needP (fr1 p).pr = 10) := by have h1 := HN1.out; have h0 := N0.out; have h2 : 9 + needP (newF 1).pr - needP (fr1 p).pr = k1 := hk1; show _ = _; omega
  rw [hk1] at hwa
  have Hwa : Hid (Calls Try.prog 11 #[spV b 12, .int .i64 (id : Int), .int .i64 (480 * (p : Int)), .slice (some ⟨w4.heap.size, 0, none⟩) 1 1] (w4.alloc (.cells #[.int .u8 97] 5 (1, 2))) (YE x b (upO rootA id (some (fr1 p))) k1 0 (litA w4.heap.size [97] 1 * (pt sc (spO b 12) * (whole w))) (w4.alloc (.cells #[.int .u8 97] 5 (1, 2))))) := by
    have e : ((480 * p : Nat) : Int) = 480 * (p : Int) := by omega
    rw [e] at hwa; exact hwa
  replace D := SL.hid (D.out.alloc (.cells #[.int .u8 97] 5 (1, 2)))
  clear hxy hwa H hk1
  unfold spV at Hwa
  go_wp2_with fail
  clear cA cB
  generalize w4.alloc (.cells #[.int .u8 97] 5 (1, 2)) = w5 at *
  refine Hwa.out.mono ?_
  generalize w4.heap.size = xy at *
  rintro e w6 ⟨rfl, d, h⟩
  have H := SL.hid h.drop2
  replace D := SL.hid (D.out.trans d)
  clear Hwa h d
  have cA : w6.cell? ⟨sc, 0, none⟩ = some (.pointer (some ⟨b, 0, none⟩)) := H.out.front2.cell 0
  have cB : w6.cell? ⟨sc, 1, none⟩ = some (.int .i64 12) := H.out.front2.cell 1
  have hxy : Sat (w6.alloc (.cells #[.int .u8 98] 5 (1, 2))) (fsA x b (upO rootA id (some (fr1 p))) k1 * (litA w6.heap.size [98] 1 * (pt sc (spO b 12) * (whole w)))) := (H.out.alloc (.cells #[.int .u8 98] 5 (1, 2))).front2
  have hwa := y_write (f := fr1 p) (id := id) (l := [98]) (va := some ⟨w6.heap.size, 0, none⟩) (cap := 1) (upO_same _ _ _) (480 * q + 7) (hD_lit _ _ _) (by decide) (by decide) (by show 480 * q + 7 + 1 ≤ 122880; omega) (by have h1 := HK1.out; have h0 := HN2.out; have := HN4.out; show needP (fr2 p q).pr ≤ k1 + needP (fr1 p).pr; omega) hxy
  rw [upO_up] at hwa
  obtain ⟨k2, hk2⟩ : ∃ k, k1 + needP (fr1 p).pr - needP ((fr1 p).wr (480 * q + 7) [98]).pr = k := ⟨_, rfl⟩
  rw [hk2] at hwa
  have Hwa : Hid (Calls Try.prog 11 #[spV b 12, .int .i64 (id : Int), .int .i64 (480 * (q : Int) + 7), .slice (some ⟨w6.heap.size, 0, none⟩) 1 1] (w6.alloc (.cells #[.int .u8 98] 5 (1, 2))) (YE x b (upO rootA id (some (fr2 p q))) k2 0 (litA w6.heap.size [98] 1 * (pt sc (spO b 12) * (whole w))) (w6.alloc (.cells #[.int .u8 98] 5 (1, 2))))) := by
    have e : ((480 * q + 7 : Nat) : Int) = 480 * (q : Int) + 7 := by omega
    rw [e] at hwa; exact hwa
  replace D := SL.hid (D.out.alloc (.cells #[.int .u8 98] 5 (1, 2)))
  clear hxy hwa H hk2
  unfold spV at Hwa
  go_wp2_with fail
  clear cA cB kc
  generalize w6.alloc (.cells #[.int .u8 98] 5 (1, 2)) = w7 at *
  refine Hwa.out.mono ?_
  generalize w6.heap.size = xz at *
  rintro e w8 ⟨rfl, d, h⟩
  have H := SL.hid h.drop2
  replace D := SL.hid (D.out.trans d)
  clear Hwa h d
  have cA : w8.cell? ⟨sc, 0, none⟩ = some (.pointer (some ⟨b, 0, none⟩)) := H.out.front2.cell 0
  have cB : w8.cell? ⟨sc, 1, none⟩ = some (.int .i64 12) := H.out.front2.cell 1
  have hc := y_need H.out (f := fr2 p q) (upO_same _ _ _)
  rw [HN2.out] at hc
  unfold spV at hc
  go_wp2_with fail
  refine hc.mono ?_
  rintro e w9 ⟨he, d, h⟩
  replace D := SL.hid (D.out.trans d)
  replace H := SL.hid h
  have cA : w9.cell? ⟨sc, 0, none⟩ = some (.pointer (some ⟨b, 0, none⟩)) := H.out.front2.cell 0
  have cB : w9.cell? ⟨sc, 1, none⟩ = some (.int .i64 12) := H.out.front2.cell 1
  have hmul : ((480 * mx : Nat) : Int) = 480 * (mx : Int) := by omega
  have ht := y_trunc H.out (f := fr2 p q) (upO_same _ _ _) (480 * mx) (by have := HMX.out; omega)
  rw [upO_up, hmul] at ht
  obtain ⟨k3, hk3⟩ : ∃ k, k2 + needP (fr2 p q).pr - needP ((fr2 p q).cut (480 * mx)).pr = k := ⟨_, rfl⟩
  rw [hk3] at ht
  have ht2 : Calls Try.prog 13 #[spV b 12, .int .i64 (id : Int), .int .i64 (480 * (mx : Int))] w9 (YE x b (upO rootA id (some (fr3 p q))) k3 0 (pt sc (spO b 12) * whole w) w9) := by
    unfold fr3; rw [HMX.out]; exact ht
  have HT := SL.hid ht2
  clear hc h d ht ht2 hk3 hmul H hp200 hq200 HMX HK1 HN1 HN2 HN4 N0
  rcases HC.out with ⟨h1, h2, c1, rfl, rfl⟩ | ⟨h1, h2, c1, rfl, rfl⟩ | ⟨h1, h2, c1, c2, rfl, rfl⟩ | ⟨h1, h2, c1, c2, rfl, rfl⟩ | ⟨h1, h2, c1, c2, rfl, rfl⟩ | ⟨h1, h2, c1, c2, rfl, rfl⟩ | ⟨h1, h2, c1, c2, rfl, rfl⟩ | ⟨h1, h2, c1, c2, rfl, rfl⟩
  · subst h1
    subst h2
    have d1 : ¬ (16 : Int) ≤ (mx : Int) := by omega
    obtain rfl : e = .returned (.tuple #[.int .i64 2, .int .i64 0]) := he
    clear HC
    unfold spV at HT
    go_wp2_with fail
    refine HT.out.mono ?_
    rintro e w10 ⟨rfl, d, h⟩
    replace D := SL.hid (D.out.trans d)
    have H := SL.hid h
    clear h d cA cB HT
    have cA : w10.cell? ⟨sc, 0, none⟩ = some (.pointer (some ⟨b, 0, none⟩)) := H.out.front2.cell 0
    have cB : w10.cell? ⟨sc, 1, none⟩ = some (.int .i64 12) := H.out.front2.cell 1
    have hc := y_need H.out (f := fr3 _ _) (upO_same _ _ _)
    rw [HN3.out] at hc
    unfold spV at hc
    go_wp2_with fail
    refine hc.mono ?_
    rintro e w11 ⟨he, d, h⟩
    obtain rfl : e = .returned (.tuple #[.int .i64 1, .int .i64 0]) := he
    replace D := SL.hid (D.out.trans d)
    have H := SL.hid h
    clear hc h d cA cB
    go_wp2_with fail
    exact HQ.out _ _ ⟨rfl, H.out.right.right, D.out⟩
  · subst h1
    subst h2
    have d1 :  (16 : Int) ≤ (mx : Int) := by omega
    obtain rfl : e = .returned (.tuple #[.int .i64 3, .int .i64 0]) := he
    clear HC
    unfold spV at HT
    go_wp2_with fail
    refine HT.out.mono ?_
    rintro e w10 ⟨rfl, d, h⟩
    replace D := SL.hid (D.out.trans d)
    have H := SL.hid h
    clear h d cA cB HT
    have cA : w10.cell? ⟨sc, 0, none⟩ = some (.pointer (some ⟨b, 0, none⟩)) := H.out.front2.cell 0
    have cB : w10.cell? ⟨sc, 1, none⟩ = some (.int .i64 12) := H.out.front2.cell 1
    have hc := y_need H.out (f := fr3 _ _) (upO_same _ _ _)
    rw [HN3.out] at hc
    unfold spV at hc
    go_wp2_with fail
    refine hc.mono ?_
    rintro e w11 ⟨he, d, h⟩
    obtain rfl : e = .returned (.tuple #[.int .i64 1, .int .i64 0]) := he
    replace D := SL.hid (D.out.trans d)
    have H := SL.hid h
    clear hc h d cA cB
    go_wp2_with fail
    exact HQ.out _ _ ⟨rfl, H.out.right.right, D.out⟩
  · subst h2
    have d0 : (p : Int) < (mx : Int) := by omega
    have d00 : ¬ (mx : Int) < (p : Int) := by omega
    have dne : ((p : Int) != (mx : Int)) = true := by rw [bne_iff_ne]; omega
    have dn1 : ¬ (p : Int) = (mx : Int) := by omega
    have d1 : ¬ (16 : Int) ≤ (mx : Int) := by omega
    have d2 : ¬ (16 : Int) ≤ (p : Int) := by omega
    obtain rfl : e = .returned (.tuple #[.int .i64 3, .int .i64 0]) := he
    clear HC
    unfold spV at HT
    go_wp2_with fail
    refine HT.out.mono ?_
    rintro e w10 ⟨rfl, d, h⟩
    replace D := SL.hid (D.out.trans d)
    have H := SL.hid h
    clear h d cA cB HT
    have cA : w10.cell? ⟨sc, 0, none⟩ = some (.pointer (some ⟨b, 0, none⟩)) := H.out.front2.cell 0
    have cB : w10.cell? ⟨sc, 1, none⟩ = some (.int .i64 12) := H.out.front2.cell 1
    have hc := y_need H.out (f := fr3 _ _) (upO_same _ _ _)
    rw [HN3.out] at hc
    unfold spV at hc
    go_wp2_with fail
    refine hc.mono ?_
    rintro e w11 ⟨he, d, h⟩
    obtain rfl : e = .returned (.tuple #[.int .i64 2, .int .i64 0]) := he
    replace D := SL.hid (D.out.trans d)
    have H := SL.hid h
    clear hc h d cA cB
    go_wp2_with fail
    exact HQ.out _ _ ⟨rfl, H.out.right.right, D.out⟩
  · subst h2
    have d0 : (p : Int) < (mx : Int) := by omega
    have d00 : ¬ (mx : Int) < (p : Int) := by omega
    have dne : ((p : Int) != (mx : Int)) = true := by rw [bne_iff_ne]; omega
    have dn1 : ¬ (p : Int) = (mx : Int) := by omega
    have d1 :  (16 : Int) ≤ (mx : Int) := by omega
    have d2 : ¬ (16 : Int) ≤ (p : Int) := by omega
    obtain rfl : e = .returned (.tuple #[.int .i64 4, .int .i64 0]) := he
    clear HC
    unfold spV at HT
    go_wp2_with fail
    refine HT.out.mono ?_
    rintro e w10 ⟨rfl, d, h⟩
    replace D := SL.hid (D.out.trans d)
    have H := SL.hid h
    clear h d cA cB HT
    have cA : w10.cell? ⟨sc, 0, none⟩ = some (.pointer (some ⟨b, 0, none⟩)) := H.out.front2.cell 0
    have cB : w10.cell? ⟨sc, 1, none⟩ = some (.int .i64 12) := H.out.front2.cell 1
    have hc := y_need H.out (f := fr3 _ _) (upO_same _ _ _)
    rw [HN3.out] at hc
    unfold spV at hc
    go_wp2_with fail
    refine hc.mono ?_
    rintro e w11 ⟨he, d, h⟩
    obtain rfl : e = .returned (.tuple #[.int .i64 2, .int .i64 0]) := he
    replace D := SL.hid (D.out.trans d)
    have H := SL.hid h
    clear hc h d cA cB
    go_wp2_with fail
    exact HQ.out _ _ ⟨rfl, H.out.right.right, D.out⟩
  · subst h2
    have d0 : (p : Int) < (mx : Int) := by omega
    have d00 : ¬ (mx : Int) < (p : Int) := by omega
    have dne : ((p : Int) != (mx : Int)) = true := by rw [bne_iff_ne]; omega
    have dn1 : ¬ (p : Int) = (mx : Int) := by omega
    have d1 :  (16 : Int) ≤ (mx : Int) := by omega
    have d2 :  (16 : Int) ≤ (p : Int) := by omega
    obtain rfl : e = .returned (.tuple #[.int .i64 4, .int .i64 0]) := he
    clear HC
    unfold spV at HT
    go_wp2_with fail
    refine HT.out.mono ?_
    rintro e w10 ⟨rfl, d, h⟩
    replace D := SL.hid (D.out.trans d)
    have H := SL.hid h
    clear h d cA cB HT
    have cA : w10.cell? ⟨sc, 0, none⟩ = some (.pointer (some ⟨b, 0, none⟩)) := H.out.front2.cell 0
    have cB : w10.cell? ⟨sc, 1, none⟩ = some (.int .i64 12) := H.out.front2.cell 1
    have hc := y_need H.out (f := fr3 _ _) (upO_same _ _ _)
    rw [HN3.out] at hc
    unfold spV at hc
    go_wp2_with fail
    refine hc.mono ?_
    rintro e w11 ⟨he, d, h⟩
    obtain rfl : e = .returned (.tuple #[.int .i64 3, .int .i64 0]) := he
    replace D := SL.hid (D.out.trans d)
    have H := SL.hid h
    clear hc h d cA cB
    go_wp2_with fail
    exact HQ.out _ _ ⟨rfl, H.out.right.right, D.out⟩
  · subst h2
    have d0 : (q : Int) < (mx : Int) := by omega
    have d00 : ¬ (mx : Int) < (q : Int) := by omega
    have dne : ((mx : Int) != (q : Int)) = true := by rw [bne_iff_ne]; omega
    have dn1 : ¬ (mx : Int) = (q : Int) := by omega
    have d1 : ¬ (16 : Int) ≤ (mx : Int) := by omega
    have d2 : ¬ (16 : Int) ≤ (q : Int) := by omega
    obtain rfl : e = .returned (.tuple #[.int .i64 3, .int .i64 0]) := he
    clear HC
    unfold spV at HT
    go_wp2_with fail
    refine HT.out.mono ?_
    rintro e w10 ⟨rfl, d, h⟩
    replace D := SL.hid (D.out.trans d)
    have H := SL.hid h
    clear h d cA cB HT
    have cA : w10.cell? ⟨sc, 0, none⟩ = some (.pointer (some ⟨b, 0, none⟩)) := H.out.front2.cell 0
    have cB : w10.cell? ⟨sc, 1, none⟩ = some (.int .i64 12) := H.out.front2.cell 1
    have hc := y_need H.out (f := fr3 _ _) (upO_same _ _ _)
    rw [HN3.out] at hc
    unfold spV at hc
    go_wp2_with fail
    refine hc.mono ?_
    rintro e w11 ⟨he, d, h⟩
    obtain rfl : e = .returned (.tuple #[.int .i64 2, .int .i64 0]) := he
    replace D := SL.hid (D.out.trans d)
    have H := SL.hid h
    clear hc h d cA cB
    go_wp2_with fail
    exact HQ.out _ _ ⟨rfl, H.out.right.right, D.out⟩
  · subst h2
    have d0 : (q : Int) < (mx : Int) := by omega
    have d00 : ¬ (mx : Int) < (q : Int) := by omega
    have dne : ((mx : Int) != (q : Int)) = true := by rw [bne_iff_ne]; omega
    have dn1 : ¬ (mx : Int) = (q : Int) := by omega
    have d1 :  (16 : Int) ≤ (mx : Int) := by omega
    have d2 : ¬ (16 : Int) ≤ (q : Int) := by omega
    obtain rfl : e = .returned (.tuple #[.int .i64 4, .int .i64 0]) := he
    clear HC
    unfold spV at HT
    go_wp2_with fail
    refine HT.out.mono ?_
    rintro e w10 ⟨rfl, d, h⟩
    replace D := SL.hid (D.out.trans d)
    have H := SL.hid h
    clear h d cA cB HT
    have cA : w10.cell? ⟨sc, 0, none⟩ = some (.pointer (some ⟨b, 0, none⟩)) := H.out.front2.cell 0
    have cB : w10.cell? ⟨sc, 1, none⟩ = some (.int .i64 12) := H.out.front2.cell 1
    have hc := y_need H.out (f := fr3 _ _) (upO_same _ _ _)
    rw [HN3.out] at hc
    unfold spV at hc
    go_wp2_with fail
    refine hc.mono ?_
    rintro e w11 ⟨he, d, h⟩
    obtain rfl : e = .returned (.tuple #[.int .i64 2, .int .i64 0]) := he
    replace D := SL.hid (D.out.trans d)
    have H := SL.hid h
    clear hc h d cA cB
    go_wp2_with fail
    exact HQ.out _ _ ⟨rfl, H.out.right.right, D.out⟩
  · subst h2
    have d0 : (q : Int) < (mx : Int) := by omega
    have d00 : ¬ (mx : Int) < (q : Int) := by omega
    have dne : ((mx : Int) != (q : Int)) = true := by rw [bne_iff_ne]; omega
    have dn1 : ¬ (mx : Int) = (q : Int) := by omega
    have d1 :  (16 : Int) ≤ (mx : Int) := by omega
    have d2 :  (16 : Int) ≤ (q : Int) := by omega
    obtain rfl : e = .returned (.tuple #[.int .i64 4, .int .i64 0]) := he
    clear HC
    unfold spV at HT
    go_wp2_with fail
    refine HT.out.mono ?_
    rintro e w10 ⟨rfl, d, h⟩
    replace D := SL.hid (D.out.trans d)
    have H := SL.hid h
    clear h d cA cB HT
    have cA : w10.cell? ⟨sc, 0, none⟩ = some (.pointer (some ⟨b, 0, none⟩)) := H.out.front2.cell 0
    have cB : w10.cell? ⟨sc, 1, none⟩ = some (.int .i64 12) := H.out.front2.cell 1
    have hc := y_need H.out (f := fr3 _ _) (upO_same _ _ _)
    rw [HN3.out] at hc
    unfold spV at hc
    go_wp2_with fail
    refine hc.mono ?_
    rintro e w11 ⟨he, d, h⟩
    obtain rfl : e = .returned (.tuple #[.int .i64 3, .int .i64 0]) := he
    replace D := SL.hid (D.out.trans d)
    have H := SL.hid h
    clear hc h d cA cB
    go_wp2_with fail
    exact HQ.out _ _ ⟨rfl, H.out.right.right, D.out⟩
end Go.Proofs.Ytaoohjeaaccnfaa.Fs

/- replay's laws: Down. -/
import Derived.Test.YtlfooilcngjeiaaQk
namespace Go.Proofs.Ytlfooilcngjeiaa
set_option linter.unusedVariables false
set_option linter.unusedSimpArgs false
open Go.RowKit Go.SL
theorem read_downD {D : Dev} (h : D.down = true) {a : Int} (ha : D.has a) : D.read a = ((2, []), D) := by
  have hs : D.strike = D := by unfold Dev.strike; rw [h]; simp
  have hb : D.begins = 2 := by unfold Dev.begins; rw [hs, h]; simp
  have hg : D.begun = D := by unfold Dev.begun; rw [hs, h]; simp
  unfold Dev.read
  rw [if_pos ha, if_neg (by rw [hb]; decide), hg]
theorem scanR_down {D : Dev} (h : D.down = true) {P B : Nat} (hP0 : 1 ≤ P) (hP : P + 1 ≤ D.sec.length) (hB0 : 1 ≤ B) (hB : B ≤ 3840) : scanR D P B = ((2 : Int), none, D) := by
  have h1 : scanN (B : Int) D 1 = ((2 : Int), [], D) := by
    rw [scanN_succ, scanN_zero]
    unfold scanS
    rw [if_pos rfl]
    have hr : D.read ((0 : Nat) + 1 : Int) = ((2, []), D) := read_downD h (by unfold Dev.has; omega)
    simp only [hr]
    rfl
  have hn : scanN (B : Int) D P = ((2 : Int), [], D) := by rw [scanN_stay (k := 1) (by rw [h1]; show (2 : Int) ≠ 0; decide) hP0]; exact h1
  unfold scanR
  rw [if_pos (by omega), Int.toNat_natCast, hn, if_neg (by show ¬ (2 : Int) = 0; decide)]
theorem keepR_nil (x : Dx) (S : Hp) (d : Nat) (D : Dev) (F : Assn) : KeepR x S d D F (.slice none 0 0) [] := ⟨none, 0, rfl, by decide, fun i hi => by simp at hi⟩
theorem crash_ok {D : Dev} (h : D.Ok) (keep : List Int) : (D.crash keep).Ok ∧ (D.crash keep).sec.length = D.sec.length := by
  have hk := (fates_keep D keep D.wait.length).2.2
  exact ⟨⟨by show (D.fates keep D.wait.length).sec.length ≤ 20000; rw [hk]; exact h.n, by simp [Dev.crash], by simp [Dev.crash], by simp [Dev.crash]⟩, hk⟩
theorem crash_nil (w : World) (S : Hp) (d : Nat) (D : Dev) (F : Assn) (h : Sat w (devA S d D * F)) (hD : D.Ok) :
    Calls Try.prog 28 #[ptV d, .slice none 0 0] w (DevQ S d (D.crash []) (.tuple #[]) F w) := by
  obtain ⟨x, hx⟩ := h.devEx
  exact crash_any w S d D x [] (.slice none 0 0) F hx hD (keepR_nil x S d D F)
set_option maxRecDepth 100000 in
set_option maxHeartbeats 4000000 in
theorem down_any (w : World) (s p b : Int) : Calls Try.prog 8 #[.int .i64 s, .int .i64 p, .int .i64 b] w (ShownQ w) := by
  have ha := and16 s
  obtain ⟨m, hm, hm1, hm2⟩ : ∃ m : Nat, (m : Int) = 1 + s % 65536 % 100 ∧ 1 ≤ m ∧ m ≤ 100 := ⟨(1 + s % 65536 % 100).toNat, by omega, by omega, by omega⟩
  have hs0 : 0 ≤ s % 65536 := by omega
  have hs1 : s % 65536 ≤ 65535 := by omega
  have Hm := SL.hid hm
  have hmm : (m : Int) ≤ 100 := by omega
  have hm0 : (1 : Int) ≤ (m : Int) := by omega
  generalize s % 65536 = t at *
  clear hm
  go_enter Try.func8, Try.ntmps8
  go_wp2_with fail
  refine (shown9_any w).mono ?_
  rintro e w1 ⟨rfl, h1, d1⟩
  go_wp2_with fail
  rw [← Hm.out]
  refine (new_any m hm1 (by omega) w1).mono ?_
  rintro e w2 ⟨d, rfl, h2, d2⟩
  have H2 : Sat w2 (devA NoB d (Dev.fresh m) * (pool NoB * whole w)) := ((h2 NoB).right.keepW h1 |> fun h => (h2 NoB).under h1).poolEmp.front2
  have D2 := d1.trans d2
  have hsc := scan_any w2 NoB d (Dev.fresh m) p b _ H2 (fresh_ok m (by omega))
  have hln : ((Dev.fresh m).sec.length : Int) = (m : Int) := by rw [devLen]
  have Hln := SL.hid hln
  clear h1 h2 d1 d2 H2 hln
  by_cases hg : 1 ≤ p ∧ p ≤ (m : Int) - 1 ∧ 1 ≤ b ∧ b ≤ 3840
  · obtain ⟨g1, g2, g3, g4⟩ := hg
    obtain ⟨P, rfl⟩ := Int.eq_ofNat_of_zero_le (by omega : 0 ≤ p)
    obtain ⟨B, rfl⟩ := Int.eq_ofNat_of_zero_le (by omega : 0 ≤ b)
    rw [scanR_calm (fresh_calm m) (by omega) (by rw [devLen]; omega) (by omega) (by omega) (some (emptyJs B)) (by rw [fndsN_fresh]; exact scanSt_nil P B)] at hsc
    go_wp2_with fail
    (with_reducible refine hsc.mono ?_)
    obtain ⟨D1, hD1⟩ : ∃ D1, D1 = ({ Dev.fresh m with cr := addN (Dev.fresh m).cr P } : Dev) := ⟨_, rfl⟩
    have hD1c : D1.Ok := by rw [hD1]; exact cr_ok (fresh_ok m (by omega)) _
    have hD1l : D1.sec.length = m := by rw [hD1]; exact devLen m
    rw [← hD1]
    clear hD1
    rintro e w3 ⟨v, rfl, h3, d3⟩
    obtain ⟨g, hv, h3'⟩ := stSome h3
    have hlen : (emptyJs B).at_.length = B := List.length_replicate
    rw [hlen] at hv
    have hv2 : v = .agg #[.int .u32 1, .int .u64 1, .int .u64 0, .int .i64 0, .int .i64 0, .slice (some ⟨g, 0, none⟩) B B] := hv
    subst hv2
    have H4 := h3'.alloc (.cells #[.int .u32 1, .int .u64 1, .int .u64 0, .int .i64 0, .int .i64 0, .slice (some ⟨g, 0, none⟩) B B] 26 (0, 0))
    have D4 := (D2.trans d3).alloc (.cells #[.int .u32 1, .int .u64 1, .int .u64 0, .int .i64 0, .int .i64 0, .slice (some ⟨g, 0, none⟩) B B] 26 (0, 0))
    have hp0 : (1 : Int) ≤ (P : Int) := by omega
    have Hl1 := SL.hid hD1l; have Hok1 := SL.hid hD1c
    clear hsc h3 h3' d3 hv D2 hlen hD1l hD1c
    go_wp2_with fail
    generalize w3.alloc (.cells #[.int .u32 1, .int .u64 1, .int .u64 0, .int .i64 0, .int .i64 0, .slice (some ⟨g, 0, none⟩) B B] 26 (0, 0)) = w4 at *
    generalize w3.heap.size = t11 at *
    (with_reducible refine (crash_nil w4 NoB d D1 _ (H4.to (by ac_rfl : _ = devA NoB d D1 * (pt t11 (.cells #[.int .u32 1, .int .u64 1, .int .u64 0, .int .i64 0, .int .i64 0, .slice (some ⟨g, 0, none⟩) B B] 26 (0, 0)) * (pt g (.cells (ints (emptyJs B).at_) 3 (0, 0)) * (pool NoB * whole w))))) Hok1.out).mono ?_)
    rintro e w5 ⟨rfl, h5, d5⟩
    obtain ⟨hok2, hl2⟩ := crash_ok Hok1.out []
    have hsc := scan_any w5 NoB d (D1.crash []) (P : Int) (B : Int) _ (h5.to (by ac_rfl : _ = devA NoB d (D1.crash []) * (pool NoB * (pt t11 (.cells #[.int .u32 1, .int .u64 1, .int .u64 0, .int .i64 0, .int .i64 0, .slice (some ⟨g, 0, none⟩) B B] 26 (0, 0)) * (pt g (.cells (ints (emptyJs B).at_) 3 (0, 0)) * whole w))))) hok2
    rw [scanR_down (show (D1.crash []).down = true from rfl) (by omega) (by rw [hl2, Hl1.out]; omega) (by omega) (by omega)] at hsc
    have D5 := D4.trans d5
    clear H4 h5 d5 D4 hok2 hl2
    go_wp2_with fail
    (with_reducible refine hsc.mono ?_)
    rintro e w6 ⟨v, rfl, h6, d6⟩
    obtain ⟨rfl, h6'⟩ := stNone h6
    have H7 := h6'.alloc (.cells #[.int .u32 0, .int .u64 0, .int .u64 0, .int .i64 0, .int .i64 0, .slice none 0 0] 26 (0, 0))
    have D7 := (D5.trans d6).alloc (.cells #[.int .u32 0, .int .u64 0, .int .u64 0, .int .i64 0, .int .i64 0, .slice none 0 0] 26 (0, 0))
    have e0 : (w6.alloc (.cells #[.int .u32 0, .int .u64 0, .int .u64 0, .int .i64 0, .int .i64 0, .slice none 0 0] 26 (0, 0))).cell? ⟨t11, 0, none⟩ = some (.int .u32 1) := H7.front4.cell 0
    have e5 : (w6.alloc (.cells #[.int .u32 0, .int .u64 0, .int .u64 0, .int .i64 0, .int .i64 0, .slice none 0 0] 26 (0, 0))).cell? ⟨t11, 5, none⟩ = some (.slice (some ⟨g, 0, none⟩) B B) := H7.front4.cell 5
    have HW := SL.hid H7.right.right.right.right.right
    clear hsc h6 h6' d6 D5 H7
    unfold noSt
    go_wp2_with fail
    refine (lawEmpty_yes _).mono ?_
    rintro e w8 ⟨rfl, h8, d8⟩
    have HW8 := SL.hid (h8.keepW HW.out)
    have D8 := D7.trans d8
    clear h8 d8 HW D7
    go_wp2_with fail
    go_ret
    exact ⟨rfl, HW8.out, D8⟩
  · have e : scanR (Dev.fresh m) p b = ((1 : Int), none, Dev.fresh m) := by unfold scanR; rw [Hln.out, if_neg hg]
    rw [e] at hsc
    have Hg := SL.hid hg
    rcases (by omega : p < 1 ∨ (1 ≤ p ∧ (m : Int) - 1 < p) ∨ (1 ≤ p ∧ p ≤ (m : Int) - 1 ∧ b < 1) ∨ (1 ≤ p ∧ p ≤ (m : Int) - 1 ∧ 1 ≤ b ∧ 3840 < b)) with hq1 | ⟨hq1, hq2⟩ | ⟨hq1, hq2, hq3⟩ | ⟨hq1, hq2, hq3, hq4⟩
    all_goals
      clear hg
      first | (have hd4 : decide (b ≤ 3840) = false := decide_eq_false (by omega)) | skip
      go_wp2_with fail
      (with_reducible refine hsc.mono ?_)
      rintro e w3 ⟨v, rfl, h3, d3⟩
      obtain ⟨rfl, h3'⟩ := stNone h3
      have H4 := h3'.alloc (.cells #[.int .u32 0, .int .u64 0, .int .u64 0, .int .i64 0, .int .i64 0, .slice none 0 0] 26 (0, 0))
      have D4 := (D2.trans d3).alloc (.cells #[.int .u32 0, .int .u64 0, .int .u64 0, .int .i64 0, .int .i64 0, .slice none 0 0] 26 (0, 0))
      clear hsc h3 h3' d3 D2
      unfold noSt
      go_wp2_with fail
      generalize w3.alloc (.cells #[.int .u32 0, .int .u64 0, .int .u64 0, .int .i64 0, .int .i64 0, .slice none 0 0] 26 (0, 0)) = w4 at *
      generalize w3.heap.size = t11 at *
      (with_reducible refine (crash_nil w4 NoB d (Dev.fresh m) _ (H4.to (by ac_rfl : _ = devA NoB d (Dev.fresh m) * (pt t11 (.cells #[.int .u32 0, .int .u64 0, .int .u64 0, .int .i64 0, .int .i64 0, .slice none 0 0] 26 (0, 0)) * (pool NoB * whole w)))) (fresh_ok m (by omega))).mono ?_)
      rintro e w5 ⟨rfl, h5, d5⟩
      obtain ⟨hok2, hl2⟩ := crash_ok (fresh_ok m (by omega)) []
      have hsc := scan_any w5 NoB d ((Dev.fresh m).crash []) p b _ (h5.to (by ac_rfl : _ = devA NoB d ((Dev.fresh m).crash []) * (pool NoB * (pt t11 (.cells #[.int .u32 0, .int .u64 0, .int .u64 0, .int .i64 0, .int .i64 0, .slice none 0 0] 26 (0, 0)) * whole w)))) hok2
      have e : scanR ((Dev.fresh m).crash []) p b = ((1 : Int), none, (Dev.fresh m).crash []) := by unfold scanR; rw [hl2, Hln.out, if_neg Hg.out]
      rw [e] at hsc
      have D5 := D4.trans d5
      clear H4 h5 d5 D4 hok2 hl2 e
      go_wp2_with fail
      (with_reducible refine hsc.mono ?_)
      rintro e w6 ⟨v, rfl, h6, d6⟩
      obtain ⟨rfl, h6'⟩ := stNone h6
      have H7 := h6'.alloc (.cells #[.int .u32 0, .int .u64 0, .int .u64 0, .int .i64 0, .int .i64 0, .slice none 0 0] 26 (0, 0))
      have D7 := (D5.trans d6).alloc (.cells #[.int .u32 0, .int .u64 0, .int .u64 0, .int .i64 0, .int .i64 0, .slice none 0 0] 26 (0, 0))
      have f0 := H7.front4.cell 0; have f1 := H7.front4.cell 1; have f2 := H7.front4.cell 2; have f3 := H7.front4.cell 3; have f4 := H7.front4.cell 4; have f5 := H7.front4.cell 5
      simp only [List.getElem?_toArray, List.getElem?_cons_zero, List.getElem?_cons_succ] at f0 f1 f2 f3 f4 f5
      have HW := SL.hid H7.right.right.right.right
      have hlt := (H7.lt)
      have k0 := H7.cell 0; have k1 := H7.cell 1; have k2 := H7.cell 2; have k3 := H7.cell 3; have k4 := H7.cell 4; have k5 := H7.cell 5
      simp only [List.getElem?_toArray, List.getElem?_cons_zero, List.getElem?_cons_succ] at k0 k1 k2 k3 k4 k5
      have HK := SL.hid H7
      clear hsc h6 h6' d6 D5 H7
      unfold noSt
      go_wp2_with fail
      refine (lawEmpty_yes _).mono ?_
      rintro e w8 ⟨rfl, h8, d8⟩
      have HK8 := h8.keepW HK.out
      have D8 := D7.trans d8
      have k0 := HK8.cell 0; have k1 := HK8.cell 1; have k2 := HK8.cell 2; have k3 := HK8.cell 3; have k4 := HK8.cell 4; have k5 := HK8.cell 5
      simp only [List.getElem?_toArray, List.getElem?_cons_zero, List.getElem?_cons_succ] at k0 k1 k2 k3 k4 k5
      have HW8 := SL.hid HK8.right.right.right.right
      clear h8 d8 HW D7 HK HK8 f0 f1 f2 f3 f4 f5 hlt
      go_wp2_with fail
      refine (lawEmpty_yes _).mono ?_
      rintro e w9 ⟨rfl, h9, d9⟩
      have HW9 := SL.hid (h9.keepW HW8.out)
      have D9 := D8.trans d9
      clear h9 d9 HW8 D8
      go_wp2_with fail
      go_ret
      exact ⟨rfl, HW9.out, D9⟩
end Go.Proofs.Ytlfooilcngjeiaa

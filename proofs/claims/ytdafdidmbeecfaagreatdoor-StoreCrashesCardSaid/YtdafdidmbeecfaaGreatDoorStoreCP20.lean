/- Steps towards the statement StoreC. -/
import Derived.Test.YtdafdidmbeecfaaGreatDoorStoreCP19
import Derived.Test.YtdafdidmbeecfaaGreatDoorSh
import Derived.Sort.Walk7
section
namespace Go.Proofs.YtdafdidmbeecfaaGreatDoor
set_option linter.unusedVariables false
set_option linter.unusedSimpArgs false
open Go.RowKit Go.SL Go.Sort
def rgA (s X : Nat) : Assn := pt s (.cells #[.int .u64 (X : Int)] 220 (0, 0))
def NextQ (s X : Nat) (F : Assn) (w : World) (e : Ending) (w' : World) : Prop := e = .returned (.int .u64 (xorNextN X : Nat)) ∧ Sat w' (rgA s (xorNextN X) * F) ∧ Side w w'
set_option maxRecDepth 100000 in
set_option maxHeartbeats 4000000 in
theorem next_any (s X : Nat) (hX : X < 18446744073709551616) (w : World) (F : Assn) (h : Sat w (rgA s X * F)) :
  Calls Tryz.prog 155 #[.pointer (some ⟨s, 0, none⟩)] w (NextQ s X F w) := by
 obtain ⟨A, hA⟩ : ∃ A : Nat, A = X ^^^ (X * 8192 % 18446744073709551616) := ⟨_, rfl⟩
 obtain ⟨B, hB⟩ : ∃ B : Nat, B = A ^^^ (A / 128) := ⟨_, rfl⟩
 obtain ⟨C, hC⟩ : ∃ C : Nat, C = B ^^^ (B * 131072 % 18446744073709551616) := ⟨_, rfl⟩
 have lA : A < 18446744073709551616 := by rw [hA]; exact Nat.xor_lt_two_pow (n := 64) (by omega) (by omega)
 have lB : B < 18446744073709551616 := by rw [hB]; exact Nat.xor_lt_two_pow (n := 64) (by omega) (by omega)
 have e1 : bits .xor .u64 (X : Int) (IntKind.u64.wrap ((X : Int) * 8192)) = (A : Int) := by
  rw [IntKind.wrap_u64, show ((X : Int) * 8192 % 18446744073709551616) = ((X * 8192 % 18446744073709551616 : Nat) : Int) by omega, bits_xor_u64_nat _ _ hX (by omega), hA]
 have e2 : bits .xor .u64 (A : Int) ((A : Int) / 128) = (B : Int) := by
  rw [show ((A : Int) / 128) = ((A / 128 : Nat) : Int) by omega, bits_xor_u64_nat _ _ lA (by omega), hB]
 have e3 : bits .xor .u64 (B : Int) (IntKind.u64.wrap ((B : Int) * 131072)) = (C : Int) := by
  rw [IntKind.wrap_u64, show ((B : Int) * 131072 % 18446744073709551616) = ((B * 131072 % 18446744073709551616 : Nat) : Int) by omega, bits_xor_u64_nat _ _ lB (by omega), hC]
 have hv : xorNextN X = C := by unfold xorNextN; simp only []; rw [← hA, ← hB, ← hC]
 unfold NextQ
 rw [hv]
 clear hA hB hC hv lA lB hX
 have h0 : Sat w (pt s (.cells #[.int .u64 (X : Int)] 220 (0, 0)) * F) := h
 have h1 := h0.setCell 0 (.int .u64 (A : Int))
 have h2 := h1.drew.setCell 0 (.int .u64 (B : Int))
 have h3 := h2.drew.setCell 0 (.int .u64 (C : Int))
 simp only [List.setIfInBounds_toArray, List.set_cons_zero] at h1 h2 h3
 have c0 : w.cell? ⟨s, 0, none⟩ = some (.int .u64 (X : Int)) := h0.cell 0
 have f0 : w.frozen? ⟨s, 0, none⟩ = false := h0.frozen 0
 have D1 := ((Side.refl w).setCell ⟨s, 0, none⟩ (.int .u64 (A : Int))).drew
 have D2 := (D1.setCell ⟨s, 0, none⟩ (.int .u64 (B : Int))).drew
 have D3 := (D2.setCell ⟨s, 0, none⟩ (.int .u64 (C : Int))).drew
 have H3 := SL.hid h3
 have c1 : (w.setCell ⟨s, 0, none⟩ (.int .u64 (A : Int))).drew.cell? ⟨s, 0, none⟩ = some (.int .u64 (A : Int)) := h1.drew.cell 0
 have f1 : (w.setCell ⟨s, 0, none⟩ (.int .u64 (A : Int))).drew.frozen? ⟨s, 0, none⟩ = false := h1.drew.frozen 0
 have H1 := SL.hid h1
 clear h h0 h2 h3
 go_enter Tryz.func155, Tryz.ntmps155
 have hss : ∀ v v', (w.setCell ⟨s, 0, none⟩ v).setCell ⟨s, 0, none⟩ v' = w.setCell ⟨s, 0, none⟩ v' := setCell_setCell w s 0
 have h4 := H1.out
 clear c1 f1 D1 D2 D3 H1 H3
 have h5 := (h4.setCell 0 (.int .u64 (C : Int)))
 rw [hss] at h5
 simp only [List.setIfInBounds_toArray, List.set_cons_zero] at h5
 have H5 := SL.hid h5
 clear h4 h5
 go_wp2
 go_region
 all_goals go_wp2
 all_goals go_region
 all_goals go_wp2
 all_goals go_region
 all_goals go_wp2
 go_ret
 exact ⟨rfl, H5.out, (((Side.refl w).setCell ⟨s, 0, none⟩ (.int .u64 (C : Int))).drewN 3 :)⟩
theorem nextPow_any (n : Nat) (hn : n ≤ 1000000000) (w : World) :
  Calls Tryz.prog 154 #[.int .i64 (n : Int)] w fun e w' => e = .returned (.int .u64 ((1 <<< bitsLen n : Nat) : Int)) ∧ w' = w := by
 have hLen : Calls Tryz.prog 134 #[.int .u64 (n : Int)] w fun e w' => e = .returned (.int .i64 (bitsLen n : Nat)) ∧ w' = w := by
  have h := Tryz.bits_Len (n : Int) w (by omega) (by omega)
  rwa [Int.toNat_natCast, bitLen_eq _ (by omega)] at h
 have hk : bitsLen n ≤ 62 := (bitsLen_le_iff n 62).2 (by omega)
 have hp := wrap_two_pow (bitsLen n) hk
 have hn' : (n : Int) ≤ 1000000000 := by omega
 go_enter Tryz.func154, Tryz.ntmps154
 go_wp2_with fail
 (with_reducible refine hLen.mono ?_)
 rintro e w' ⟨rfl, rfl⟩
 go_wp2_with fail
 go_ret
 exact ⟨rfl, rfl⟩
def BpRel (g s : Nat) (d0 : Array Int) (a L M i0 : Nat) (tl : List Value) (F : Assn) (w : World) (u9 : Value) (wr : World) : Prop :=
 ∃ (t i : Nat) (r : UInt64) (d : Array Int), u9 = .int .i64 (i : Int) ∧ i = i0 + t ∧ t ≤ 3 ∧ d.size = d0.size ∧ bpRest a L M i0 (3 - t) t (r, d) = bpRest a L M i0 3 0 (UInt64.ofNat L, d0) ∧ Sat wr (uA g d tl * (rgA s r.toNat * F)) ∧ Side w wr
set_option maxRecDepth 100000 in
set_option maxHeartbeats 8000000 in
theorem patterns_any (g : Nat) (d0 : Array Int) (a b cap : Nat) (tl : List Value) (w : World) (F : Assn) (h : Sat w (uA g d0 tl * F)) (hab : a + 13 ≤ b) (hb : b ≤ d0.size) (hsz : d0.size ≤ 1000000000) (hcap : d0.size ≤ cap) :
  Calls Tryz.prog 144 #[.slice (some ⟨g, 0, none⟩) d0.size cap, .int .i64 (a : Int), .int .i64 (b : Int)] w (ArrQ g (breakPatterns d0 a b) tl F w) := by
 obtain ⟨L, hL⟩ : ∃ L, b = a + L := ⟨b - a, by omega⟩
 obtain ⟨q, hq⟩ : ∃ q, q = L / 4 := ⟨_, rfl⟩
 obtain ⟨i0, hi0⟩ : ∃ i0, i0 = a + q * 2 - 1 := ⟨_, rfl⟩
 obtain ⟨M, hM⟩ : ∃ M : Nat, M = 1 <<< bitsLen L := ⟨_, rfl⟩
 have hM1 : 1 ≤ M := by rw [hM, Nat.one_shiftLeft]; exact Nat.two_pow_pos _
 have hM2 : M ≤ 2 * L := by rw [hM, Nat.one_shiftLeft]; exact two_pow_bitsLen_le (by omega)
 have hres := breakPatterns_eq d0 a L (by omega)
 rw [← hL, ← hq, ← hi0, ← hM] at hres
 rw [hres]
 have hNP : ∀ w, Calls Tryz.prog 154 #[.int .i64 (L : Int)] w fun e w' => e = .returned (.int .u64 (M : Int)) ∧ w' = w := fun w => by rw [hM]; exact nextPow_any L (by omega) w
 have e0 : (b : Int) - (a : Int) = (L : Int) := by omega
 have e1 : (L : Int) / 4 = (q : Int) := by omega
 have e2 : (L : Int).tdiv 4 = (q : Int) := by rw [Int.tdiv_eq_ediv_of_nonneg (by omega)]; exact e1
 have e3 : (a : Int) + (q : Int) * 2 - 1 = (i0 : Int) := by omega
 have e4 : (a : Int) + (q : Int) * 2 + 1 = ((i0 + 2 : Nat) : Int) := by omega
 have l0 : (13 : Int) ≤ (L : Int) := by omega
 have l1 : (L : Int) ≤ 1000000000 := by omega
 have q1 : (q : Int) ≤ 250000000 := by omega
 have a1 : (a : Int) ≤ 1000000000 := by omega
 have i1 : (i0 : Int) ≤ 1000000000 := by omega
 have hA : Sat (w.alloc (.cells #[.int .u64 (L : Int)] 220 (0, 0))) (uA g d0 tl * (rgA w.heap.size (UInt64.ofNat L).toNat * F)) := by
  have := (h.alloc (.cells #[.int .u64 (L : Int)] 220 (0, 0))).front2
  rw [show (UInt64.ofNat L).toNat = L from by simp; omega]
  exact this
 have hsA := (Side.refl w).alloc (.cells #[.int .u64 (L : Int)] 220 (0, 0))
 have Rk := SL.hid (show a + L ≤ d0.size ∧ i0 + 3 ≤ a + L ∧ 13 ≤ L ∧ M ≤ 2 * L ∧ 1 ≤ M by omega)
 have E4 := SL.hid e4
 have HNP := SL.hid hNP; have HA := SL.hid hA; have HsA := SL.hid hsA
 clear hL hq hi0 hM hM1 hM2 hres hNP h hA hsA hab hb e4
 go_enter Tryz.func144, Tryz.ntmps144
 go_wp2_with (go_at_call 154; (with_reducible refine (HNP.out _).mono ?_); rintro e w' ⟨rfl, rfl⟩)
 generalize w.alloc (.cells #[.int .u64 (L : Int)] 220 (0, 0)) = w1 at *
 generalize w.heap.size = s at *
 go_loopw [9] (fun u9 wr => BpRel g s d0 a L M i0 tl F w u9 wr) (fun u9 _ => i0 + 3 - (intOf u9).toNat)
 case atStart => exact ⟨0, i0, UInt64.ofNat L, d0, rfl, rfl, by omega, rfl, rfl, HA.out, HsA.out⟩
 case round =>
  clear HA HsA
  obtain ⟨t, i, r, d, rfl, hi, ht, hds, hr, hsat, hside⟩ := hrel
  by_cases ht3 : t = 3
  ·subst ht3
   have hg : ¬ (i : Int) ≤ (a : Int) + (q : Int) * 2 + 1 := by rw [E4.out]; omega
   have hr2 : d = bpRest a L M i0 3 0 (UInt64.ofNat L, d0) := by rw [← hr]; rfl
   have Hr2 := SL.hid hr2; have Hi := SL.hid hi
   clear hr hr2 hi
   go_wp2_with fail
   go_end0
   exact ⟨rfl, by rw [← Hr2.out]; exact hsat.drop2, hside⟩
  ·have hg : (i : Int) ≤ (a : Int) + (q : Int) * 2 + 1 := by rw [E4.out]; omega
   obtain ⟨R, hRr⟩ : ∃ R : Nat, R = r.toNat := ⟨_, rfl⟩
   have lR : R < 18446744073709551616 := by rw [hRr]; exact r.toNat_lt
   obtain ⟨R', hR'⟩ : ∃ R' : Nat, R' = xorNextN R := ⟨_, rfl⟩
   have lR' : R' < 18446744073709551616 := by rw [hR']; exact xorNextN_lt R lR
   obtain ⟨O, hO⟩ : ∃ O : Nat, O = R' &&& (M - 1) := ⟨_, rfl⟩
   have lO : O ≤ M - 1 := by rw [hO]; exact Nat.and_le_right
   have eAnd : bits .and .u64 (R' : Int) ((M : Int) - 1) = (O : Int) := by
    rw [show ((M : Int) - 1) = ((M - 1 : Nat) : Int) by have := Rk.out; omega, bits_and_u64_nat _ _ lR' (by have := Rk.out; omega), hO]
   have hnx := next_any s R lR wr (uA g d tl * F) (by rw [hRr]; exact hsat.front2)
   have eR : R' = (xorNext r).toNat := by rw [hR', hRr, xorNext_toNat]
   have hO2 : (xorNext r).toNat &&& (M - 1) = O := by rw [← eR]; exact hO.symm
   unfold NextQ at hnx
   rw [← hR'] at hnx
   have m1 : (1 : Int) ≤ (M : Int) := by have := Rk.out; omega
   have m2 : (M : Int) ≤ 2000000000 := by have := Rk.out; omega
   have lO1 : (O : Int) ≤ 2000000000 := by have := Rk.out; omega
   have Hi := SL.hid hi; have HR := SL.hid hr; have H6 := SL.hid hds; have HO := SL.hid hO2; have ER := SL.hid eR; have LO := SL.hid lO; have Ht := SL.hid (show t ≤ 2 by omega)
   clear hRr hR' hO hO2 eR hr hds hi lR lR' lO hsat ht ht3
   by_cases hLO : L ≤ O
   ·have hLO' : (L : Int) ≤ (O : Int) := by omega
    have hst : bpRest a L M i0 (3 - (t + 1)) (t + 1) (xorNext r, swp d i (a + (O - L))) = bpRest a L M i0 3 0 (UInt64.ofNat L, d0) := by
     rw [Hi.out, ← HR.out]
     exact (bp_step a L M i0 t r d (O - L) (by have := Ht.out; omega) (by rw [HO.out]; rw [if_pos hLO])).symm
    obtain ⟨ao, hao⟩ : ∃ x, x = a + (O - L) := ⟨_, rfl⟩
    rw [← hao] at hst
    obtain ⟨ov, hov⟩ : ∃ x, x = O - L := ⟨_, rfl⟩
    have t1 : (O : Int) - (L : Int) = (ov : Int) := by omega
    have t2 : IntKind.i64.wrap ((O : Int) - (L : Int)) = (ov : Int) := by rw [IntKind.wrap_i64]; omega
    have ov1 : (ov : Int) ≤ 2000000000 := by omega
    have s1 : (a : Int) + (ov : Int) = (ao : Int) := by omega
    have s2 : IntKind.i64.wrap ((a : Int) + (ov : Int)) = (ao : Int) := by rw [IntKind.wrap_i64]; omega
    have s3 : IntKind.i64.wrap (ao : Int) = (ao : Int) := by rw [IntKind.wrap_i64]; have := Rk.out; have := LO.out; omega
    have b1 : (ao : Int) < (d0.size : Int) := by have := Rk.out; have := LO.out; omega
    have b2 : (i : Int) < (d0.size : Int) := by have := Rk.out; have := Hi.out; have := Ht.out; omega
    have hds3 : (swp d i ao).size = d0.size := by rw [← H6.out]; simp [swp]
    have Hst := SL.hid hst; have Hao := SL.hid hao; have H7 := SL.hid hds3
    clear hst hao hds3 hov
    go_wp2_with fail
    (with_reducible refine hnx.mono ?_)
    rintro e w5 ⟨rfl, h5, d5⟩
    have D5 := hside.trans d5
    obtain ⟨ci, cj, fi, fj, ⟨v, hv⟩, fj2, hs⟩ := uA_swp h5.front2 (i := i) (j := ao) (by rw [H6.out]; omega) (by rw [H6.out]; omega)
    generalize d[i]! = di at *
    generalize d[ao]! = dj at *
    have H1 := SL.hid hs
    clear hs hnx h5 d5
    go_wp2_with fail
    go_region_law (fail)
    all_goals
     go_wp2
     go_roundw
     case rel => exact ⟨t + 1, i + 1, xorNext r, swp d i ao, by go_num, by have := Hi.out; omega, by have := Ht.out; omega, H7.out, Hst.out, by rw [← ER.out]; exact H1.out.drew, ((D5.setCell _ _).setCell _ _).drew⟩
     case measure => have := Hi.out; have := Ht.out; simp [intOf]; omega
   ·have hLO' : ¬ (L : Int) ≤ (O : Int) := by omega
    have hst : bpRest a L M i0 (3 - (t + 1)) (t + 1) (xorNext r, swp d i (a + O)) = bpRest a L M i0 3 0 (UInt64.ofNat L, d0) := by
     rw [Hi.out, ← HR.out]
     exact (bp_step a L M i0 t r d (O) (by have := Ht.out; omega) (by rw [HO.out]; rw [if_neg hLO])).symm
    obtain ⟨ao, hao⟩ : ∃ x, x = a + O := ⟨_, rfl⟩
    rw [← hao] at hst
    have s1 : (a : Int) + (O : Int) = (ao : Int) := by omega
    have s2 : IntKind.i64.wrap ((a : Int) + (O : Int)) = (ao : Int) := by rw [IntKind.wrap_i64]; omega
    have s3 : IntKind.i64.wrap (ao : Int) = (ao : Int) := by rw [IntKind.wrap_i64]; have := Rk.out; have := LO.out; omega
    have b1 : (ao : Int) < (d0.size : Int) := by have := Rk.out; have := LO.out; omega
    have b2 : (i : Int) < (d0.size : Int) := by have := Rk.out; have := Hi.out; have := Ht.out; omega
    have hds3 : (swp d i ao).size = d0.size := by rw [← H6.out]; simp [swp]
    have Hst := SL.hid hst; have Hao := SL.hid hao; have H7 := SL.hid hds3
    clear hst hao hds3
    go_wp2_with fail
    (with_reducible refine hnx.mono ?_)
    rintro e w5 ⟨rfl, h5, d5⟩
    have D5 := hside.trans d5
    obtain ⟨ci, cj, fi, fj, ⟨v, hv⟩, fj2, hs⟩ := uA_swp h5.front2 (i := i) (j := ao) (by rw [H6.out]; omega) (by rw [H6.out]; omega)
    generalize d[i]! = di at *
    generalize d[ao]! = dj at *
    have H1 := SL.hid hs
    clear hs hnx h5 d5
    go_wp2_with fail
    go_region_law (fail)
    all_goals
     go_wp2
     go_roundw
     case rel => exact ⟨t + 1, i + 1, xorNext r, swp d i ao, by go_num, by have := Hi.out; omega, by have := Ht.out; omega, H7.out, Hst.out, by rw [← ER.out]; exact H1.out.drew, ((D5.setCell _ _).setCell _ _).drew⟩
     case measure => have := Hi.out; have := Ht.out; simp [intOf]; omega
end Go.Proofs.YtdafdidmbeecfaaGreatDoor
end

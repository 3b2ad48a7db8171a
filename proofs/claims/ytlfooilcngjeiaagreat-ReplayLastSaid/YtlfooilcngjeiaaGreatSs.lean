/- The sort of uint32: siftDown, heapSort (printed by mksort.py). The sort of uint32: heapSort (printed by mksort.py). -/
import Derived.Test.YtlfooilcngjeiaaGreatSq
namespace Go.Proofs.YtlfooilcngjeiaaGreat
set_option linter.unusedVariables false
set_option linter.unusedSimpArgs false
open Go.RowKit Go.SL Go.Sort
def SiftRel (g : Nat) (d0 : Array Int) (hi first lo : Nat) (tl : List Value) (F : Assn) (w : World) (u8 : Value) (wr : World) : Prop :=
  ∃ (root : Nat) (d : Array Int), u8 = .int .i64 (root : Int) ∧ root ≤ hi ∧ d.size = d0.size ∧ siftDown ltInt hi first root d = siftDown ltInt hi first lo d0 ∧ Sat wr (uA g d tl * F) ∧ Side w wr
theorem sift_stop {hi first root : Nat} {d : Array Int} (h : hi ≤ 2 * root + 1) : siftDown ltInt hi first root d = d := by rw [siftDown.eq_1, dif_pos h]
theorem sift_two {hi first root : Nat} {d : Array Int} (h : 2 * root + 2 < hi) (hl : ltInt d[first + (2 * root + 1)]! d[first + (2 * root + 2)]! = true) :
    siftDown ltInt hi first root d = if ltInt d[first + root]! d[first + (2 * root + 2)]! = true then siftDown ltInt hi first (2 * root + 2) (swp d (first + root) (first + (2 * root + 2))) else d := by
  rw [siftDown.eq_1, dif_neg (by omega), if_pos (by rw [show first + (2 * root + 1) + 1 = first + (2 * root + 2) by omega, hl]; simp; omega)]
  cases hc : ltInt d[first + root]! d[first + (2 * root + 2)]! with
  | true => simp [h]
  | false => simp
theorem sift_one {hi first root : Nat} {d : Array Int} (h0 : 2 * root + 1 < hi) (h : hi ≤ 2 * root + 2 ∨ ltInt d[first + (2 * root + 1)]! d[first + (2 * root + 2)]! = false) :
    siftDown ltInt hi first root d = if ltInt d[first + root]! d[first + (2 * root + 1)]! = true then siftDown ltInt hi first (2 * root + 1) (swp d (first + root) (first + (2 * root + 1))) else d := by
  rw [siftDown.eq_1, dif_neg (by omega), if_neg (by
    rw [show first + (2 * root + 1) + 1 = first + (2 * root + 2) by omega]
    rcases h with h | h
    · simp; omega
    · simp [h])]
  cases hc : ltInt d[first + root]! d[first + (2 * root + 1)]! with
  | true => simp
  | false => simp
set_option maxRecDepth 100000 in
set_option maxHeartbeats 4000000 in
theorem sift_any (g : Nat) (d0 : Array Int) (lo hi first cap : Nat) (tl : List Value) (w : World) (F : Assn) (h : Sat w (uA g d0 tl * F)) (hlo : lo ≤ hi) (hb : first + hi ≤ d0.size) (hsz : d0.size ≤ 1000000000) (hcap : d0.size ≤ cap) :
    Calls Tryz.prog 107 #[.slice (some ⟨g, 0, none⟩) d0.size cap, .int .i64 (lo : Int), .int .i64 (hi : Int), .int .i64 (first : Int)] w (ArrQ g (siftDown ltInt hi first lo d0) tl F w) := by
  have hs' : (d0.size : Int) ≤ 1000000000 := by omega
  have hhi : (hi : Int) ≤ 1000000000 := by omega
  have hfi : (first : Int) ≤ 1000000000 := by omega
  go_enter Tryz.func107, Tryz.ntmps107
  go_wp2_with fail
  go_loopw [8] (fun u8 wr => SiftRel g d0 hi first lo tl F w u8 wr) (fun u8 _ => hi - (intOf u8).toNat)
  case atStart => exact ⟨lo, d0, rfl, hlo, rfl, rfl, h, Side.refl w⟩
  case round =>
    clear h
    obtain ⟨root, d, rfl, hrh, hds, hr, hsat, hside⟩ := hrel
    have hro : (root : Int) ≤ 1000000000 := by omega
    by_cases hst : hi ≤ 2 * root + 1
    · have hst' : (hi : Int) ≤ 2 * (root : Int) + 1 := by omega
      rw [sift_stop hst] at hr
      go_wp2_with fail
      go_end0
      exact ⟨rfl, by rw [← hr]; exact hsat, hside⟩
    · have hst' : ¬ (hi : Int) ≤ 2 * (root : Int) + 1 := by omega
      obtain ⟨c1, hc1⟩ : ∃ c1, c1 = 2 * root + 1 := ⟨_, rfl⟩
      obtain ⟨f1, hf1⟩ : ∃ f1, f1 = first + c1 := ⟨_, rfl⟩
      obtain ⟨fr0, hfr0⟩ : ∃ x, x = first + root := ⟨_, rfl⟩
      have hcv : 2 * (root : Int) + 1 = (c1 : Int) := by omega
      have hcw : IntKind.i64.wrap (2 * (root : Int) + 1) = (c1 : Int) := by rw [IntKind.wrap_i64]; omega
      have s11 : (first : Int) + (c1 : Int) = (f1 : Int) := by omega
      have s12 : IntKind.i64.wrap ((first : Int) + (c1 : Int)) = (f1 : Int) := by rw [IntKind.wrap_i64]; omega
      have s13 : IntKind.i64.wrap (f1 : Int) = (f1 : Int) := by rw [IntKind.wrap_i64]; omega
      have s21 : (first : Int) + (root : Int) = (fr0 : Int) := by omega
      have s22 : IntKind.i64.wrap ((first : Int) + (root : Int)) = (fr0 : Int) := by rw [IntKind.wrap_i64]; omega
      have s23 : IntKind.i64.wrap (fr0 : Int) = (fr0 : Int) := by rw [IntKind.wrap_i64]; omega
      have b1 : (f1 : Int) < (d0.size : Int) := by omega
      have b2 : (fr0 : Int) < (d0.size : Int) := by omega
      have Hf1 := SL.hid hf1; have Hfr0 := SL.hid hfr0; have Hc1 := SL.hid hc1; have H6 := SL.hid hds; have H4 := SL.hid hsat; have H5 := SL.hid hr
      have k1 := uA_cell hsat (k := f1) (by omega)
      have k2 := uA_cell hsat (k := fr0) (by omega)
      have hrn : (if 2 * root + 2 < hi ∧ ltInt d[first + (2 * root + 1)]! d[first + (2 * root + 2)]! = true then (1 : Nat) else 0) = 0 ∨ True := .inr trivial
      clear hrn
      clear hf1 hfr0 hc1 hds hsat hr
      have hd1 : d[first + (2 * root + 1)]! = d[f1]! := by rw [Hf1.out, Hc1.out]
      have hdr : d[first + root]! = d[fr0]! := by rw [Hfr0.out]
      have Hd1 := SL.hid hd1; have Hdr0 := SL.hid hdr
      clear hd1 hdr
      by_cases hg : c1 + 1 < hi
      · obtain ⟨c2, hc2⟩ : ∃ c2, c2 = c1 + 1 := ⟨_, rfl⟩
        obtain ⟨f2, hf2⟩ : ∃ f2, f2 = first + c2 := ⟨_, rfl⟩
        have s31 : (c1 : Int) + 1 = (c2 : Int) := by omega
        have s32 : IntKind.i64.wrap ((c1 : Int) + 1) = (c2 : Int) := by rw [IntKind.wrap_i64]; omega
        have s33 : IntKind.i64.wrap (c2 : Int) = (c2 : Int) := by rw [IntKind.wrap_i64]; omega
        have s41 : (first : Int) + (c2 : Int) = (f2 : Int) := by omega
        have s42 : IntKind.i64.wrap ((first : Int) + (c2 : Int)) = (f2 : Int) := by rw [IntKind.wrap_i64]; omega
        have s43 : IntKind.i64.wrap (f2 : Int) = (f2 : Int) := by rw [IntKind.wrap_i64]; omega
        have s51 : (f1 : Int) + 1 = (f2 : Int) := by omega
        have s52 : IntKind.i64.wrap ((f1 : Int) + 1) = (f2 : Int) := by rw [IntKind.wrap_i64]; omega
        have s53 : IntKind.i64.wrap (f2 : Int) = (f2 : Int) := by rw [IntKind.wrap_i64]; omega
        have b3 : (f2 : Int) < (d0.size : Int) := by omega
        have hg' : (c2 : Int) < (hi : Int) := by omega
        have k3 := uA_cell H4.out (k := f2) (by rw [H6.out]; omega)
        have Hc2 := SL.hid hc2; have Hf2 := SL.hid hf2
        have hd2 : d[first + (2 * root + 2)]! = d[f2]! := by rw [hf2, hc2, Hc1.out]
        have Hd2 := SL.hid hd2
        clear hd2 hc2 hf2
        generalize hx1 : d[f1]! = x1 at *
        generalize hx2 : d[f2]! = x2 at *
        generalize hxr : d[fr0]! = xr at *
        have Hx1 := SL.hid hx1; have Hx2 := SL.hid hx2; have Hxr := SL.hid hxr
        clear hx1 hx2 hxr
        cases hcmp : ltInt x1 x2 with
        | true =>
          have HL1 : Hid (∀ w, Calls Tryz.prog 102 #[.int .u32 x1, .int .u32 x2] w fun e w' => e = .returned (.bool true) ∧ w' = w) := SL.hid (fun w => by have := less_any x1 x2 w; rwa [hcmp] at this)
          have hst2 := sift_two (hi := hi) (first := first) (root := root) (d := d) (by have := Hc1.out; omega) (by rw [Hd1.out, Hd2.out]; exact hcmp)
          rw [H5.out, Hdr0.out, Hd2.out] at hst2
          have Hst2 := SL.hid hst2
          clear hst2 hcmp
          go_wp2_with fail
          go_quiet ((go_at_call 102; exact Calls.quiet_of_same (HL1.out _)))
          go_wp2_with fail
          obtain ⟨wq, hwq⟩ : ∃ x, wr.drewN nq = x := ⟨_, rfl⟩
          have Hq : Hid (Sat wq (uA g d tl * F)) := SL.hid (hwq ▸ H4.out.drew)
          have sq : Side w wq := hwq ▸ hside.drewN nq
          simp only [hwq]
          clear hwq k1 k2 k3
          have k2 := uA_cell Hq.out (k := fr0) (by rw [H6.out]; omega)
          rw [Hxr.out] at k2
          have k3 := uA_cell Hq.out (k := f2) (by rw [H6.out]; omega)
          rw [Hx2.out] at k3
          cases hcmp : ltInt xr x2 with
          | true =>
            have HL2 : Hid (∀ w, Calls Tryz.prog 102 #[.int .u32 xr, .int .u32 x2] w fun e w' => e = .returned (.bool true) ∧ w' = w) := SL.hid (fun w => by have := less_any xr x2 w; rwa [hcmp] at this)
            have h7 := Hst2.out
            rw [if_pos hcmp, show 2 * root + 2 = c2 by have := Hc1.out; have := Hc2.out; omega, ← Hfr0.out, ← Hf2.out] at h7
            have H7 := SL.hid h7.symm
            clear h7 hcmp
            have hds3 : (swp d fr0 f2).size = d0.size := by rw [← H6.out]; simp [swp]
            have H3 := SL.hid hds3
            clear hds3
            go_wp2_with fail
            go_quiet ((go_at_call 102; exact Calls.quiet_of_same (HL2.out _)))
            go_wp2_with fail
            obtain ⟨wz, hwq⟩ : ∃ x, wq.drewN nq = x := ⟨_, rfl⟩
            have Hz : Hid (Sat wz (uA g d tl * F)) := SL.hid (hwq ▸ Hq.out.drew)
            have sz : Side w wz := hwq ▸ sq.drewN nq
            simp only [hwq]
            clear hwq k2 k3
            obtain ⟨ci, cj, fi, fj, ⟨v, hv⟩, fj2, hs⟩ := uA_swp Hz.out (i := fr0) (j := f2) (by rw [H6.out]; omega) (by rw [H6.out]; omega)
            rw [Hxr.out] at ci hs
            rw [Hx2.out] at cj hv fj2 hs
            have H1 := SL.hid hs
            clear hs
            go_region_law (fail)
            all_goals
              go_wp2
              go_roundw
              case rel => exact ⟨c2, swp d fr0 f2, rfl, by omega, H3.out, H7.out, H1.out.drew, ((sz.setCell _ _).setCell _ _).drew⟩
              case measure => have := Hc1.out; simp [intOf]; omega
          | false =>
            have HL2 : Hid (∀ w, Calls Tryz.prog 102 #[.int .u32 xr, .int .u32 x2] w fun e w' => e = .returned (.bool false) ∧ w' = w) := SL.hid (fun w => by have := less_any xr x2 w; rwa [hcmp] at this)
            have h7 := Hst2.out
            rw [hcmp, if_neg (by decide)] at h7
            have H7 := SL.hid h7
            clear h7 hcmp
            go_wp2_with fail
            go_quiet ((go_at_call 102; exact Calls.quiet_of_same (HL2.out _)))
            go_wp2_with fail
            go_end0
            exact ⟨rfl, by rw [H7.out]; exact Hq.out.drew, sq.drewN nq⟩
        | false =>
          have HL1 : Hid (∀ w, Calls Tryz.prog 102 #[.int .u32 x1, .int .u32 x2] w fun e w' => e = .returned (.bool false) ∧ w' = w) := SL.hid (fun w => by have := less_any x1 x2 w; rwa [hcmp] at this)
          have hst2 := sift_one (hi := hi) (first := first) (root := root) (d := d) (by have := Hc1.out; omega) (.inr (by rw [Hd1.out, Hd2.out]; exact hcmp))
          rw [H5.out, Hdr0.out, Hd1.out] at hst2
          have Hst2 := SL.hid hst2
          clear hst2 hcmp
          go_wp2_with fail
          go_quiet ((go_at_call 102; exact Calls.quiet_of_same (HL1.out _)))
          go_wp2_with fail
          obtain ⟨wq, hwq⟩ : ∃ x, wr.drewN nq = x := ⟨_, rfl⟩
          have Hq : Hid (Sat wq (uA g d tl * F)) := SL.hid (hwq ▸ H4.out.drew)
          have sq : Side w wq := hwq ▸ hside.drewN nq
          simp only [hwq]
          clear hwq k1 k2 k3
          have k2 := uA_cell Hq.out (k := fr0) (by rw [H6.out]; omega)
          rw [Hxr.out] at k2
          have k1 := uA_cell Hq.out (k := f1) (by rw [H6.out]; omega)
          rw [Hx1.out] at k1
          cases hcmp : ltInt xr x1 with
          | true =>
            have HL2 : Hid (∀ w, Calls Tryz.prog 102 #[.int .u32 xr, .int .u32 x1] w fun e w' => e = .returned (.bool true) ∧ w' = w) := SL.hid (fun w => by have := less_any xr x1 w; rwa [hcmp] at this)
            have h7 := Hst2.out
            rw [if_pos hcmp, show 2 * root + 1 = c1 by have := Hc1.out; omega, ← Hfr0.out, ← Hf1.out] at h7
            have H7 := SL.hid h7.symm
            clear h7 hcmp
            have hds3 : (swp d fr0 f1).size = d0.size := by rw [← H6.out]; simp [swp]
            have H3 := SL.hid hds3
            clear hds3
            go_wp2_with fail
            go_quiet ((go_at_call 102; exact Calls.quiet_of_same (HL2.out _)))
            go_wp2_with fail
            obtain ⟨wz, hwq⟩ : ∃ x, wq.drewN nq = x := ⟨_, rfl⟩
            have Hz : Hid (Sat wz (uA g d tl * F)) := SL.hid (hwq ▸ Hq.out.drew)
            have sz : Side w wz := hwq ▸ sq.drewN nq
            simp only [hwq]
            clear hwq k2 k1
            obtain ⟨ci, cj, fi, fj, ⟨v, hv⟩, fj2, hs⟩ := uA_swp Hz.out (i := fr0) (j := f1) (by rw [H6.out]; omega) (by rw [H6.out]; omega)
            rw [Hxr.out] at ci hs
            rw [Hx1.out] at cj hv fj2 hs
            have H1 := SL.hid hs
            clear hs
            go_region_law (fail)
            all_goals
              go_wp2
              go_roundw
              case rel => exact ⟨c1, swp d fr0 f1, rfl, by omega, H3.out, H7.out, H1.out.drew, ((sz.setCell _ _).setCell _ _).drew⟩
              case measure => have := Hc1.out; simp [intOf]; omega
          | false =>
            have HL2 : Hid (∀ w, Calls Tryz.prog 102 #[.int .u32 xr, .int .u32 x1] w fun e w' => e = .returned (.bool false) ∧ w' = w) := SL.hid (fun w => by have := less_any xr x1 w; rwa [hcmp] at this)
            have h7 := Hst2.out
            rw [hcmp, if_neg (by decide)] at h7
            have H7 := SL.hid h7
            clear h7 hcmp
            go_wp2_with fail
            go_quiet ((go_at_call 102; exact Calls.quiet_of_same (HL2.out _)))
            go_wp2_with fail
            go_end0
            exact ⟨rfl, by rw [H7.out]; exact Hq.out.drew, sq.drewN nq⟩
      · have hst2 := sift_one (hi := hi) (first := first) (root := root) (d := d) (by have := Hc1.out; omega) (.inl (by have := Hc1.out; omega))
        obtain ⟨c2, hc2⟩ : ∃ c2, c2 = c1 + 1 := ⟨_, rfl⟩
        have s31 : (c1 : Int) + 1 = (c2 : Int) := by omega
        have s32 : IntKind.i64.wrap ((c1 : Int) + 1) = (c2 : Int) := by rw [IntKind.wrap_i64]; omega
        have s33 : IntKind.i64.wrap (c2 : Int) = (c2 : Int) := by rw [IntKind.wrap_i64]; omega
        have hg' : ¬ (c2 : Int) < (hi : Int) := by omega
        have hg2 : decide (c2 < hi) = false := decide_eq_false (by omega)
        generalize hx1 : d[f1]! = x1 at *
        generalize hxr : d[fr0]! = xr at *
        have Hx1 := SL.hid hx1; have Hxr := SL.hid hxr
        rw [H5.out, Hdr0.out, Hd1.out] at hst2
        have Hst2 := SL.hid hst2
        clear hst2 hx1 hxr hc2
        go_wp2_with fail
        go_quiet (fail)
        go_wp2_with fail
        obtain ⟨wq, hwq⟩ : ∃ x, wr.drewN nq = x := ⟨_, rfl⟩
        have Hq : Hid (Sat wq (uA g d tl * F)) := SL.hid (hwq ▸ H4.out.drew)
        have sq : Side w wq := hwq ▸ hside.drewN nq
        simp only [hwq]
        clear hwq k1 k2
        have k2 := uA_cell Hq.out (k := fr0) (by rw [H6.out]; omega)
        rw [Hxr.out] at k2
        have k1 := uA_cell Hq.out (k := f1) (by rw [H6.out]; omega)
        rw [Hx1.out] at k1
        cases hcmp : ltInt xr x1 with
        | true =>
          have HL2 : Hid (∀ w, Calls Tryz.prog 102 #[.int .u32 xr, .int .u32 x1] w fun e w' => e = .returned (.bool true) ∧ w' = w) := SL.hid (fun w => by have := less_any xr x1 w; rwa [hcmp] at this)
          have h7 := Hst2.out
          rw [if_pos hcmp, show 2 * root + 1 = c1 by have := Hc1.out; omega, ← Hfr0.out, ← Hf1.out] at h7
          have H7 := SL.hid h7.symm
          clear h7 hcmp
          have hds3 : (swp d fr0 f1).size = d0.size := by rw [← H6.out]; simp [swp]
          have H3 := SL.hid hds3
          clear hds3
          go_wp2_with fail
          go_quiet ((go_at_call 102; exact Calls.quiet_of_same (HL2.out _)))
          go_wp2_with fail
          obtain ⟨wz, hwq⟩ : ∃ x, wq.drewN nq = x := ⟨_, rfl⟩
          have Hz : Hid (Sat wz (uA g d tl * F)) := SL.hid (hwq ▸ Hq.out.drew)
          have sz : Side w wz := hwq ▸ sq.drewN nq
          simp only [hwq]
          clear hwq k2 k1
          obtain ⟨ci, cj, fi, fj, ⟨v, hv⟩, fj2, hs⟩ := uA_swp Hz.out (i := fr0) (j := f1) (by rw [H6.out]; omega) (by rw [H6.out]; omega)
          rw [Hxr.out] at ci hs
          rw [Hx1.out] at cj hv fj2 hs
          have H1 := SL.hid hs
          clear hs
          go_region_law (fail)
          all_goals
            go_wp2
            go_roundw
            case rel => exact ⟨c1, swp d fr0 f1, rfl, by omega, H3.out, H7.out, H1.out.drew, ((sz.setCell _ _).setCell _ _).drew⟩
            case measure => have := Hc1.out; simp [intOf]; omega
        | false =>
          have HL2 : Hid (∀ w, Calls Tryz.prog 102 #[.int .u32 xr, .int .u32 x1] w fun e w' => e = .returned (.bool false) ∧ w' = w) := SL.hid (fun w => by have := less_any xr x1 w; rwa [hcmp] at this)
          have h7 := Hst2.out
          rw [hcmp, if_neg (by decide)] at h7
          have H7 := SL.hid h7
          clear h7 hcmp
          go_wp2_with fail
          go_quiet ((go_at_call 102; exact Calls.quiet_of_same (HL2.out _)))
          go_wp2_with fail
          go_end0
          exact ⟨rfl, by rw [H7.out]; exact Hq.out.drew, sq.drewN nq⟩
end Go.Proofs.YtlfooilcngjeiaaGreat
namespace Go.Proofs.YtlfooilcngjeiaaGreat
set_option linter.unusedVariables false
set_option linter.unusedSimpArgs false
open Go.RowKit Go.SL Go.Sort
def HpRel (g : Nat) (d0 : Array Int) (hi first : Nat) (tl : List Value) (F : Assn) (w : World) (u9 : Value) (wr : World) : Prop :=
  ∃ (k : Nat) (d : Array Int), u9 = .int .i64 ((k : Int) - 1) ∧ k ≤ hi + 1 ∧ (k = 0 ∨ k - 1 ≤ hi) ∧ d.size = d0.size ∧ heapBuild ltInt hi first k d = heapBuild ltInt hi first ((hi - 1) / 2 + 1) d0 ∧ Sat wr (uA g d tl * F) ∧ Side w wr
def HpRel2 (g : Nat) (d0 d1 : Array Int) (hi first : Nat) (tl : List Value) (F : Assn) (w : World) (u10 : Value) (wr : World) : Prop :=
  ∃ (k : Nat) (d : Array Int), u10 = .int .i64 ((k : Int) - 1) ∧ k ≤ hi ∧ d.size = d0.size ∧ heapPop ltInt first k d = heapPop ltInt first hi d1 ∧ Sat wr (uA g d tl * F) ∧ Side w wr
theorem sift_size (lt : Int → Int → Bool) (hi first : Nat) : ∀ (n root : Nat) (d : Array Int), hi - root ≤ n → (siftDown lt hi first root d).size = d.size := by
  intro n
  induction n with
  | zero => intro root d h; rw [siftDown.eq_1, dif_pos (by omega)]
  | succ n ih =>
    intro root d h
    rw [siftDown.eq_1]
    split
    · rfl
    · split
      · split
        · rfl
        · split
          · rw [ih _ _ (by omega)]; simp [swp]
          · rfl
      · split
        · rfl
        · rw [ih _ _ (by omega)]; simp [swp]
set_option maxRecDepth 100000 in
set_option maxHeartbeats 4000000 in
theorem heap_any (g : Nat) (d0 : Array Int) (a b cap : Nat) (tl : List Value) (w : World) (F : Assn) (h : Sat w (uA g d0 tl * F)) (hab : a + 1 ≤ b) (hb : b ≤ d0.size) (hsz : d0.size ≤ 1000000000) (hcap : d0.size ≤ cap) :
    Calls Tryz.prog 97 #[.slice (some ⟨g, 0, none⟩) d0.size cap, .int .i64 (a : Int), .int .i64 (b : Int)] w (ArrQ g (heapSort ltInt d0 a b) tl F w) := by
  have hs' : (d0.size : Int) ≤ 1000000000 := by omega
  have hb' : (b : Int) ≤ 1000000000 := by omega
  have ha' : (a : Int) ≤ 1000000000 := by omega
  obtain ⟨hi, hhi⟩ : ∃ hi, hi = b - a := ⟨_, rfl⟩
  have e1 : (b : Int) - (a : Int) = (hi : Int) := by omega
  have hh' : (hi : Int) ≤ 1000000000 := by omega
  have hh1 : (1 : Int) ≤ (hi : Int) := by omega
  have e2 : ((hi : Int) - 1) / 2 = (((hi - 1) / 2 + 1 : Nat) : Int) - 1 := by omega
  have e3 : ((hi : Int) - 1).tdiv 2 = (((hi - 1) / 2 + 1 : Nat) : Int) - 1 := by rw [Int.tdiv_eq_ediv_of_nonneg (by omega)]; exact e2
  have hres : heapSort ltInt d0 a b = heapPop ltInt a hi (heapBuild ltInt hi a ((hi - 1) / 2 + 1) d0) := by unfold heapSort; rw [hhi]
  rw [hres]
  have E2 := SL.hid e2; have E3 := SL.hid e3; have Hhi := SL.hid hhi
  clear e2 e3 hres hhi
  go_enter Tryz.func97, Tryz.ntmps97
  go_wp2_with fail
  go_loopw [9] (fun u9 wr => HpRel g d0 hi a tl F w u9 wr) (fun u9 _ => (intOf u9 + 1).toNat)
  case atStart => exact ⟨(hi - 1) / 2 + 1, d0, by first | rw [← E2.out] | rw [← E3.out], by omega, by omega, rfl, rfl, h, Side.refl w⟩
  case round =>
    clear h
    obtain ⟨k, d, rfl, hk1, hk2, hds, hr, hsat, hside⟩ := hrel
    match k, hk1, hk2, hr with
    | 0, hk1, hk2, hr =>
      have hr2 : d = heapBuild ltInt hi a ((hi - 1) / 2 + 1) d0 := hr
      have Hb := SL.hid hr2
      have H6 := SL.hid hds; have H4 := SL.hid hsat
      clear hr hr2 hds hsat hk2
      go_wp2_with fail
      go_loopw [10] (fun u10 wr => HpRel2 g d0 d hi a tl F w u10 wr) (fun u10 _ => (intOf u10 + 1).toNat)
      case atStart => exact ⟨hi, d, rfl, Nat.le_refl _, H6.out, rfl, H4.out, hside⟩
      case round =>
        clear H4 H6 hside
        obtain ⟨k, d2, rfl, hk1, hds2, hr2, hsat, hside⟩ := hrel
        match k, hk1, hr2 with
        | 0, hk1, hr2 =>
          have hr3 : d2 = heapPop ltInt a hi d := hr2
          have Hr3 := SL.hid hr3
          clear hr2 hr3
          go_wp2_with fail
          go_end0
          exact ⟨rfl, by rw [← Hb.out, ← Hr3.out]; exact hsat, hside⟩
        | k + 1, hk1, hr2 =>
          have hr3 : heapPop ltInt a k (siftDown ltInt k a 0 (swp d2 a (a + k))) = heapPop ltInt a hi d := hr2
          have hkm : (((k + 1 : Nat) : Int) - 1) = (k : Int) := by omega
          rw [hkm]
          obtain ⟨ak, hak⟩ : ∃ x, x = a + k := ⟨_, rfl⟩
          rw [← hak] at hr3
          have s11 : (a : Int) + (k : Int) = (ak : Int) := by omega
          have s12 : IntKind.i64.wrap ((a : Int) + (k : Int)) = (ak : Int) := by rw [IntKind.wrap_i64]; omega
          have s13 : IntKind.i64.wrap (ak : Int) = (ak : Int) := by rw [IntKind.wrap_i64]; omega
          have k0 : (0 : Int) ≤ (k : Int) := by omega
          have b1 : (ak : Int) < (d0.size : Int) := by have := Hhi.out; omega
          have b2 : (a : Int) < (d0.size : Int) := by omega
          have hds3 : (swp d2 a ak).size = d0.size := by rw [← hds2]; simp [swp]
          have hds4 : (siftDown ltInt k a 0 (swp d2 a ak)).size = d0.size := by rw [sift_size _ _ _ (k - 0) _ _ (Nat.le_refl _)]; exact hds3
          have H3 := SL.hid hr3; have H6 := SL.hid hds2; have H7 := SL.hid hds3; have H8 := SL.hid hds4; have H4 := SL.hid hsat; have Hak := SL.hid hak
          clear hr2 hr3 hds2 hds3 hds4 hsat hak hkm
          obtain ⟨ci, cj, fi, fj, ⟨v, hv⟩, fj2, hs⟩ := uA_swp H4.out (i := a) (j := ak) (by rw [H6.out]; omega) (by rw [H6.out]; have := Hak.out; have := Hhi.out; omega)
          generalize d2[a]! = da at *
          generalize d2[ak]! = dk at *
          have H1 := SL.hid hs
          clear hs
          go_wp2_with fail
          go_region_law (fail)
          all_goals
            have hsf := sift_any g (swp d2 a ak) 0 k a cap tl _ F (H1.out.drew) (by omega) (by rw [H7.out]; have := Hhi.out; omega) (by rw [H7.out]; exact hsz) (by rw [H7.out]; exact hcap)
            rw [H7.out, show ((0 : Nat) : Int) = 0 from rfl] at hsf
            go_wp2_with fail
            (with_reducible refine hsf.mono ?_)
            rintro e w9 ⟨rfl, h9, d9⟩
            have H9 := SL.hid h9
            have D9 := (((hside.setCell ⟨g, a, none⟩ (.int .u32 dk)).setCell ⟨g, ak, none⟩ (.int .u32 da)).drew).trans d9
            clear hsf h9 d9
            go_wp2_with fail
            go_roundw
            case rel => first | exact ⟨k, siftDown ltInt k a 0 (swp d2 a ak), rfl, by omega, H8.out, H3.out, H9.out, D9⟩ | ((repeat apply Exists.intro); exact ⟨⟨k, siftDown ltInt k a 0 (swp d2 a ak), rfl, by omega, H8.out, H3.out, H9.out, D9⟩, rfl⟩)
            case measure => simp [intOf] <;> omega
    | k + 1, hk1, hk2, hr =>
      have hr3 : heapBuild ltInt hi a k (siftDown ltInt hi a k d) = heapBuild ltInt hi a ((hi - 1) / 2 + 1) d0 := hr
      have hkm : (((k + 1 : Nat) : Int) - 1) = (k : Int) := by omega
      rw [hkm]
      have k0 : (0 : Int) ≤ (k : Int) := by omega
      have hkb : (k : Int) ≤ 1000000000 := by omega
      have hds4 : (siftDown ltInt hi a k d).size = d0.size := by rw [sift_size _ _ _ (hi - k) _ _ (Nat.le_refl _)]; exact hds
      have hsf := sift_any g d k hi a cap tl wr F hsat (by omega) (by rw [hds]; have := Hhi.out; omega) (by rw [hds]; exact hsz) (by rw [hds]; exact hcap)
      rw [hds] at hsf
      have H3 := SL.hid hr3; have H8 := SL.hid hds4
      clear hr hr3 hds hds4 hsat hkm hk2
      go_wp2_with fail
      (with_reducible refine hsf.mono ?_)
      rintro e w9 ⟨rfl, h9, d9⟩
      have H9 := SL.hid h9
      have D9 := hside.trans d9
      clear hsf h9 d9
      go_wp2_with fail
      go_roundw
      case rel => exact ⟨k, siftDown ltInt hi a k d, rfl, by omega, by omega, H8.out, H3.out, H9.out, D9⟩
      case measure => simp [intOf] <;> omega
end Go.Proofs.YtlfooilcngjeiaaGreat

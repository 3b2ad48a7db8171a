/- The sort of uint32: reverseRange, insertionSort. -/
import Derived.Test.YtlfooilcngjeiaaGreatSp
import Derived.Deep.RegionHeld3
namespace Go.Proofs.YtlfooilcngjeiaaGreat
set_option linter.unusedVariables false
set_option linter.unusedSimpArgs false
open Go.RowKit Go.SL Go.Sort
def RevRel (g : Nat) (d0 : Array Int) (a b : Nat) (tl : List Value) (F : Assn) (w : World) (u6 u7 : Value) (wr : World) : Prop :=
  ∃ (i j : Nat) (d : Array Int), u6 = .int .i64 (i : Int) ∧ u7 = .int .i64 (j : Int) ∧ d.size = d0.size ∧ j < d0.size ∧ i ≤ d0.size ∧ reverseLoop i j d = reverseRange d0 a b ∧ Sat wr (uA g d tl * F) ∧ Side w wr
set_option maxRecDepth 100000 in
set_option maxHeartbeats 2000000 in
theorem reverse_any (g : Nat) (d0 : Array Int) (a b cap : Nat) (tl : List Value) (w : World) (F : Assn) (h : Sat w (uA g d0 tl * F)) (hab : a < b) (hb : b ≤ d0.size) (hsz : d0.size ≤ 1000000000) (hcap : d0.size ≤ cap) :
    Calls Tryz.prog 100 #[.slice (some ⟨g, 0, none⟩) d0.size cap, .int .i64 (a : Int), .int .i64 (b : Int)] w (ArrQ g (reverseRange d0 a b) tl F w) := by
  have e1 : (b : Int) - 1 = ((b - 1 : Nat) : Int) := by omega
  have hb1 : (1 : Int) ≤ (b : Int) := by omega
  have hb2 : (b : Int) ≤ 1000000000 := by omega
  have E1 := SL.hid e1
  clear e1
  go_enter Tryz.func100, Tryz.ntmps100
  go_wp2_with fail
  go_loopw [6, 7] (fun u6 u7 wr => RevRel g d0 a b tl F w u6 u7 wr) (fun u6 u7 _ => (intOf u7).toNat - (intOf u6).toNat)
  case atStart => exact ⟨a, b - 1, d0, rfl, by rw [E1.out], rfl, by omega, by omega, rfl, h, Side.refl w⟩
  case round =>
    clear h
    obtain ⟨i, j, d, rfl, rfl, hds, hj, hi, hr, hsat, hside⟩ := hrel
    by_cases hlt : i < j
    · have hlt' : (i : Int) < (j : Int) := by omega
      have hj' : (j : Int) < (d0.size : Int) := by omega
      have hi' : (i : Int) < (d0.size : Int) := by omega
      have hs' : (d0.size : Int) ≤ 1000000000 := by omega
      obtain ⟨ci, cj, fi, fj, ⟨v, hv⟩, fj2, hs⟩ := uA_swp hsat (i := i) (j := j) (by omega) (by omega)
      have hr2 : reverseLoop (i + 1) (j - 1) (swp d i j) = reverseRange d0 a b := by rw [← hr, reverseLoop.eq_1 i j, if_pos hlt]
      have hds2 : (swp d i j).size = d0.size := by rw [← hds]; simp [swp]
      have e2 : (j : Int) - 1 = ((j - 1 : Nat) : Int) := by omega
      have H1 := SL.hid hs; have H2 := SL.hid hr2; have H3 := SL.hid hds2; have E2 := SL.hid e2
      clear hs hr2 hds2 hr hds hsat e2
      generalize d[i]! = di at *
      generalize d[j]! = dj at *
      go_wp2_with fail
      go_region_law (fail)
      all_goals
        go_wp2
        go_roundw
        case rel => exact ⟨i + 1, j - 1, swp d i j, by go_num, by rw [E2.out], H3.out, by omega, by omega, H2.out, H1.out.drew, ((hside.setCell _ _).setCell _ _).drew⟩
        case measure => simp [intOf]; omega
    · have hr2 : reverseLoop i j d = d := by rw [reverseLoop.eq_1, if_neg hlt]
      rw [hr2] at hr
      go_wp2_with fail
      go_end0
      exact ⟨rfl, by rw [← hr]; exact hsat, hside⟩
def InsRel (g : Nat) (d0 : Array Int) (a b : Nat) (tl : List Value) (F : Assn) (w : World) (u6 : Value) (wr : World) : Prop :=
  ∃ (i : Nat) (d : Array Int), u6 = .int .i64 (i : Int) ∧ a + 1 ≤ i ∧ i ≤ d0.size + 1 ∧ d.size = d0.size ∧ insOuter ltInt a b i d = insertionSort ltInt d0 a b ∧ Sat wr (uA g d tl * F) ∧ Side w wr
def InsRel2 (g : Nat) (d0 d1 : Array Int) (a i : Nat) (tl : List Value) (F : Assn) (w : World) (u7 : Value) (wr : World) : Prop :=
  ∃ (j : Nat) (d : Array Int), u7 = .int .i64 (j : Int) ∧ a ≤ j ∧ j ≤ i ∧ d.size = d0.size ∧ insInner ltInt a j d = insInner ltInt a i d1 ∧ Sat wr (uA g d tl * F) ∧ Side w wr
set_option maxRecDepth 100000 in
set_option maxHeartbeats 4000000 in
theorem insertion_any (g : Nat) (d0 : Array Int) (a b cap : Nat) (tl : List Value) (w : World) (F : Assn) (h : Sat w (uA g d0 tl * F)) (hab : a ≤ b) (hb : b ≤ d0.size) (hsz : d0.size ≤ 1000000000) (hcap : d0.size ≤ cap) :
    Calls Tryz.prog 96 #[.slice (some ⟨g, 0, none⟩) d0.size cap, .int .i64 (a : Int), .int .i64 (b : Int)] w (ArrQ g (insertionSort ltInt d0 a b) tl F w) := by
  have hs' : (d0.size : Int) ≤ 1000000000 := by omega
  have ha' : (a : Int) ≤ 1000000000 := by omega
  have hb' : (b : Int) ≤ (d0.size : Int) := by omega
  go_enter Tryz.func96, Tryz.ntmps96
  go_wp2_with fail
  go_loopw [6] (fun u6 wr => InsRel g d0 a b tl F w u6 wr) (fun u6 _ => b - (intOf u6).toNat)
  case atStart => exact ⟨a + 1, d0, by go_num, Nat.le_refl _, by omega, rfl, rfl, h, Side.refl w⟩
  case round =>
    clear h
    obtain ⟨i, d, rfl, hai, hin, hds, hr, hsat, hside⟩ := hrel
    by_cases hlt : i < b
    · have hlt' : (i : Int) < (b : Int) := by omega
      have hr0 : insOuter ltInt a b (i + 1) (insInner ltInt a i d) = insertionSort ltInt d0 a b := by rw [← hr]; exact (by rw [insOuter.eq_1 ltInt a b i, if_pos hlt])
      have Hr := SL.hid hr0
      clear hr hr0
      go_wp2_with fail
      have Hds := SL.hid hds
      have H0 := SL.hid hsat
      clear hds hsat
      go_loopw [7] (fun u7 wr => InsRel2 g d0 d a i tl F w u7 wr) (fun u7 _ => (intOf u7).toNat)
      case atStart => exact ⟨i, d, rfl, by omega, Nat.le_refl _, Hds.out, rfl, H0.out, hside⟩
      case round =>
        clear H0 hside
        obtain ⟨j, d2, rfl, haj, hji, hds2, hr2, hsat, hside⟩ := hrel
        by_cases haj2 : a < j
        · obtain ⟨k, hk⟩ : ∃ k, j = k + 1 := ⟨j - 1, by omega⟩
          have haj3 : (a : Int) < (j : Int) := by omega
          have hj1 : (j : Int) - 1 = (k : Int) := by omega
          have hj4 : IntKind.i64.wrap ((j : Int) - 1) = (k : Int) := by rw [IntKind.wrap_i64]; omega
          have hj5 : IntKind.i64.wrap (k : Int) = (k : Int) := by rw [IntKind.wrap_i64]; omega
          have hj2 : (j : Int) < (d0.size : Int) := by omega
          have hj3 : (k : Int) < (d0.size : Int) := by omega
          obtain ⟨ci, cj, fi, fj, ⟨v, hv⟩, fj2, hs⟩ := uA_swp hsat (i := j) (j := k) (by omega) (by omega)
          have hr3 : (if decide (j > a) && ltInt d2[j]! d2[k]! then insInner ltInt a k (swp d2 j k) else d2) = insInner ltInt a i d := by
            rw [← hr2]; subst hk; rw [insInner]
          have hds3 : (swp d2 j k).size = d0.size := by rw [← hds2]; simp [swp]
          have H2 := SL.hid hr3; have H3 := SL.hid hds3; have H4 := SL.hid hsat; have H5 := SL.hid hr2; have H6 := SL.hid hds2; have Hk := SL.hid hk
          clear hs hr2 hds2 hr3 hds3 hsat hk fi fj hv fj2
          generalize hdi : d2[j]! = di at *
          generalize hdj : d2[k]! = dj at *
          have Hdi := SL.hid hdi; have Hdj := SL.hid hdj
          clear hdi hdj
          have hgt : decide (j > a) = true := by simpa using haj2
          cases hlt2 : ltInt di dj with
          | true =>
            have H7 : Hid (insInner ltInt a k (swp d2 j k) = insInner ltInt a i d) := SL.hid (by have := H2.out; rwa [hgt, hlt2, if_pos (by decide)] at this)
            have HL : Hid (∀ w, Calls Tryz.prog 102 #[.int .u32 di, .int .u32 dj] w fun e w' => e = .returned (.bool true) ∧ w' = w) := SL.hid (fun w => by have := less_any di dj w; rwa [hlt2] at this)
            clear H2 H5 hgt hlt2
            go_wp2_with fail
            go_quiet ((go_at_call 102; exact Calls.quiet_of_same (HL.out _)))
            go_wp2_with fail
            have hside2 := hside.drewN nq
            obtain ⟨wq, hwq⟩ : ∃ wq, wr.drewN nq = wq := ⟨_, rfl⟩
            have H8 : Hid (Sat wq (uA g d2 tl * F)) := SL.hid (hwq ▸ H4.out.drew)
            rw [hwq] at hside2
            simp only [hwq]
            clear ci cj hwq
            obtain ⟨ci, cj, fi, fj, ⟨v, hv⟩, fj2, hs⟩ := uA_swp H8.out (i := j) (j := k) (by rw [H6.out]; omega) (by rw [H6.out]; omega)
            rw [Hdi.out] at ci hs
            rw [Hdj.out] at cj hv fj2 hs
            have H1 := SL.hid hs
            clear hs
            go_region_law (fail)
            all_goals
              go_wp2
              go_roundw
              case rel => exact ⟨k, swp d2 j k, rfl, by omega, by have := Hk.out; omega, H3.out, H7.out, H1.out.drew, ((hside2.setCell _ _).setCell _ _).drew⟩
              case measure => have := Hk.out; simp [intOf]; omega
          | false =>
            have H7 : Hid (insInner ltInt a i d = d2) := SL.hid (by have := H2.out; rw [hgt, hlt2, if_neg (by decide)] at this; exact this.symm)
            have HL : Hid (∀ w, Calls Tryz.prog 102 #[.int .u32 di, .int .u32 dj] w fun e w' => e = .returned (.bool false) ∧ w' = w) := SL.hid (fun w => by have := less_any di dj w; rwa [hlt2] at this)
            clear H2 H5 hgt hlt2
            go_wp2_with fail
            go_quiet ((go_at_call 102; exact Calls.quiet_of_same (HL.out _)))
            go_wp2_with fail
            go_roundw
            case rel => exact ⟨i + 1, d2, by go_num, by omega, by omega, H6.out, by rw [← H7.out]; exact Hr.out, H4.out.drew, hside.drewN nq⟩
            case measure => simp [intOf]; omega
        · have haj3 : ¬ (a : Int) < (j : Int) := by omega
          have hda : decide ((a : Int) < (j : Int)) = false := by simpa using haj3
          obtain rfl : j = a := by omega
          have hii : insInner ltInt j j d2 = d2 := by
            cases j with
            | zero => rfl
            | succ j => rw [insInner, if_neg (by simp)]
          rw [hii] at hr2
          have H7 := SL.hid hr2; have H4 := SL.hid hsat; have H6 := SL.hid hds2
          clear hr2 hsat hds2 hii
          go_wp2_with fail
          go_quiet (fail)
          go_wp2_with fail
          go_roundw
          case rel => exact ⟨i + 1, d2, by go_num, by omega, by omega, H6.out, by rw [H7.out]; exact Hr.out, H4.out.drew, hside.drewN nq⟩
          case measure => simp [intOf]; omega
    · have hr2 : insOuter ltInt a b i d = d := by rw [insOuter.eq_1, if_neg hlt]
      rw [hr2] at hr
      go_wp2_with fail
      go_end0
      exact ⟨rfl, by rw [← hr]; exact hsat, hside⟩
end Go.Proofs.YtlfooilcngjeiaaGreat

/- Steps towards the statement StoreC. -/
import Derived.Test.YtdafdidmbeecfaaGreatDoorStoreCP18
import Derived.Sort.AssemblyPlain
import Derived.Deep.QuietTactic
import Derived.BigQuiet
import Derived.IntWalk
import Derived.Deep.RegionHeld3
section
namespace Go.Proofs.YtdafdidmbeecfaaGreatDoor
set_option linter.unusedVariables false
set_option linter.unusedSimpArgs false
open Go.RowKit Go.SL Go.Sort
def uA (g : Nat) (d : Array Int) (tl : List Value) : Assn := pt g (.cells (d.toList.map (Value.int .u32) ++ tl).toArray 84 (0, 0))
section
variable {w : World} {g : Nat} {d : Array Int} {tl : List Value} {F : Assn}
theorem uA_cell (h : Sat w (uA g d tl * F)) {k : Nat} (hk : k < d.size) : w.cell? ⟨g, k, none⟩ = some (.int .u32 d[k]!) := by
 have := Sat.cell (show Sat w (pt g (.cells (d.toList.map (Value.int .u32) ++ tl).toArray 84 (0, 0)) * F) from h) k
 rw [this]
 have h1 : k < (d.toList.map (Value.int .u32)).length := by simpa using hk
 rw [List.getElem?_toArray, List.getElem?_append_left h1, List.getElem?_map]
 simp [hk]
theorem uA_frozen (h : Sat w (uA g d tl * F)) (k : Nat) : w.frozen? ⟨g, k, none⟩ = false :=
 Sat.frozen (show Sat w (pt g (.cells (d.toList.map (Value.int .u32) ++ tl).toArray 84 (0, 0)) * F) from h) k
theorem uA_set (h : Sat w (uA g d tl * F)) {k : Nat} (hk : k < d.size) (x : Int) : Sat (w.setCell ⟨g, k, none⟩ (.int .u32 x)) (uA g (d.setIfInBounds k x) tl * F) := by
 have := Sat.setCell (show Sat w (pt g (.cells (d.toList.map (Value.int .u32) ++ tl).toArray 84 (0, 0)) * F) from h) k (.int .u32 x)
 refine this.to ?_
 unfold uA
 congr 3
 have h1 : k < (d.toList.map (Value.int .u32)).length := by simpa using hk
 rw [List.setIfInBounds_toArray, List.set_append_left _ _ h1, Array.toList_setIfInBounds, List.map_set]
theorem uA_swp (h : Sat w (uA g d tl * F)) {i j : Nat} (hi : i < d.size) (hj : j < d.size) :
  w.cell? ⟨g, i, none⟩ = some (.int .u32 d[i]!) ∧ w.cell? ⟨g, j, none⟩ = some (.int .u32 d[j]!) ∧ w.frozen? ⟨g, i, none⟩ = false ∧ w.frozen? ⟨g, j, none⟩ = false ∧
  (∃ v, (w.setCell ⟨g, i, none⟩ (.int .u32 d[j]!)).cell? ⟨g, j, none⟩ = some v) ∧ (w.setCell ⟨g, i, none⟩ (.int .u32 d[j]!)).frozen? ⟨g, j, none⟩ = false ∧
  Sat ((w.setCell ⟨g, i, none⟩ (.int .u32 d[j]!)).setCell ⟨g, j, none⟩ (.int .u32 d[i]!)) (uA g (swp d i j) tl * F) := by
 have h1 := uA_set h hi d[j]!
 have h2 := uA_set h1 (k := j) (by simpa using hj) d[i]!
 exact ⟨uA_cell h hi, uA_cell h hj, uA_frozen h i, uA_frozen h j, ⟨_, uA_cell h1 (by simpa using hj)⟩, uA_frozen h1 j, h2⟩
end
def ArrQ (g : Nat) (d : Array Int) (tl : List Value) (F : Assn) (w : World) (e : Ending) (w' : World) : Prop := e = .returned (.tuple #[]) ∧ Sat w' (uA g d tl * F) ∧ Side w w'
theorem isNaN_any (x : Int) (w : World) : Calls Tryz.prog 158 #[.int .u32 x] w fun e w' => e = .returned (.bool false) ∧ w' = w := by
 go_enter Tryz.func158, Tryz.ntmps158
 go_wp2
 go_ret
 exact ⟨by simp, rfl⟩
theorem less_any (x y : Int) (w : World) : Calls Tryz.prog 148 #[.int .u32 x, .int .u32 y] w fun e w' => e = .returned (.bool (ltInt x y)) ∧ w' = w := by
 go_enter Tryz.func148, Tryz.ntmps148
 go_wp2_with (refine (isNaN_any _ _).mono ?_; rintro e w1 ⟨rfl, rfl⟩)
 go_ret
 exact ⟨rfl, rfl⟩
end Go.Proofs.YtdafdidmbeecfaaGreatDoor
end
section
namespace Go.Proofs.YtdafdidmbeecfaaGreatDoor
set_option linter.unusedVariables false
set_option linter.unusedSimpArgs false
open Go.RowKit Go.SL Go.Sort
def RevRel (g : Nat) (d0 : Array Int) (a b : Nat) (tl : List Value) (F : Assn) (w : World) (u6 u7 : Value) (wr : World) : Prop :=
 ∃ (i j : Nat) (d : Array Int), u6 = .int .i64 (i : Int) ∧ u7 = .int .i64 (j : Int) ∧ d.size = d0.size ∧ j < d0.size ∧ i ≤ d0.size ∧ reverseLoop i j d = reverseRange d0 a b ∧ Sat wr (uA g d tl * F) ∧ Side w wr
set_option maxRecDepth 100000 in
set_option maxHeartbeats 2000000 in
theorem reverse_any (g : Nat) (d0 : Array Int) (a b cap : Nat) (tl : List Value) (w : World) (F : Assn) (h : Sat w (uA g d0 tl * F)) (hab : a < b) (hb : b ≤ d0.size) (hsz : d0.size ≤ 1000000000) (hcap : d0.size ≤ cap) :
  Calls Tryz.prog 146 #[.slice (some ⟨g, 0, none⟩) d0.size cap, .int .i64 (a : Int), .int .i64 (b : Int)] w (ArrQ g (reverseRange d0 a b) tl F w) := by
 have e1 : (b : Int) - 1 = ((b - 1 : Nat) : Int) := by omega
 have hb1 : (1 : Int) ≤ (b : Int) := by omega
 have hb2 : (b : Int) ≤ 1000000000 := by omega
 have E1 := SL.hid e1
 clear e1
 go_enter Tryz.func146, Tryz.ntmps146
 go_wp2_with fail
 go_loopw [6, 7] (fun u6 u7 wr => RevRel g d0 a b tl F w u6 u7 wr) (fun u6 u7 _ => (intOf u7).toNat - (intOf u6).toNat)
 case atStart => exact ⟨a, b - 1, d0, rfl, by rw [E1.out], rfl, by omega, by omega, rfl, h, Side.refl w⟩
 case round =>
  clear h
  obtain ⟨i, j, d, rfl, rfl, hds, hj, hi, hr, hsat, hside⟩ := hrel
  by_cases hlt : i < j
  ·have hlt' : (i : Int) < (j : Int) := by omega
   have hj' : (j : Int) < (d0.size : Int) := by omega
   have hi' : (i : Int) < (d0.size : Int) := by omega
   have hs' : (d0.size : Int) ≤ 1000000000 := by omega
   obtain ⟨ci, cj, fi, fj, ⟨v, hv⟩, fj2, hs⟩ := uA_swp hsat (i := i) (j := j) (by omega) (by omega)
   have hr2 : reverseLoop (i + 1) (j - 1) (swp d i j) = reverseRange d0 a b := by rw [← hr, reverseLoop.eq_1 i j, if_pos hlt]
   have hds2 : (swp d i j).size = d0.size := by rw [← hds]; simp [swp]
   have e2 : (j : Int) - 1 = ((j - 1 : Nat) : Int) := by omega
   have H1 := SL.hid hs; have H2 := SL.hid hr2; have H3 := SL.hid hds2; have E2 := SL.hid e2
   clear hs hr2 hds2 hr hds hsat e2
   generalize d[i]! = di at *
   generalize d[j]! = dj at *
   go_wp2_with fail
   go_region_law (fail)
   all_goals
    go_wp2
    go_roundw
    case rel => exact ⟨i + 1, j - 1, swp d i j, by go_num, by rw [E2.out], H3.out, by omega, by omega, H2.out, H1.out.drew, ((hside.setCell _ _).setCell _ _).drew⟩
    case measure => simp [intOf]; omega
  ·have hr2 : reverseLoop i j d = d := by rw [reverseLoop.eq_1, if_neg hlt]
   rw [hr2] at hr
   go_wp2_with fail
   go_end0
   exact ⟨rfl, by rw [← hr]; exact hsat, hside⟩
def InsRel (g : Nat) (d0 : Array Int) (a b : Nat) (tl : List Value) (F : Assn) (w : World) (u6 : Value) (wr : World) : Prop :=
 ∃ (i : Nat) (d : Array Int), u6 = .int .i64 (i : Int) ∧ a + 1 ≤ i ∧ i ≤ d0.size + 1 ∧ d.size = d0.size ∧ insOuter ltInt a b i d = insertionSort ltInt d0 a b ∧ Sat wr (uA g d tl * F) ∧ Side w wr
def InsRel2 (g : Nat) (d0 d1 : Array Int) (a i : Nat) (tl : List Value) (F : Assn) (w : World) (u7 : Value) (wr : World) : Prop :=
 ∃ (j : Nat) (d : Array Int), u7 = .int .i64 (j : Int) ∧ a ≤ j ∧ j ≤ i ∧ d.size = d0.size ∧ insInner ltInt a j d = insInner ltInt a i d1 ∧ Sat wr (uA g d tl * F) ∧ Side w wr
set_option maxRecDepth 100000 in
set_option maxHeartbeats 4000000 in
theorem insertion_any (g : Nat) (d0 : Array Int) (a b cap : Nat) (tl : List Value) (w : World) (F : Assn) (h : Sat w (uA g d0 tl * F)) (hab : a ≤ b) (hb : b ≤ d0.size) (hsz : d0.size ≤ 1000000000) (hcap : d0.size ≤ cap) :
  Calls Tryz.prog 142 #[.slice (some ⟨g, 0, none⟩) d0.size cap, .int .i64 (a : Int), .int .i64 (b : Int)] w (ArrQ g (insertionSort ltInt d0 a b) tl F w) := by
 have hs' : (d0.size : Int) ≤ 1000000000 := by omega
 have ha' : (a : Int) ≤ 1000000000 := by omega
 have hb' : (b : Int) ≤ (d0.size : Int) := by omega
 go_enter Tryz.func142, Tryz.ntmps142
 go_wp2_with fail
 go_loopw [6] (fun u6 wr => InsRel g d0 a b tl F w u6 wr) (fun u6 _ => b - (intOf u6).toNat)
 case atStart => exact ⟨a + 1, d0, by go_num, Nat.le_refl _, by omega, rfl, rfl, h, Side.refl w⟩
 case round =>
  clear h
  obtain ⟨i, d, rfl, hai, hin, hds, hr, hsat, hside⟩ := hrel
  by_cases hlt : i < b
  ·have hlt' : (i : Int) < (b : Int) := by omega
   have hr0 : insOuter ltInt a b (i + 1) (insInner ltInt a i d) = insertionSort ltInt d0 a b := by rw [← hr]; exact (by rw [insOuter.eq_1 ltInt a b i, if_pos hlt])
   have Hr := SL.hid hr0
   clear hr hr0
   go_wp2_with fail
   have Hds := SL.hid hds
   have H0 := SL.hid hsat
   clear hds hsat
   go_loopw [7] (fun u7 wr => InsRel2 g d0 d a i tl F w u7 wr) (fun u7 _ => (intOf u7).toNat)
   case atStart => exact ⟨i, d, rfl, by omega, Nat.le_refl _, Hds.out, rfl, H0.out, hside⟩
   case round =>
    clear H0 hside
    obtain ⟨j, d2, rfl, haj, hji, hds2, hr2, hsat, hside⟩ := hrel
    by_cases haj2 : a < j
    ·obtain ⟨k, hk⟩ : ∃ k, j = k + 1 := ⟨j - 1, by omega⟩
     have haj3 : (a : Int) < (j : Int) := by omega
     have hj1 : (j : Int) - 1 = (k : Int) := by omega
     have hj4 : IntKind.i64.wrap ((j : Int) - 1) = (k : Int) := by rw [IntKind.wrap_i64]; omega
     have hj5 : IntKind.i64.wrap (k : Int) = (k : Int) := by rw [IntKind.wrap_i64]; omega
     have hj2 : (j : Int) < (d0.size : Int) := by omega
     have hj3 : (k : Int) < (d0.size : Int) := by omega
     obtain ⟨ci, cj, fi, fj, ⟨v, hv⟩, fj2, hs⟩ := uA_swp hsat (i := j) (j := k) (by omega) (by omega)
     have hr3 : (if decide (j > a) && ltInt d2[j]! d2[k]! then insInner ltInt a k (swp d2 j k) else d2) = insInner ltInt a i d := by
      rw [← hr2]; subst hk; rw [insInner]
     have hds3 : (swp d2 j k).size = d0.size := by rw [← hds2]; simp [swp]
     have H2 := SL.hid hr3; have H3 := SL.hid hds3; have H4 := SL.hid hsat; have H5 := SL.hid hr2; have H6 := SL.hid hds2; have Hk := SL.hid hk
     clear hs hr2 hds2 hr3 hds3 hsat hk fi fj hv fj2
     generalize hdi : d2[j]! = di at *
     generalize hdj : d2[k]! = dj at *
     have Hdi := SL.hid hdi; have Hdj := SL.hid hdj
     clear hdi hdj
     have hgt : decide (j > a) = true := by simpa using haj2
     cases hlt2 : ltInt di dj with
     | true =>
      have H7 : Hid (insInner ltInt a k (swp d2 j k) = insInner ltInt a i d) := SL.hid (by have := H2.out; rwa [hgt, hlt2, if_pos (by decide)] at this)
      have HL : Hid (∀ w, Calls Tryz.prog 148 #[.int .u32 di, .int .u32 dj] w fun e w' => e = .returned (.bool true) ∧ w' = w) := SL.hid (fun w => by have := less_any di dj w; rwa [hlt2] at this)
      clear H2 H5 hgt hlt2
      go_wp2_with fail
      go_quiet ((go_at_call 148; exact Calls.quiet_of_same (HL.out _)))
      go_wp2_with fail
      have hside2 := hside.drewN nq
      obtain ⟨wq, hwq⟩ : ∃ wq, wr.drewN nq = wq := ⟨_, rfl⟩
      have H8 : Hid (Sat wq (uA g d2 tl * F)) := SL.hid (hwq ▸ H4.out.drew)
      rw [hwq] at hside2
      simp only [hwq]
      clear ci cj hwq
      obtain ⟨ci, cj, fi, fj, ⟨v, hv⟩, fj2, hs⟩ := uA_swp H8.out (i := j) (j := k) (by rw [H6.out]; omega) (by rw [H6.out]; omega)
      rw [Hdi.out] at ci hs
      rw [Hdj.out] at cj hv fj2 hs
      have H1 := SL.hid hs
      clear hs
      go_region_law (fail)
      all_goals
       go_wp2
       go_roundw
       case rel => exact ⟨k, swp d2 j k, rfl, by omega, by have := Hk.out; omega, H3.out, H7.out, H1.out.drew, ((hside2.setCell _ _).setCell _ _).drew⟩
       case measure => have := Hk.out; simp [intOf]; omega
     | false =>
      have H7 : Hid (insInner ltInt a i d = d2) := SL.hid (by have := H2.out; rw [hgt, hlt2, if_neg (by decide)] at this; exact this.symm)
      have HL : Hid (∀ w, Calls Tryz.prog 148 #[.int .u32 di, .int .u32 dj] w fun e w' => e = .returned (.bool false) ∧ w' = w) := SL.hid (fun w => by have := less_any di dj w; rwa [hlt2] at this)
      clear H2 H5 hgt hlt2
      go_wp2_with fail
      go_quiet ((go_at_call 148; exact Calls.quiet_of_same (HL.out _)))
      go_wp2_with fail
      go_roundw
      case rel => exact ⟨i + 1, d2, by go_num, by omega, by omega, H6.out, by rw [← H7.out]; exact Hr.out, H4.out.drew, hside.drewN nq⟩
      case measure => simp [intOf]; omega
    ·have haj3 : ¬ (a : Int) < (j : Int) := by omega
     have hda : decide ((a : Int) < (j : Int)) = false := by simpa using haj3
     obtain rfl : j = a := by omega
     have hii : insInner ltInt j j d2 = d2 := by
      cases j with
      | zero => rfl
      | succ j => rw [insInner, if_neg (by simp)]
     rw [hii] at hr2
     have H7 := SL.hid hr2; have H4 := SL.hid hsat; have H6 := SL.hid hds2
     clear hr2 hsat hds2 hii
     go_wp2_with fail
     go_quiet (fail)
     go_wp2_with fail
     go_roundw
     case rel => exact ⟨i + 1, d2, by go_num, by omega, by omega, H6.out, by rw [H7.out]; exact Hr.out, H4.out.drew, hside.drewN nq⟩
     case measure => simp [intOf]; omega
  ·have hr2 : insOuter ltInt a b i d = d := by rw [insOuter.eq_1, if_neg hlt]
   rw [hr2] at hr
   go_wp2_with fail
   go_end0
   exact ⟨rfl, by rw [← hr]; exact hsat, hside⟩
end Go.Proofs.YtdafdidmbeecfaaGreatDoor
end
section
namespace Go.Proofs.YtdafdidmbeecfaaGreatDoor
set_option linter.unusedVariables false
set_option linter.unusedSimpArgs false
open Go.RowKit Go.SL Go.Sort
def SiftRel (g : Nat) (d0 : Array Int) (hi first lo : Nat) (tl : List Value) (F : Assn) (w : World) (u8 : Value) (wr : World) : Prop :=
 ∃ (root : Nat) (d : Array Int), u8 = .int .i64 (root : Int) ∧ root ≤ hi ∧ d.size = d0.size ∧ siftDown ltInt hi first root d = siftDown ltInt hi first lo d0 ∧ Sat wr (uA g d tl * F) ∧ Side w wr
theorem sift_stop {hi first root : Nat} {d : Array Int} (h : hi ≤ 2 * root + 1) : siftDown ltInt hi first root d = d := by rw [siftDown.eq_1, dif_pos h]
theorem sift_two {hi first root : Nat} {d : Array Int} (h : 2 * root + 2 < hi) (hl : ltInt d[first + (2 * root + 1)]! d[first + (2 * root + 2)]! = true) :
  siftDown ltInt hi first root d = if ltInt d[first + root]! d[first + (2 * root + 2)]! = true then siftDown ltInt hi first (2 * root + 2) (swp d (first + root) (first + (2 * root + 2))) else d := by
 rw [siftDown.eq_1, dif_neg (by omega), if_pos (by rw [show first + (2 * root + 1) + 1 = first + (2 * root + 2) by omega, hl]; simp; omega)]
 cases hc : ltInt d[first + root]! d[first + (2 * root + 2)]! with
 | true => simp [h]
 | false => simp
theorem sift_one {hi first root : Nat} {d : Array Int} (h0 : 2 * root + 1 < hi) (h : hi ≤ 2 * root + 2 ∨ ltInt d[first + (2 * root + 1)]! d[first + (2 * root + 2)]! = false) :
  siftDown ltInt hi first root d = if ltInt d[first + root]! d[first + (2 * root + 1)]! = true then siftDown ltInt hi first (2 * root + 1) (swp d (first + root) (first + (2 * root + 1))) else d := by
 rw [siftDown.eq_1, dif_neg (by omega), if_neg (by
  rw [show first + (2 * root + 1) + 1 = first + (2 * root + 2) by omega]
  rcases h with h | h
  ·simp; omega
  ·simp [h])]
 cases hc : ltInt d[first + root]! d[first + (2 * root + 1)]! with
 | true => simp
 | false => simp
set_option maxRecDepth 100000 in
set_option maxHeartbeats 4000000 in
theorem sift_any (g : Nat) (d0 : Array Int) (lo hi first cap : Nat) (tl : List Value) (w : World) (F : Assn) (h : Sat w (uA g d0 tl * F)) (hlo : lo ≤ hi) (hb : first + hi ≤ d0.size) (hsz : d0.size ≤ 1000000000) (hcap : d0.size ≤ cap) :
  Calls Tryz.prog 153 #[.slice (some ⟨g, 0, none⟩) d0.size cap, .int .i64 (lo : Int), .int .i64 (hi : Int), .int .i64 (first : Int)] w (ArrQ g (siftDown ltInt hi first lo d0) tl F w) := by
 have hs' : (d0.size : Int) ≤ 1000000000 := by omega
 have hhi : (hi : Int) ≤ 1000000000 := by omega
 have hfi : (first : Int) ≤ 1000000000 := by omega
 go_enter Tryz.func153, Tryz.ntmps153
 go_wp2_with fail
 go_loopw [8] (fun u8 wr => SiftRel g d0 hi first lo tl F w u8 wr) (fun u8 _ => hi - (intOf u8).toNat)
 case atStart => exact ⟨lo, d0, rfl, hlo, rfl, rfl, h, Side.refl w⟩
 case round =>
  clear h
  obtain ⟨root, d, rfl, hrh, hds, hr, hsat, hside⟩ := hrel
  have hro : (root : Int) ≤ 1000000000 := by omega
  by_cases hst : hi ≤ 2 * root + 1
  ·have hst' : (hi : Int) ≤ 2 * (root : Int) + 1 := by omega
   rw [sift_stop hst] at hr
   go_wp2_with fail
   go_end0
   exact ⟨rfl, by rw [← hr]; exact hsat, hside⟩
  ·have hst' : ¬ (hi : Int) ≤ 2 * (root : Int) + 1 := by omega
   obtain ⟨c1, hc1⟩ : ∃ c1, c1 = 2 * root + 1 := ⟨_, rfl⟩
   obtain ⟨f1, hf1⟩ : ∃ f1, f1 = first + c1 := ⟨_, rfl⟩
   obtain ⟨fr0, hfr0⟩ : ∃ x, x = first + root := ⟨_, rfl⟩
   have hcv : 2 * (root : Int) + 1 = (c1 : Int) := by omega
   have hcw : IntKind.i64.wrap (2 * (root : Int) + 1) = (c1 : Int) := by rw [IntKind.wrap_i64]; omega
   have s11 : (first : Int) + (c1 : Int) = (f1 : Int) := by omega
   have s12 : IntKind.i64.wrap ((first : Int) + (c1 : Int)) = (f1 : Int) := by rw [IntKind.wrap_i64]; omega
   have s13 : IntKind.i64.wrap (f1 : Int) = (f1 : Int) := by rw [IntKind.wrap_i64]; omega
   have s21 : (first : Int) + (root : Int) = (fr0 : Int) := by omega
   have s22 : IntKind.i64.wrap ((first : Int) + (root : Int)) = (fr0 : Int) := by rw [IntKind.wrap_i64]; omega
   have s23 : IntKind.i64.wrap (fr0 : Int) = (fr0 : Int) := by rw [IntKind.wrap_i64]; omega
   have b1 : (f1 : Int) < (d0.size : Int) := by omega
   have b2 : (fr0 : Int) < (d0.size : Int) := by omega
   have Hf1 := SL.hid hf1; have Hfr0 := SL.hid hfr0; have Hc1 := SL.hid hc1; have H6 := SL.hid hds; have H4 := SL.hid hsat; have H5 := SL.hid hr
   have k1 := uA_cell hsat (k := f1) (by omega)
   have k2 := uA_cell hsat (k := fr0) (by omega)
   have hrn : (if 2 * root + 2 < hi ∧ ltInt d[first + (2 * root + 1)]! d[first + (2 * root + 2)]! = true then (1 : Nat) else 0) = 0 ∨ True := .inr trivial
   clear hrn
   clear hf1 hfr0 hc1 hds hsat hr
   have hd1 : d[first + (2 * root + 1)]! = d[f1]! := by rw [Hf1.out, Hc1.out]
   have hdr : d[first + root]! = d[fr0]! := by rw [Hfr0.out]
   have Hd1 := SL.hid hd1; have Hdr0 := SL.hid hdr
   clear hd1 hdr
   by_cases hg : c1 + 1 < hi
   ·obtain ⟨c2, hc2⟩ : ∃ c2, c2 = c1 + 1 := ⟨_, rfl⟩
    obtain ⟨f2, hf2⟩ : ∃ f2, f2 = first + c2 := ⟨_, rfl⟩
    have s31 : (c1 : Int) + 1 = (c2 : Int) := by omega
    have s32 : IntKind.i64.wrap ((c1 : Int) + 1) = (c2 : Int) := by rw [IntKind.wrap_i64]; omega
    have s33 : IntKind.i64.wrap (c2 : Int) = (c2 : Int) := by rw [IntKind.wrap_i64]; omega
    have s41 : (first : Int) + (c2 : Int) = (f2 : Int) := by omega
    have s42 : IntKind.i64.wrap ((first : Int) + (c2 : Int)) = (f2 : Int) := by rw [IntKind.wrap_i64]; omega
    have s43 : IntKind.i64.wrap (f2 : Int) = (f2 : Int) := by rw [IntKind.wrap_i64]; omega
    have s51 : (f1 : Int) + 1 = (f2 : Int) := by omega
    have s52 : IntKind.i64.wrap ((f1 : Int) + 1) = (f2 : Int) := by rw [IntKind.wrap_i64]; omega
    have s53 : IntKind.i64.wrap (f2 : Int) = (f2 : Int) := by rw [IntKind.wrap_i64]; omega
    have b3 : (f2 : Int) < (d0.size : Int) := by omega
    have hg' : (c2 : Int) < (hi : Int) := by omega
    have k3 := uA_cell H4.out (k := f2) (by rw [H6.out]; omega)
    have Hc2 := SL.hid hc2; have Hf2 := SL.hid hf2
    have hd2 : d[first + (2 * root + 2)]! = d[f2]! := by rw [hf2, hc2, Hc1.out]
    have Hd2 := SL.hid hd2
    clear hd2 hc2 hf2
    generalize hx1 : d[f1]! = x1 at *
    generalize hx2 : d[f2]! = x2 at *
    generalize hxr : d[fr0]! = xr at *
    have Hx1 := SL.hid hx1; have Hx2 := SL.hid hx2; have Hxr := SL.hid hxr
    clear hx1 hx2 hxr
    cases hcmp : ltInt x1 x2 with
    | true =>
     have HL1 : Hid (∀ w, Calls Tryz.prog 148 #[.int .u32 x1, .int .u32 x2] w fun e w' => e = .returned (.bool true) ∧ w' = w) := SL.hid (fun w => by have := less_any x1 x2 w; rwa [hcmp] at this)
     have hst2 := sift_two (hi := hi) (first := first) (root := root) (d := d) (by have := Hc1.out; omega) (by rw [Hd1.out, Hd2.out]; exact hcmp)
     rw [H5.out, Hdr0.out, Hd2.out] at hst2
     have Hst2 := SL.hid hst2
     clear hst2 hcmp
     go_wp2_with fail
     go_quiet ((go_at_call 148; exact Calls.quiet_of_same (HL1.out _)))
     go_wp2_with fail
     obtain ⟨wq, hwq⟩ : ∃ x, wr.drewN nq = x := ⟨_, rfl⟩
     have Hq : Hid (Sat wq (uA g d tl * F)) := SL.hid (hwq ▸ H4.out.drew)
     have sq : Side w wq := hwq ▸ hside.drewN nq
     simp only [hwq]
     clear hwq k1 k2 k3
     have k2 := uA_cell Hq.out (k := fr0) (by rw [H6.out]; omega)
     rw [Hxr.out] at k2
     have k3 := uA_cell Hq.out (k := f2) (by rw [H6.out]; omega)
     rw [Hx2.out] at k3
     cases hcmp : ltInt xr x2 with
     | true =>
      have HL2 : Hid (∀ w, Calls Tryz.prog 148 #[.int .u32 xr, .int .u32 x2] w fun e w' => e = .returned (.bool true) ∧ w' = w) := SL.hid (fun w => by have := less_any xr x2 w; rwa [hcmp] at this)
      have h7 := Hst2.out
      rw [if_pos hcmp, show 2 * root + 2 = c2 by have := Hc1.out; have := Hc2.out; omega, ← Hfr0.out, ← Hf2.out] at h7
      have H7 := SL.hid h7.symm
      clear h7 hcmp
      have hds3 : (swp d fr0 f2).size = d0.size := by rw [← H6.out]; simp [swp]
      have H3 := SL.hid hds3
      clear hds3
      go_wp2_with fail
      go_quiet ((go_at_call 148; exact Calls.quiet_of_same (HL2.out _)))
      go_wp2_with fail
      obtain ⟨wz, hwq⟩ : ∃ x, wq.drewN nq = x := ⟨_, rfl⟩
      have Hz : Hid (Sat wz (uA g d tl * F)) := SL.hid (hwq ▸ Hq.out.drew)
      have sz : Side w wz := hwq ▸ sq.drewN nq
      simp only [hwq]
      clear hwq k2 k3
      obtain ⟨ci, cj, fi, fj, ⟨v, hv⟩, fj2, hs⟩ := uA_swp Hz.out (i := fr0) (j := f2) (by rw [H6.out]; omega) (by rw [H6.out]; omega)
      rw [Hxr.out] at ci hs
      rw [Hx2.out] at cj hv fj2 hs
      have H1 := SL.hid hs
      clear hs
      go_region_law (fail)
      all_goals
       go_wp2
       go_roundw
       case rel => exact ⟨c2, swp d fr0 f2, rfl, by omega, H3.out, H7.out, H1.out.drew, ((sz.setCell _ _).setCell _ _).drew⟩
       case measure => have := Hc1.out; simp [intOf]; omega
     | false =>
      have HL2 : Hid (∀ w, Calls Tryz.prog 148 #[.int .u32 xr, .int .u32 x2] w fun e w' => e = .returned (.bool false) ∧ w' = w) := SL.hid (fun w => by have := less_any xr x2 w; rwa [hcmp] at this)
      have h7 := Hst2.out
      rw [hcmp, if_neg (by decide)] at h7
      have H7 := SL.hid h7
      clear h7 hcmp
      go_wp2_with fail
      go_quiet ((go_at_call 148; exact Calls.quiet_of_same (HL2.out _)))
      go_wp2_with fail
      go_end0
      exact ⟨rfl, by rw [H7.out]; exact Hq.out.drew, sq.drewN nq⟩
    | false =>
     have HL1 : Hid (∀ w, Calls Tryz.prog 148 #[.int .u32 x1, .int .u32 x2] w fun e w' => e = .returned (.bool false) ∧ w' = w) := SL.hid (fun w => by have := less_any x1 x2 w; rwa [hcmp] at this)
     have hst2 := sift_one (hi := hi) (first := first) (root := root) (d := d) (by have := Hc1.out; omega) (.inr (by rw [Hd1.out, Hd2.out]; exact hcmp))
     rw [H5.out, Hdr0.out, Hd1.out] at hst2
     have Hst2 := SL.hid hst2
     clear hst2 hcmp
     go_wp2_with fail
     go_quiet ((go_at_call 148; exact Calls.quiet_of_same (HL1.out _)))
     go_wp2_with fail
     obtain ⟨wq, hwq⟩ : ∃ x, wr.drewN nq = x := ⟨_, rfl⟩
     have Hq : Hid (Sat wq (uA g d tl * F)) := SL.hid (hwq ▸ H4.out.drew)
     have sq : Side w wq := hwq ▸ hside.drewN nq
     simp only [hwq]
     clear hwq k1 k2 k3
     have k2 := uA_cell Hq.out (k := fr0) (by rw [H6.out]; omega)
     rw [Hxr.out] at k2
     have k1 := uA_cell Hq.out (k := f1) (by rw [H6.out]; omega)
     rw [Hx1.out] at k1
     cases hcmp : ltInt xr x1 with
     | true =>
      have HL2 : Hid (∀ w, Calls Tryz.prog 148 #[.int .u32 xr, .int .u32 x1] w fun e w' => e = .returned (.bool true) ∧ w' = w) := SL.hid (fun w => by have := less_any xr x1 w; rwa [hcmp] at this)
      have h7 := Hst2.out
      rw [if_pos hcmp, show 2 * root + 1 = c1 by have := Hc1.out; omega, ← Hfr0.out, ← Hf1.out] at h7
      have H7 := SL.hid h7.symm
      clear h7 hcmp
      have hds3 : (swp d fr0 f1).size = d0.size := by rw [← H6.out]; simp [swp]
      have H3 := SL.hid hds3
      clear hds3
      go_wp2_with fail
      go_quiet ((go_at_call 148; exact Calls.quiet_of_same (HL2.out _)))
      go_wp2_with fail
      obtain ⟨wz, hwq⟩ : ∃ x, wq.drewN nq = x := ⟨_, rfl⟩
      have Hz : Hid (Sat wz (uA g d tl * F)) := SL.hid (hwq ▸ Hq.out.drew)
      have sz : Side w wz := hwq ▸ sq.drewN nq
      simp only [hwq]
      clear hwq k2 k1
      obtain ⟨ci, cj, fi, fj, ⟨v, hv⟩, fj2, hs⟩ := uA_swp Hz.out (i := fr0) (j := f1) (by rw [H6.out]; omega) (by rw [H6.out]; omega)
      rw [Hxr.out] at ci hs
      rw [Hx1.out] at cj hv fj2 hs
      have H1 := SL.hid hs
      clear hs
      go_region_law (fail)
      all_goals
       go_wp2
       go_roundw
       case rel => exact ⟨c1, swp d fr0 f1, rfl, by omega, H3.out, H7.out, H1.out.drew, ((sz.setCell _ _).setCell _ _).drew⟩
       case measure => have := Hc1.out; simp [intOf]; omega
     | false =>
      have HL2 : Hid (∀ w, Calls Tryz.prog 148 #[.int .u32 xr, .int .u32 x1] w fun e w' => e = .returned (.bool false) ∧ w' = w) := SL.hid (fun w => by have := less_any xr x1 w; rwa [hcmp] at this)
      have h7 := Hst2.out
      rw [hcmp, if_neg (by decide)] at h7
      have H7 := SL.hid h7
      clear h7 hcmp
      go_wp2_with fail
      go_quiet ((go_at_call 148; exact Calls.quiet_of_same (HL2.out _)))
      go_wp2_with fail
      go_end0
      exact ⟨rfl, by rw [H7.out]; exact Hq.out.drew, sq.drewN nq⟩
   ·have hst2 := sift_one (hi := hi) (first := first) (root := root) (d := d) (by have := Hc1.out; omega) (.inl (by have := Hc1.out; omega))
    obtain ⟨c2, hc2⟩ : ∃ c2, c2 = c1 + 1 := ⟨_, rfl⟩
    have s31 : (c1 : Int) + 1 = (c2 : Int) := by omega
    have s32 : IntKind.i64.wrap ((c1 : Int) + 1) = (c2 : Int) := by rw [IntKind.wrap_i64]; omega
    have s33 : IntKind.i64.wrap (c2 : Int) = (c2 : Int) := by rw [IntKind.wrap_i64]; omega
    have hg' : ¬ (c2 : Int) < (hi : Int) := by omega
    have hg2 : decide (c2 < hi) = false := decide_eq_false (by omega)
    generalize hx1 : d[f1]! = x1 at *
    generalize hxr : d[fr0]! = xr at *
    have Hx1 := SL.hid hx1; have Hxr := SL.hid hxr
    rw [H5.out, Hdr0.out, Hd1.out] at hst2
    have Hst2 := SL.hid hst2
    clear hst2 hx1 hxr hc2
    go_wp2_with fail
    go_quiet (fail)
    go_wp2_with fail
    obtain ⟨wq, hwq⟩ : ∃ x, wr.drewN nq = x := ⟨_, rfl⟩
    have Hq : Hid (Sat wq (uA g d tl * F)) := SL.hid (hwq ▸ H4.out.drew)
    have sq : Side w wq := hwq ▸ hside.drewN nq
    simp only [hwq]
    clear hwq k1 k2
    have k2 := uA_cell Hq.out (k := fr0) (by rw [H6.out]; omega)
    rw [Hxr.out] at k2
    have k1 := uA_cell Hq.out (k := f1) (by rw [H6.out]; omega)
    rw [Hx1.out] at k1
    cases hcmp : ltInt xr x1 with
    | true =>
     have HL2 : Hid (∀ w, Calls Tryz.prog 148 #[.int .u32 xr, .int .u32 x1] w fun e w' => e = .returned (.bool true) ∧ w' = w) := SL.hid (fun w => by have := less_any xr x1 w; rwa [hcmp] at this)
     have h7 := Hst2.out
     rw [if_pos hcmp, show 2 * root + 1 = c1 by have := Hc1.out; omega, ← Hfr0.out, ← Hf1.out] at h7
     have H7 := SL.hid h7.symm
     clear h7 hcmp
     have hds3 : (swp d fr0 f1).size = d0.size := by rw [← H6.out]; simp [swp]
     have H3 := SL.hid hds3
     clear hds3
     go_wp2_with fail
     go_quiet ((go_at_call 148; exact Calls.quiet_of_same (HL2.out _)))
     go_wp2_with fail
     obtain ⟨wz, hwq⟩ : ∃ x, wq.drewN nq = x := ⟨_, rfl⟩
     have Hz : Hid (Sat wz (uA g d tl * F)) := SL.hid (hwq ▸ Hq.out.drew)
     have sz : Side w wz := hwq ▸ sq.drewN nq
     simp only [hwq]
     clear hwq k2 k1
     obtain ⟨ci, cj, fi, fj, ⟨v, hv⟩, fj2, hs⟩ := uA_swp Hz.out (i := fr0) (j := f1) (by rw [H6.out]; omega) (by rw [H6.out]; omega)
     rw [Hxr.out] at ci hs
     rw [Hx1.out] at cj hv fj2 hs
     have H1 := SL.hid hs
     clear hs
     go_region_law (fail)
     all_goals
      go_wp2
      go_roundw
      case rel => exact ⟨c1, swp d fr0 f1, rfl, by omega, H3.out, H7.out, H1.out.drew, ((sz.setCell _ _).setCell _ _).drew⟩
      case measure => have := Hc1.out; simp [intOf]; omega
    | false =>
     have HL2 : Hid (∀ w, Calls Tryz.prog 148 #[.int .u32 xr, .int .u32 x1] w fun e w' => e = .returned (.bool false) ∧ w' = w) := SL.hid (fun w => by have := less_any xr x1 w; rwa [hcmp] at this)
     have h7 := Hst2.out
     rw [hcmp, if_neg (by decide)] at h7
     have H7 := SL.hid h7
     clear h7 hcmp
     go_wp2_with fail
     go_quiet ((go_at_call 148; exact Calls.quiet_of_same (HL2.out _)))
     go_wp2_with fail
     go_end0
     exact ⟨rfl, by rw [H7.out]; exact Hq.out.drew, sq.drewN nq⟩
end Go.Proofs.YtdafdidmbeecfaaGreatDoor
namespace Go.Proofs.YtdafdidmbeecfaaGreatDoor
set_option linter.unusedVariables false
set_option linter.unusedSimpArgs false
open Go.RowKit Go.SL Go.Sort
def HpRel (g : Nat) (d0 : Array Int) (hi first : Nat) (tl : List Value) (F : Assn) (w : World) (u9 : Value) (wr : World) : Prop :=
 ∃ (k : Nat) (d : Array Int), u9 = .int .i64 ((k : Int) - 1) ∧ k ≤ hi + 1 ∧ (k = 0 ∨ k - 1 ≤ hi) ∧ d.size = d0.size ∧ heapBuild ltInt hi first k d = heapBuild ltInt hi first ((hi - 1) / 2 + 1) d0 ∧ Sat wr (uA g d tl * F) ∧ Side w wr
def HpRel2 (g : Nat) (d0 d1 : Array Int) (hi first : Nat) (tl : List Value) (F : Assn) (w : World) (u10 : Value) (wr : World) : Prop :=
 ∃ (k : Nat) (d : Array Int), u10 = .int .i64 ((k : Int) - 1) ∧ k ≤ hi ∧ d.size = d0.size ∧ heapPop ltInt first k d = heapPop ltInt first hi d1 ∧ Sat wr (uA g d tl * F) ∧ Side w wr
theorem sift_size (lt : Int → Int → Bool) (hi first : Nat) : ∀ (n root : Nat) (d : Array Int), hi - root ≤ n → (siftDown lt hi first root d).size = d.size := by
 intro n
 induction n with
 | zero => intro root d h; rw [siftDown.eq_1, dif_pos (by omega)]
 | succ n ih =>
  intro root d h
  rw [siftDown.eq_1]
  split
  ·rfl
  ·split
   ·split
    ·rfl
    ·split
     ·rw [ih _ _ (by omega)]; simp [swp]
     ·rfl
   ·split
    ·rfl
    ·rw [ih _ _ (by omega)]; simp [swp]
set_option maxRecDepth 100000 in
set_option maxHeartbeats 4000000 in
theorem heap_any (g : Nat) (d0 : Array Int) (a b cap : Nat) (tl : List Value) (w : World) (F : Assn) (h : Sat w (uA g d0 tl * F)) (hab : a + 1 ≤ b) (hb : b ≤ d0.size) (hsz : d0.size ≤ 1000000000) (hcap : d0.size ≤ cap) :
  Calls Tryz.prog 143 #[.slice (some ⟨g, 0, none⟩) d0.size cap, .int .i64 (a : Int), .int .i64 (b : Int)] w (ArrQ g (heapSort ltInt d0 a b) tl F w) := by
 have hs' : (d0.size : Int) ≤ 1000000000 := by omega
 have hb' : (b : Int) ≤ 1000000000 := by omega
 have ha' : (a : Int) ≤ 1000000000 := by omega
 obtain ⟨hi, hhi⟩ : ∃ hi, hi = b - a := ⟨_, rfl⟩
 have e1 : (b : Int) - (a : Int) = (hi : Int) := by omega
 have hh' : (hi : Int) ≤ 1000000000 := by omega
 have hh1 : (1 : Int) ≤ (hi : Int) := by omega
 have e2 : ((hi : Int) - 1) / 2 = (((hi - 1) / 2 + 1 : Nat) : Int) - 1 := by omega
 have e3 : ((hi : Int) - 1).tdiv 2 = (((hi - 1) / 2 + 1 : Nat) : Int) - 1 := by rw [Int.tdiv_eq_ediv_of_nonneg (by omega)]; exact e2
 have hres : heapSort ltInt d0 a b = heapPop ltInt a hi (heapBuild ltInt hi a ((hi - 1) / 2 + 1) d0) := by unfold heapSort; rw [hhi]
 rw [hres]
 have E2 := SL.hid e2; have E3 := SL.hid e3; have Hhi := SL.hid hhi
 clear e2 e3 hres hhi
 go_enter Tryz.func143, Tryz.ntmps143
 go_wp2_with fail
 go_loopw [9] (fun u9 wr => HpRel g d0 hi a tl F w u9 wr) (fun u9 _ => (intOf u9 + 1).toNat)
 case atStart => exact ⟨(hi - 1) / 2 + 1, d0, by first | rw [← E2.out] | rw [← E3.out], by omega, by omega, rfl, rfl, h, Side.refl w⟩
 case round =>
  clear h
  obtain ⟨k, d, rfl, hk1, hk2, hds, hr, hsat, hside⟩ := hrel
  match k, hk1, hk2, hr with
  | 0, hk1, hk2, hr =>
   have hr2 : d = heapBuild ltInt hi a ((hi - 1) / 2 + 1) d0 := hr
   have Hb := SL.hid hr2
   have H6 := SL.hid hds; have H4 := SL.hid hsat
   clear hr hr2 hds hsat hk2
   go_wp2_with fail
   go_loopw [10] (fun u10 wr => HpRel2 g d0 d hi a tl F w u10 wr) (fun u10 _ => (intOf u10 + 1).toNat)
   case atStart => exact ⟨hi, d, rfl, Nat.le_refl _, H6.out, rfl, H4.out, hside⟩
   case round =>
    clear H4 H6 hside
    obtain ⟨k, d2, rfl, hk1, hds2, hr2, hsat, hside⟩ := hrel
    match k, hk1, hr2 with
    | 0, hk1, hr2 =>
     have hr3 : d2 = heapPop ltInt a hi d := hr2
     have Hr3 := SL.hid hr3
     clear hr2 hr3
     go_wp2_with fail
     go_end0
     exact ⟨rfl, by rw [← Hb.out, ← Hr3.out]; exact hsat, hside⟩
    | k + 1, hk1, hr2 =>
     have hr3 : heapPop ltInt a k (siftDown ltInt k a 0 (swp d2 a (a + k))) = heapPop ltInt a hi d := hr2
     have hkm : (((k + 1 : Nat) : Int) - 1) = (k : Int) := by omega
     rw [hkm]
     obtain ⟨ak, hak⟩ : ∃ x, x = a + k := ⟨_, rfl⟩
     rw [← hak] at hr3
     have s11 : (a : Int) + (k : Int) = (ak : Int) := by omega
     have s12 : IntKind.i64.wrap ((a : Int) + (k : Int)) = (ak : Int) := by rw [IntKind.wrap_i64]; omega
     have s13 : IntKind.i64.wrap (ak : Int) = (ak : Int) := by rw [IntKind.wrap_i64]; omega
     have k0 : (0 : Int) ≤ (k : Int) := by omega
     have b1 : (ak : Int) < (d0.size : Int) := by have := Hhi.out; omega
     have b2 : (a : Int) < (d0.size : Int) := by omega
     have hds3 : (swp d2 a ak).size = d0.size := by rw [← hds2]; simp [swp]
     have hds4 : (siftDown ltInt k a 0 (swp d2 a ak)).size = d0.size := by rw [sift_size _ _ _ (k - 0) _ _ (Nat.le_refl _)]; exact hds3
     have H3 := SL.hid hr3; have H6 := SL.hid hds2; have H7 := SL.hid hds3; have H8 := SL.hid hds4; have H4 := SL.hid hsat; have Hak := SL.hid hak
     clear hr2 hr3 hds2 hds3 hds4 hsat hak hkm
     obtain ⟨ci, cj, fi, fj, ⟨v, hv⟩, fj2, hs⟩ := uA_swp H4.out (i := a) (j := ak) (by rw [H6.out]; omega) (by rw [H6.out]; have := Hak.out; have := Hhi.out; omega)
     generalize d2[a]! = da at *
     generalize d2[ak]! = dk at *
     have H1 := SL.hid hs
     clear hs
     go_wp2_with fail
     go_region_law (fail)
     all_goals
      have hsf := sift_any g (swp d2 a ak) 0 k a cap tl _ F (H1.out.drew) (by omega) (by rw [H7.out]; have := Hhi.out; omega) (by rw [H7.out]; exact hsz) (by rw [H7.out]; exact hcap)
      rw [H7.out, show ((0 : Nat) : Int) = 0 from rfl] at hsf
      go_wp2_with fail
      (with_reducible refine hsf.mono ?_)
      rintro e w9 ⟨rfl, h9, d9⟩
      have H9 := SL.hid h9
      have D9 := (((hside.setCell ⟨g, a, none⟩ (.int .u32 dk)).setCell ⟨g, ak, none⟩ (.int .u32 da)).drew).trans d9
      clear hsf h9 d9
      go_wp2_with fail
      go_roundw
      case rel => first | exact ⟨k, siftDown ltInt k a 0 (swp d2 a ak), rfl, by omega, H8.out, H3.out, H9.out, D9⟩ | ((repeat apply Exists.intro); exact ⟨⟨k, siftDown ltInt k a 0 (swp d2 a ak), rfl, by omega, H8.out, H3.out, H9.out, D9⟩, rfl⟩)
      case measure => simp [intOf] <;> omega
  | k + 1, hk1, hk2, hr =>
   have hr3 : heapBuild ltInt hi a k (siftDown ltInt hi a k d) = heapBuild ltInt hi a ((hi - 1) / 2 + 1) d0 := hr
   have hkm : (((k + 1 : Nat) : Int) - 1) = (k : Int) := by omega
   rw [hkm]
   have k0 : (0 : Int) ≤ (k : Int) := by omega
   have hkb : (k : Int) ≤ 1000000000 := by omega
   have hds4 : (siftDown ltInt hi a k d).size = d0.size := by rw [sift_size _ _ _ (hi - k) _ _ (Nat.le_refl _)]; exact hds
   have hsf := sift_any g d k hi a cap tl wr F hsat (by omega) (by rw [hds]; have := Hhi.out; omega) (by rw [hds]; exact hsz) (by rw [hds]; exact hcap)
   rw [hds] at hsf
   have H3 := SL.hid hr3; have H8 := SL.hid hds4
   clear hr hr3 hds hds4 hsat hkm hk2
   go_wp2_with fail
   (with_reducible refine hsf.mono ?_)
   rintro e w9 ⟨rfl, h9, d9⟩
   have H9 := SL.hid h9
   have D9 := hside.trans d9
   clear hsf h9 d9
   go_wp2_with fail
   go_roundw
   case rel => exact ⟨k, siftDown ltInt hi a k d, rfl, by omega, by omega, H8.out, H3.out, H9.out, D9⟩
   case measure => simp [intOf] <;> omega
end Go.Proofs.YtdafdidmbeecfaaGreatDoor
end
section
namespace Go.Proofs.YtdafdidmbeecfaaGreatDoor
set_option linter.unusedVariables false
set_option linter.unusedSimpArgs false
open Go.RowKit Go.SL Go.Sort
def swA (s n : Nat) : Assn := pt s (.cells #[.int .i64 (n : Int)] 3 (0, 0))
def OrdQ (g s : Nat) (d : Array Int) (r : Nat × Nat × Nat) (tl : List Value) (F : Assn) (w : World) (e : Ending) (w' : World) : Prop :=
 e = .returned (.tuple #[.int .i64 (r.1 : Int), .int .i64 (r.2.1 : Int)]) ∧ Sat w' (uA g d tl * (swA s r.2.2 * F)) ∧ Side w w'
set_option maxRecDepth 100000 in
set_option maxHeartbeats 2000000 in
theorem order2_any (g s : Nat) (d : Array Int) (a b n cap : Nat) (tl : List Value) (w : World) (F : Assn) (h : Sat w (uA g d tl * (swA s n * F))) (ha : a < d.size) (hb : b < d.size) (hsz : d.size ≤ 1000000000) (hcap : d.size ≤ cap) (hn : n ≤ 1000) :
  Calls Tryz.prog 159 #[.slice (some ⟨g, 0, none⟩) d.size cap, .int .i64 (a : Int), .int .i64 (b : Int), .pointer (some ⟨s, 0, none⟩)] w (OrdQ g s d (order2 ltInt d a b n) tl F w) := by
 have ha' : (a : Int) < (d.size : Int) := by omega
 have hb' : (b : Int) < (d.size : Int) := by omega
 have hn' : (n : Int) ≤ 1000 := by omega
 have ka := uA_cell h ha
 have kb := uA_cell h hb
 unfold order2
 generalize d[a]! = xa at *
 generalize d[b]! = xb at *
 have H4 := SL.hid h
 clear h
 cases hcmp : ltInt xb xa with
 | true =>
  have HL : Hid (∀ w, Calls Tryz.prog 148 #[.int .u32 xb, .int .u32 xa] w fun e w' => e = .returned (.bool true) ∧ w' = w) := SL.hid (fun w => by have := less_any xb xa w; rwa [hcmp] at this)
  rw [if_pos rfl]
  clear hcmp
  go_enter Tryz.func159, Tryz.ntmps159
  go_wp2_with fail
  go_quiet ((go_at_call 148; exact Calls.quiet_of_same (HL.out _)))
  obtain ⟨wq, hwq⟩ : ∃ x, w.drewN nq = x := ⟨_, rfl⟩
  have Hq : Sat wq (uA g d tl * (swA s n * F)) := hwq ▸ H4.out.drew
  have sq : Side w wq := hwq ▸ (Side.refl w).drewN nq
  simp only [hwq]
  clear hwq ka kb
  have ks : wq.cell? ⟨s, 0, none⟩ = some (.int .i64 (n : Int)) := (show Sat wq (pt s (.cells #[.int .i64 (n : Int)] 3 (0, 0)) * _) from Hq.front2).cell 0
  have fs : wq.frozen? ⟨s, 0, none⟩ = false := (show Sat wq (pt s (.cells #[.int .i64 (n : Int)] 3 (0, 0)) * _) from Hq.front2).frozen 0
  have h5 := (show Sat wq (pt s (.cells #[.int .i64 (n : Int)] 3 (0, 0)) * _) from Hq.front2).setCell 0 (.int .i64 ((n : Int) + 1))
  simp only [List.setIfInBounds_toArray, List.set_cons_zero] at h5
  have H5 := SL.hid h5.front2
  clear h5 Hq
  go_wp2_with fail
  go_ret2
  exact ⟨rfl, H5.out.to (by unfold swA; simp only [Int.natCast_add, Int.cast_ofNat_Int]), sq.setCell _ _⟩
 | false =>
  have HL : Hid (∀ w, Calls Tryz.prog 148 #[.int .u32 xb, .int .u32 xa] w fun e w' => e = .returned (.bool false) ∧ w' = w) := SL.hid (fun w => by have := less_any xb xa w; rwa [hcmp] at this)
  rw [if_neg (by decide)]
  clear hcmp
  go_enter Tryz.func159, Tryz.ntmps159
  go_wp2_with fail
  go_quiet ((go_at_call 148; exact Calls.quiet_of_same (HL.out _)))
  go_wp2_with fail
  go_ret2
  exact ⟨rfl, H4.out.drew, (Side.refl w).drewN nq⟩
theorem order2_range (d : Array Int) (a b n m : Nat) (ha : a < m) (hb : b < m) : (order2 ltInt d a b n).1 < m ∧ (order2 ltInt d a b n).2.1 < m ∧ (order2 ltInt d a b n).2.2 ≤ n + 1 := by
 unfold order2; split <;> simp [ha, hb]
def MedQ (g s : Nat) (d : Array Int) (r : Nat × Nat) (tl : List Value) (F : Assn) (w : World) (e : Ending) (w' : World) : Prop :=
 e = .returned (.int .i64 (r.1 : Int)) ∧ Sat w' (uA g d tl * (swA s r.2 * F)) ∧ Side w w'
set_option maxRecDepth 100000 in
set_option maxHeartbeats 2000000 in
theorem median_any (g s : Nat) (d : Array Int) (a b c n cap : Nat) (tl : List Value) (w : World) (F : Assn) (h : Sat w (uA g d tl * (swA s n * F))) (ha : a < d.size) (hb : b < d.size) (hc : c < d.size) (hsz : d.size ≤ 1000000000) (hcap : d.size ≤ cap) (hn : n ≤ 900) :
  Calls Tryz.prog 157 #[.slice (some ⟨g, 0, none⟩) d.size cap, .int .i64 (a : Int), .int .i64 (b : Int), .int .i64 (c : Int), .pointer (some ⟨s, 0, none⟩)] w (MedQ g s d (median ltInt d a b c n) tl F w) := by
 have c1 := order2_any g s d a b n cap tl w F h ha hb hsz hcap (by omega)
 obtain ⟨r11, r12, r13⟩ := order2_range d a b n d.size ha hb
 unfold median
 dsimp only
 generalize order2 ltInt d a b n = r1 at *
 obtain ⟨p1, q1, n1⟩ := r1
 dsimp only at r11 r12 r13 ⊢
 obtain ⟨r21, r22, r23⟩ := order2_range d q1 c n1 d.size r12 hc
 generalize hr2 : order2 ltInt d q1 c n1 = r2 at *
 obtain ⟨p2, q2, n2⟩ := r2
 dsimp only at r21 r22 r23 ⊢
 obtain ⟨r31, r32, r33⟩ := order2_range d p1 p2 n2 d.size r11 r21
 generalize hr3 : order2 ltInt d p1 p2 n2 = r3 at *
 obtain ⟨p3, q3, n3⟩ := r3
 dsimp only at r31 r32 r33 ⊢
 have Hr2 := SL.hid hr2; have Hr3 := SL.hid hr3
 clear hr2 hr3
 go_enter Tryz.func157, Tryz.ntmps157
 go_wp2_with fail
 (with_reducible refine c1.mono ?_)
 rintro e w1 ⟨rfl, h1, d1⟩
 have c2 := order2_any g s d q1 c n1 cap tl w1 F h1 r12 hc hsz hcap (by omega)
 rw [Hr2.out] at c2
 clear c1 h h1
 go_wp2_with fail
 (with_reducible refine c2.mono ?_)
 rintro e w2 ⟨rfl, h2, d2⟩
 have c3 := order2_any g s d p1 p2 n2 cap tl w2 F h2 r11 r21 hsz hcap (by omega)
 rw [Hr3.out] at c3
 clear c2 h2
 go_wp2_with fail
 (with_reducible refine c3.mono ?_)
 rintro e w3 ⟨rfl, h3, d3⟩
 clear c3
 go_wp2_with fail
 go_ret
 exact ⟨rfl, h3, (d1.trans d2).trans d3⟩
theorem median_range (d : Array Int) (a b c n m : Nat) (ha : a < m) (hb : b < m) (hc : c < m) : (median ltInt d a b c n).1 < m ∧ (median ltInt d a b c n).2 ≤ n + 3 := by
 unfold median
 dsimp only
 obtain ⟨r11, r12, r13⟩ := order2_range d a b n m ha hb
 generalize order2 ltInt d a b n = r1 at *
 obtain ⟨r21, r22, r23⟩ := order2_range d r1.2.1 c r1.2.2 m r12 hc
 generalize order2 ltInt d r1.2.1 c r1.2.2 = r2 at *
 obtain ⟨r31, r32, r33⟩ := order2_range d r1.1 r2.1 r2.2.2 m r11 r21
 exact ⟨r32, by omega⟩
set_option maxRecDepth 100000 in
theorem medianAdj_any (g s : Nat) (d : Array Int) (a n cap : Nat) (tl : List Value) (w : World) (F : Assn) (h : Sat w (uA g d tl * (swA s n * F))) (ha0 : 1 ≤ a) (ha : a + 1 < d.size) (hsz : d.size ≤ 1000000000) (hcap : d.size ≤ cap) (hn : n ≤ 900) :
  Calls Tryz.prog 156 #[.slice (some ⟨g, 0, none⟩) d.size cap, .int .i64 (a : Int), .pointer (some ⟨s, 0, none⟩)] w (MedQ g s d (medianAdjacent ltInt d a n) tl F w) := by
 have c1 := median_any g s d (a - 1) a (a + 1) n cap tl w F h (by omega) (by omega) ha hsz hcap hn
 unfold medianAdjacent
 generalize median ltInt d (a - 1) a (a + 1) n = r at *
 rw [show (((a - 1 : Nat) : Int)) = (a : Int) - 1 by omega, show ((a + 1 : Nat) : Int) = (a : Int) + 1 by omega] at c1
 have h1 : (1 : Int) ≤ (a : Int) := by omega
 have h2 : (a : Int) ≤ 1000000000 := by omega
 clear h
 go_enter Tryz.func156, Tryz.ntmps156
 go_wp2_with fail
 (with_reducible refine c1.mono ?_)
 rintro e w1 ⟨rfl, h1, d1⟩
 go_wp2_with fail
 go_ret
 exact ⟨rfl, h1, d1⟩
def hintN : Hint → Int
 | .unknown => 0
 | .increasing => 1
 | .decreasing => 2
def ChoQ (g : Nat) (d : Array Int) (r : Nat × Hint) (tl : List Value) (F : Assn) (w : World) (e : Ending) (w' : World) : Prop :=
 e = .returned (.tuple #[.int .i64 (r.1 : Int), .int .i64 (hintN r.2)]) ∧ Sat w' (uA g d tl * F) ∧ Side w w'
def hintOf (n : Nat) : Hint := if n = 0 then .increasing else if n = 12 then .decreasing else .unknown
theorem choose_big {d : Array Int} {a b l : Nat} (hl : l = b - a) (h8 : 8 ≤ l) (h50 : 50 ≤ l) (r1 r2 r3 r4 : Nat × Nat) (h1 : medianAdjacent ltInt d (a + l / 4 * 1) 0 = r1) (h2 : medianAdjacent ltInt d (a + l / 4 * 2) r1.2 = r2) (h3 : medianAdjacent ltInt d (a + l / 4 * 3) r2.2 = r3) (h4 : median ltInt d r1.1 r2.1 r3.1 r3.2 = r4) :
  choosePivot ltInt d a b = (r4.1, hintOf r4.2) := by
 subst hl
 unfold choosePivot
 simp only [ge_iff_le, h8, h50, if_true, h1, h2, h3, h4]
 rfl
theorem choose_mid {d : Array Int} {a b l : Nat} (hl : l = b - a) (h8 : 8 ≤ l) (h50 : ¬ 50 ≤ l) (r4 : Nat × Nat) (h4 : median ltInt d (a + l / 4 * 1) (a + l / 4 * 2) (a + l / 4 * 3) 0 = r4) :
  choosePivot ltInt d a b = (r4.1, hintOf r4.2) := by
 subst hl
 unfold choosePivot
 simp only [ge_iff_le, h8, h50, if_true, if_false, h4]
 rfl
theorem swA_new {w : World} {X : Assn} (h : Sat w X) : Sat (w.alloc (.cells #[.int .i64 0] 3 (0, 0))) (swA w.heap.size 0 * X) := h.alloc (.cells #[.int .i64 0] 3 (0, 0))
theorem swA_cell {w : World} {s n : Nat} {X : Assn} (h : Sat w (swA s n * X)) : w.cell? ⟨s, 0, none⟩ = some (.int .i64 (n : Int)) := Sat.cell (show Sat w (pt s (.cells #[.int .i64 (n : Int)] 3 (0, 0)) * X) from h) 0
set_option maxRecDepth 100000 in
set_option maxHeartbeats 4000000 in
theorem choose_any (g : Nat) (d : Array Int) (a b cap : Nat) (tl : List Value) (w : World) (F : Assn) (h : Sat w (uA g d tl * F)) (hab : a + 13 ≤ b) (hb : b ≤ d.size) (hsz : d.size ≤ 1000000000) (hcap : d.size ≤ cap) :
  Calls Tryz.prog 145 #[.slice (some ⟨g, 0, none⟩) d.size cap, .int .i64 (a : Int), .int .i64 (b : Int)] w (ChoQ g d (choosePivot ltInt d a b) tl F w) := by
 obtain ⟨l, hl⟩ : ∃ l, l = b - a := ⟨_, rfl⟩
 obtain ⟨q, hq⟩ : ∃ q, q = l / 4 := ⟨_, rfl⟩
 have hmb := @choose_big d a b l hl (by omega)
 have hmm := @choose_mid d a b l hl (by omega)
 rw [← hq] at hmb hmm
 have e0 : (b : Int) - (a : Int) = (l : Int) := by omega
 have e1 : (l : Int) / 4 = (q : Int) := by omega
 have e2 : (l : Int).tdiv 4 = (q : Int) := by rw [Int.tdiv_eq_ediv_of_nonneg (by omega)]; exact e1
 have l0 : (13 : Int) ≤ (l : Int) := by omega
 have l1 : (l : Int) ≤ 1000000000 := by omega
 have q1 : (q : Int) ≤ 250000000 := by omega
 have a1 : (a : Int) ≤ 1000000000 := by omega
 have b1 : (b : Int) ≤ 1000000000 := by omega
 obtain ⟨i, hi⟩ : ∃ i, i = a + q * 1 := ⟨_, rfl⟩
 obtain ⟨j, hj⟩ : ∃ j, j = a + q * 2 := ⟨_, rfl⟩
 obtain ⟨k, hk⟩ : ∃ k, k = a + q * 3 := ⟨_, rfl⟩
 rw [← hi, ← hj, ← hk] at hmb hmm
 have hi1 : (a : Int) + (q : Int) = (i : Int) := by omega
 have hj1 : (a : Int) + (q : Int) * 2 = (j : Int) := by omega
 have hk1 : (a : Int) + (q : Int) * 3 = (k : Int) := by omega
 have rk : 1 ≤ i ∧ i + 1 < d.size ∧ 1 ≤ j ∧ j + 1 < d.size ∧ 1 ≤ k ∧ k + 1 < d.size := by omega
 have hA := swA_new h
 have hsA := (Side.refl w).alloc (.cells #[.int .i64 0] 3 (0, 0))
 have Hb := SL.hid hmb; have Hm := SL.hid hmm; have Rk := SL.hid rk; have HA := SL.hid hA.front2; have HsA := SL.hid hsA
 clear hl hq hmb hmm hi hj hk rk h hA hsA hab hb
 by_cases h50 : 50 ≤ l
 ·have h50' : (50 : Int) ≤ (l : Int) := by omega
  have hb2 := Hb.out h50
  have hbb := hb2 _ _ _ _ rfl rfl rfl rfl
  have Hbb := SL.hid hbb
  clear hbb hb2
  obtain ⟨m1, m2⟩ := median_range d (i - 1) i (i + 1) 0 d.size (by have := Rk.out; omega) (by have := Rk.out; omega) (by have := Rk.out; omega)
  have x1 : (medianAdjacent ltInt d i 0).1 < d.size ∧ (medianAdjacent ltInt d i 0).2 ≤ 3 := ⟨m1, m2⟩
  clear m1 m2
  go_enter Tryz.func145, Tryz.ntmps145
  go_wp2_with fail
  generalize w.alloc (.cells #[.int .i64 0] 3 (0, 0)) = w1 at *
  generalize w.heap.size = s at *
  have c1 := medianAdj_any g s d i 0 cap tl w1 F HA.out Rk.out.1 Rk.out.2.1 hsz hcap (by omega)
  generalize medianAdjacent ltInt d i 0 = r1 at *
  obtain ⟨p1, n1⟩ := r1
  obtain ⟨x1, y1⟩ := x1
  dsimp only at x1 y1
  (with_reducible refine c1.mono ?_)
  rintro e w2 ⟨rfl, h2, d2⟩
  have H2 := SL.hid h2
  have D2 := HsA.out.trans d2
  clear c1 h2 d2 HA HsA
  have c2 := medianAdj_any g s d j n1 cap tl w2 F H2.out Rk.out.2.2.1 Rk.out.2.2.2.1 hsz hcap (by omega)
  obtain ⟨m1, m2⟩ := median_range d (j - 1) j (j + 1) n1 d.size (by have := Rk.out; omega) (by have := Rk.out; omega) (by have := Rk.out; omega)
  have x2 : (medianAdjacent ltInt d j n1).1 < d.size ∧ (medianAdjacent ltInt d j n1).2 ≤ n1 + 3 := ⟨m1, m2⟩
  clear m1 m2
  generalize medianAdjacent ltInt d j n1 = r2 at *
  obtain ⟨p2, n2⟩ := r2
  obtain ⟨x2, y2⟩ := x2
  dsimp only at x2 y2
  go_wp2_with fail
  (with_reducible refine c2.mono ?_)
  rintro e w3 ⟨rfl, h3, d3⟩
  have H3 := SL.hid h3
  have D3 := D2.trans d3
  clear c2 h3 d3 H2 D2
  have c3 := medianAdj_any g s d k n2 cap tl w3 F H3.out Rk.out.2.2.2.2.1 Rk.out.2.2.2.2.2 hsz hcap (by omega)
  obtain ⟨m1, m2⟩ := median_range d (k - 1) k (k + 1) n2 d.size (by have := Rk.out; omega) (by have := Rk.out; omega) (by have := Rk.out; omega)
  have x3 : (medianAdjacent ltInt d k n2).1 < d.size ∧ (medianAdjacent ltInt d k n2).2 ≤ n2 + 3 := ⟨m1, m2⟩
  clear m1 m2
  generalize medianAdjacent ltInt d k n2 = r3 at *
  obtain ⟨p3, n3⟩ := r3
  obtain ⟨x3, y3⟩ := x3
  dsimp only at x3 y3
  go_wp2_with fail
  (with_reducible refine c3.mono ?_)
  rintro e w4 ⟨rfl, h4, d4⟩
  have H4 := SL.hid h4
  have D4 := D3.trans d4
  clear c3 h4 d4 H3 D3
  have c4 := median_any g s d p1 p2 p3 n3 cap tl w4 F H4.out x1 x2 x3 hsz hcap (by omega)
  generalize median ltInt d p1 p2 p3 n3 = r4 at *
  obtain ⟨p4, n4⟩ := r4
  go_wp2_with fail
  (with_reducible refine c4.mono ?_)
  rintro e w5 ⟨rfl, h5, d5⟩
  have H5 := SL.hid h5
  have ks : w5.cell? ⟨s, 0, none⟩ = some (.int .i64 (n4 : Int)) := swA_cell h5.front2
  have D5 := D4.trans d5
  clear c4 h5 d5 H4 D4
  by_cases z0 : n4 = 0
  ·subst z0
   go_wp2_with fail
   go_ret2
   rw [Hbb.out]
   exact ⟨rfl, H5.out.drop2, D5⟩
  ·by_cases z1 : n4 = 12
   ·subst z1
    go_wp2_with fail
    go_ret2
    rw [Hbb.out]
    exact ⟨rfl, H5.out.drop2, D5⟩
   ·have z2 : ((n4 : Int) == 0) = false := by simpa using z0
    have z3 : ((n4 : Int) == 12) = false := by simp; omega
    have Hz : Hid (hintOf n4 = .unknown) := SL.hid (by unfold hintOf; rw [if_neg z0, if_neg z1])
    clear z0 z1
    go_wp2_with fail
    go_ret2
    rw [Hbb.out]
    exact ⟨by dsimp only; rw [Hz.out]; rfl, H5.out.drop2, D5⟩
 ·have h50' : ¬ (50 : Int) ≤ (l : Int) := by omega
  have hb2 := Hm.out h50
  have hbb := hb2 _ rfl
  have Hbb := SL.hid hbb
  clear hbb hb2
  go_enter Tryz.func145, Tryz.ntmps145
  go_wp2_with fail
  generalize w.alloc (.cells #[.int .i64 0] 3 (0, 0)) = w4 at *
  generalize w.heap.size = s at *
  have c4 := median_any g s d i j k 0 cap tl w4 F HA.out (by have := Rk.out; omega) (by have := Rk.out; omega) (by have := Rk.out; omega) hsz hcap (by omega)
  generalize median ltInt d i j k 0 = r4 at *
  obtain ⟨p4, n4⟩ := r4
  (with_reducible refine c4.mono ?_)
  rintro e w5 ⟨rfl, h5, d5⟩
  have H5 := SL.hid h5
  have ks : w5.cell? ⟨s, 0, none⟩ = some (.int .i64 (n4 : Int)) := swA_cell h5.front2
  have D5 := HsA.out.trans d5
  clear c4 h5 d5 HA HsA
  by_cases z0 : n4 = 0
  ·subst z0
   go_wp2_with fail
   go_ret2
   rw [Hbb.out]
   exact ⟨rfl, H5.out.drop2, D5⟩
  ·by_cases z1 : n4 = 12
   ·subst z1
    go_wp2_with fail
    go_ret2
    rw [Hbb.out]
    exact ⟨rfl, H5.out.drop2, D5⟩
   ·have z2 : ((n4 : Int) == 0) = false := by simpa using z0
    have z3 : ((n4 : Int) == 12) = false := by simp; omega
    have Hz : Hid (hintOf n4 = .unknown) := SL.hid (by unfold hintOf; rw [if_neg z0, if_neg z1])
    clear z0 z1
    go_wp2_with fail
    go_ret2
    rw [Hbb.out]
    exact ⟨by dsimp only; rw [Hz.out]; rfl, H5.out.drop2, D5⟩
end Go.Proofs.YtdafdidmbeecfaaGreatDoor
end

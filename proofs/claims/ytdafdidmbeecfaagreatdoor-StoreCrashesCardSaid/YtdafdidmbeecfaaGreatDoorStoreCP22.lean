/- Steps towards the statement StoreC. -/
import Derived.Test.YtdafdidmbeecfaaGreatDoorStoreCP19
import Derived.Deep.DeepCutAuto
import Derived.Deep.CutBlock
import Derived.Deep.CutRange
section
namespace Go.Proofs.YtdafdidmbeecfaaGreatDoor
set_option linter.unusedVariables false
set_option linter.unusedSimpArgs false
open Go.RowKit Go.SL Go.Sort
theorem ss_go {d : Array Int} {b i k : Nat} (h : i < b) (hk : i = k + 1) (hc : ltInt d[i]! d[k]! = false) : scanSorted ltInt d b i = scanSorted ltInt d b (i + 1) := by
 rw [scanSorted.eq_1, if_pos (by rw [show i - 1 = k by omega]; simp [h, hc])]
theorem ss_stop1 {d : Array Int} {b i : Nat} (h : ¬ i < b) : scanSorted ltInt d b i = i := by rw [scanSorted.eq_1]; simp [h]
theorem ss_stop2 {d : Array Int} {b i k : Nat} (hk : i = k + 1) (hc : ltInt d[i]! d[k]! = true) : scanSorted ltInt d b i = i := by
 rw [scanSorted.eq_1, if_neg (by rw [show i - 1 = k by omega]; simp [hc])]
theorem sdn_go {d : Array Int} {j k : Nat} (hk : j = k + 1) (hc : ltInt d[j]! d[k]! = true) : shiftDown ltInt j d = shiftDown ltInt k (swp d j k) := by subst hk; rw [shiftDown]; simp [hc]
theorem sdn_stop {d : Array Int} {j k : Nat} (hk : j = k + 1) (hc : ltInt d[j]! d[k]! = false) : shiftDown ltInt j d = d := by subst hk; rw [shiftDown]; simp [hc]
theorem sup_go {d : Array Int} {b j k : Nat} (h : j < b) (hk : j = k + 1) (hc : ltInt d[j]! d[k]! = true) : shiftUp ltInt b j d = shiftUp ltInt b (j + 1) (swp d j k) := by
 rw [shiftUp.eq_1, if_pos h, if_neg (by rw [show j - 1 = k by omega]; simp [hc]), show j - 1 = k by omega]
theorem sup_stop {d : Array Int} {b j k : Nat} (h : j < b) (hk : j = k + 1) (hc : ltInt d[j]! d[k]! = false) : shiftUp ltInt b j d = d := by
 rw [shiftUp.eq_1, if_pos h, if_pos (by rw [show j - 1 = k by omega]; simp [hc])]
theorem sup_end {d : Array Int} {b j : Nat} (h : ¬ j < b) : shiftUp ltInt b j d = d := by rw [shiftUp.eq_1, if_neg h]
theorem shiftDown_size : ∀ (j : Nat) (d : Array Int), (shiftDown ltInt j d).size = d.size
 | 0, d => by simp [shiftDown]
 | j + 1, d => by
  cases hc : ltInt d[j + 1]! d[j]! with
  | true => rw [sdn_go rfl hc, shiftDown_size j]; simp [swp]
  | false => rw [sdn_stop rfl hc]
theorem shiftUp_size (b : Nat) : ∀ (n j : Nat) (d : Array Int), b - j ≤ n → (shiftUp ltInt b (j + 1) d).size = d.size
 | 0, j, d, h => by rw [sup_end (by omega)]
 | n + 1, j, d, h => by
  by_cases hj : j + 1 < b
  ·cases hc : ltInt d[j + 1]! d[j]! with
   | true => rw [sup_go hj rfl hc, shiftUp_size b n (j + 1) _ (by omega)]; simp [swp]
   | false => rw [sup_stop hj rfl hc]
  ·rw [sup_end hj]
def SsRel (g : Nat) (d : Array Int) (b i0 : Nat) (tl : List Value) (F : Assn) (w : World) (u : Value) (wr : World) : Prop :=
 ∃ i : Nat, u = .int .i64 (i : Int) ∧ i0 ≤ i ∧ i ≤ b ∧ scanSorted ltInt d b i = scanSorted ltInt d b i0 ∧ Sat wr (uA g d tl * F) ∧ Side w wr
def SdRel (g : Nat) (d0 dR : Array Int) (j0 : Nat) (tl : List Value) (F : Assn) (w : World) (u : Value) (wr : World) : Prop :=
 ∃ (j : Nat) (d : Array Int), u = .int .i64 (j : Int) ∧ j ≤ j0 ∧ d.size = d0.size ∧ shiftDown ltInt j d = dR ∧ Sat wr (uA g d tl * F) ∧ Side w wr
def SuRel (g : Nat) (d0 dR : Array Int) (b j0 : Nat) (tl : List Value) (F : Assn) (w : World) (u : Value) (wr : World) : Prop :=
 ∃ (j : Nat) (d : Array Int), u = .int .i64 (j : Int) ∧ j0 ≤ j ∧ j ≤ b ∧ d.size = d0.size ∧ shiftUp ltInt b j d = dR ∧ Sat wr (uA g d tl * F) ∧ Side w wr
def PiQ (g : Nat) (R : Array Int × Bool) (tl : List Value) (F : Assn) (w : World) (e : Ending) (w' : World) : Prop := e = .returned (.bool R.2) ∧ Sat w' (uA g R.1 tl * F) ∧ Side w w'
def PiRel (g : Nat) (d0 : Array Int) (a b : Nat) (R : Array Int × Bool) (tl : List Value) (F : Assn) (w : World) (u7 u8 : Value) (wr : World) : Prop :=
 ∃ (i s : Nat) (d : Array Int), u7 = .int .i64 (i : Int) ∧ u8 = .int .i64 (s : Int) ∧ s ≤ 5 ∧ a + 1 ≤ i ∧ i ≤ b ∧ d.size = d0.size ∧ partialIns ltInt a b (5 - s) i d = R ∧ Sat wr (uA g d tl * F) ∧ Side w wr
theorem pi_true {a b s i : Nat} {d : Array Int} (hi : scanSorted ltInt d b i = b) : partialIns ltInt a b (s + 1) i d = (d, true) := by rw [partialIns_succ]; simp only [hi]; simp
theorem pi_short {a b s i i2 : Nat} {d : Array Int} (hi : scanSorted ltInt d b i = i2) (hb : i2 ≠ b) (h : b - a < 50) : partialIns ltInt a b (s + 1) i d = (d, false) := by rw [partialIns_succ]; simp only [hi]; rw [if_neg hb, if_pos h]
theorem pi_go {a b s i i2 k : Nat} {d d1 d2 : Array Int} (hi : scanSorted ltInt d b i = i2) (hb : i2 ≠ b) (h : ¬ b - a < 50) (hk : i2 = k + 1) (h1 : (if i2 - a ≥ 2 then shiftDown ltInt k (swp d i2 k) else swp d i2 k) = d1) (h2 : (if b - i2 ≥ 2 then shiftUp ltInt b (i2 + 1) d1 else d1) = d2) :
  partialIns ltInt a b (s + 1) i d = partialIns ltInt a b s i2 d2 := by
 rw [partialIns_succ]; simp only [hi]; rw [if_neg hb, if_neg h, show i2 - 1 = k by omega]; unfold fixUp fixDown; rw [show i2 - 1 = k by omega, h1, h2]
set_option maxRecDepth 100000 in
set_option maxHeartbeats 16000000 in
theorem partial_any (g : Nat) (d0 : Array Int) (a b cap : Nat) (tl : List Value) (w : World) (F : Assn) (h : Sat w (uA g d0 tl * F)) (hab : a < b) (hb : b ≤ d0.size) (hsz : d0.size ≤ 1000000000) (hcap : d0.size ≤ cap) :
  Calls Tryz.prog 147 #[.slice (some ⟨g, 0, none⟩) d0.size cap, .int .i64 (a : Int), .int .i64 (b : Int)] w (PiQ g (partialInsertionSort ltInt d0 a b) tl F w) := by
 have b1 : (b : Int) ≤ 1000000000 := by omega
 have a1 : (a : Int) ≤ 1000000000 := by omega
 have hs1 : (d0.size : Int) ≤ 1000000000 := by omega
 obtain ⟨R, hR⟩ : ∃ R, partialInsertionSort ltInt d0 a b = R := ⟨_, rfl⟩
 rw [hR]
 have hR2 : partialIns ltInt a b (5 - 0) (a + 1) d0 = R := hR
 have HR := SL.hid hR2
 clear hR hR2
 go_enter Tryz.func147, Tryz.ntmps147
 go_wp2_with fail
 go_loopw [7, 8] (fun u7 u8 wr => PiRel g d0 a b R tl F w u7 u8 wr) (fun _ u8 _ => 5 - (intOf u8).toNat)
 case atStart => exact ⟨a + 1, 0, d0, by go_num, rfl, by omega, Nat.le_refl _, by omega, rfl, HR.out, h, Side.refl w⟩
 case round =>
  clear h HR
  obtain ⟨i, st, d, rfl, rfl, hs5, hai, hib, hds, hr, h0, s0⟩ := hrel
  have hs5' : (st : Int) ≤ 5 := by omega
  by_cases hst : st = 5
  ·subst hst
   have hr2 : (d, false) = R := hr
   have Hr2 := SL.hid hr2
   clear hr hr2
   go_wp2_with fail
   go_ret
   rw [← Hr2.out]
   exact ⟨rfl, h0, s0⟩
  ·have hst' : (st : Int) < 5 := by omega
   obtain ⟨n, hn⟩ : ∃ n, 5 - st = n + 1 := ⟨4 - st, by omega⟩
   rw [hn] at hr
   have Hn := SL.hid hn; have Hr := SL.hid hr; have H6 := SL.hid hds; have H0 := SL.hid h0; have Hst := SL.hid hst
   clear hn hr hds h0 hst
   go_wp2_with fail
   go_loopw [7] (fun u wr => SsRel g d b i tl F w u wr) (fun u _ => b - (intOf u).toNat)
   case atStart => exact ⟨i, rfl, Nat.le_refl _, hib, rfl, H0.out, s0⟩
   case round =>
    clear H0 s0
    obtain ⟨i', rfl, hi1, hi2, hsc, hsat, hside⟩ := hrel
    have HS := SL.hid hsat
    have Hsc := SL.hid hsc
    clear hsc
    obtain ⟨k, hk⟩ : ∃ k, i' = k + 1 := ⟨i' - 1, by omega⟩
    have sk1 : (i' : Int) - 1 = (k : Int) := by omega
    have sk2 : IntKind.i64.wrap ((i' : Int) - 1) = (k : Int) := by rw [IntKind.wrap_i64]; omega
    have sk3 : IntKind.i64.wrap (k : Int) = (k : Int) := by rw [IntKind.wrap_i64]; omega
    have hka : a ≤ k := by omega
    have Hk := SL.hid hk
    clear hk
    by_cases hg : i' < b
    ·have hg' : (i' : Int) < (b : Int) := by omega
     have bx : (i' : Int) < (d0.size : Int) := by omega
     have bk : (k : Int) < (d0.size : Int) := by have := Hk.out; omega
     have cx := uA_cell hsat (k := i') (by rw [H6.out]; omega)
     have ck := uA_cell hsat (k := k) (by rw [H6.out]; have := Hk.out; omega)
     generalize hx : d[i']! = x at *
     generalize hy : d[k]! = y at *
     have Hx := SL.hid hx; have Hy := SL.hid hy
     clear hx hy hsat
     cases hcmp : ltInt x y with
     | false =>
      have HL : Hid (∀ w, Calls Tryz.prog 148 #[.int .u32 x, .int .u32 y] w fun e w' => e = .returned (.bool false) ∧ w' = w) := SL.hid (fun w => by have := less_any x y w; rwa [hcmp] at this)
      have hnext := ss_go (d := d) hg Hk.out (by rw [Hx.out, Hy.out]; exact hcmp)
      rw [Hsc.out] at hnext
      have Hnx := SL.hid hnext.symm
      clear hnext hcmp
      go_wp2_with fail
      go_quiet ((go_at_call 148; exact Calls.quiet_of_same (HL.out _)))
      go_wp2_with fail
      go_roundw
      case rel => exact ⟨i' + 1, by go_num, by omega, by omega, Hnx.out, HS.out.drew, hside.drewN nq⟩
      case measure => simp [intOf]; omega
     | true =>
      have HL : Hid (∀ w, Calls Tryz.prog 148 #[.int .u32 x, .int .u32 y] w fun e w' => e = .returned (.bool true) ∧ w' = w) := SL.hid (fun w => by have := less_any x y w; rwa [hcmp] at this)
      have hstop := ss_stop2 (d := d) (b := b) Hk.out (by rw [Hx.out, Hy.out]; exact hcmp)
      rw [Hsc.out] at hstop
      have Hi := SL.hid hstop
      have hne : ((i' : Int) == (b : Int)) = false := by simp; omega
      clear hstop hcmp
      go_wp2_with fail
      go_quiet ((go_at_call 148; exact Calls.quiet_of_same (HL.out _)))
      have hHu : Sat (wr.drewN nq) (uA g d tl * F) := HS.out.drew
      have su : Side w (wr.drewN nq) := hside.drewN nq
      generalize wr.drewN nq = wu at *
      have Hu := SL.hid hHu
      clear hHu cx ck
      by_cases h50 : b - a < 50
      ·have h50' : (b : Int) - (a : Int) < 50 := by omega
       have hfin := pi_short (a := a) (s := n) Hi.out (by omega) h50
       rw [Hr.out] at hfin
       have Hf := SL.hid hfin
       clear hfin
       go_wp2_with fail
       go_ret
       rw [Hf.out]
       exact ⟨rfl, Hu.out, su⟩
      ·have h50' : ¬ (b : Int) - (a : Int) < 50 := by omega
       obtain ⟨ci, cj, fi, fj, ⟨v, hv⟩, fj2, hs⟩ := uA_swp Hu.out (i := i') (j := k) (by rw [H6.out]; omega) (by rw [H6.out]; have := Hk.out; omega)
       rw [Hx.out] at ci hs
       rw [Hy.out] at cj hv fj2 hs
       have H1 := SL.hid hs
       have hds3 : (swp d i' k).size = d0.size := by rw [← H6.out]; simp [swp]
       have H7 := SL.hid hds3
       obtain ⟨d1, hd1⟩ : ∃ d1, (if i' - a ≥ 2 then shiftDown ltInt k (swp d i' k) else swp d i' k) = d1 := ⟨_, rfl⟩
       obtain ⟨d2, hd2⟩ : ∃ d2, (if b - i' ≥ 2 then shiftUp ltInt b (i' + 1) d1 else d1) = d2 := ⟨_, rfl⟩
       have hfin := pi_go (s := n) Hi.out (by omega) h50 Hk.out hd1 hd2
       rw [Hr.out] at hfin
       have Hf := SL.hid hfin; have Hd1 := SL.hid hd1; have Hd2 := SL.hid hd2
       clear hfin hs hds3 hd1 hd2
       go_wp2_with fail
       go_cut [] from 13 to 132 (fun wx => Sat wx (uA g (swp d i' k) tl * F) ∧ Side w wx)
       case first =>
        go_region_law (fail)
        all_goals
         go_wp2_with fail
         go_meet
         exact ⟨H1.out.drew, ((su.setCell _ _).setCell _ _).drew⟩
       case rest =>
        obtain ⟨hW, dW⟩ := hcut
        clear ci cj fi fj hv fj2 H1 Hu su HS hside
        have HW := SL.hid hW; have DW := SL.hid dW
        clear hW dW
        go_upto_if 61 with (fail)
        generalize hb2 : decide ((2 : Int) ≤ (i' : Int) - (a : Int)) = c2
        go_cut [9] from 13 to 132 (fun u9 wx => Sat wx (uA g d1 tl * F) ∧ Side w wx)
        case first =>
         cases c2
         case true =>
          have h2' : (2 : Int) ≤ (i' : Int) - (a : Int) := of_decide_eq_true hb2
          have h2 : 2 ≤ i' - a := by omega
          clear hb2
          have hq1 := Hd1.out
          rw [if_pos h2] at hq1
          have Hq1 := SL.hid hq1
          clear hq1 Hd1
          go_wp2_with fail
          go_loopw [9] (fun u wr => SdRel g d0 d1 k tl F w u wr) (fun u _ => (intOf u).toNat)
          case atStart => exact ⟨k, _, rfl, Nat.le_refl _, H7.out, Hq1.out, HW.out, DW.out⟩
          case round =>
           clear HW DW Hq1
           obtain ⟨j, dd, rfl, hj1, hdd, hr5, h5, s5⟩ := hrel
           have H5 := SL.hid h5; have Hr5 := SL.hid hr5; have Hsz := SL.hid hdd
           clear h5 hr5 hdd
           by_cases hj0 : j = 0
           ·have hj0' : ¬ (1 : Int) ≤ (j : Int) := by omega
            have hq : dd = d1 := by have := Hr5.out; rw [hj0] at this; exact this
            have H6a : Hid (Sat wr (uA g d1 tl * F)) := SL.hid (by rw [← hq]; exact H5.out)
            clear hq Hr5 H5 Hsz hj0
            go_wp2_with fail
            go_meet
            exact ⟨H6a.out, s5⟩
           ·have hj0' : (1 : Int) ≤ (j : Int) := by omega
            obtain ⟨m, hm⟩ : ∃ m, j = m + 1 := ⟨j - 1, by omega⟩
            have sm1 : (j : Int) - 1 = (m : Int) := by omega
            have sm2 : IntKind.i64.wrap ((j : Int) - 1) = (m : Int) := by rw [IntKind.wrap_i64]; omega
            have sm3 : IntKind.i64.wrap (m : Int) = (m : Int) := by rw [IntKind.wrap_i64]; omega
            have bj : (j : Int) < (d0.size : Int) := by have := Hk.out; omega
            have bm : (m : Int) < (d0.size : Int) := by have := Hk.out; omega
            have hjk : j ≤ k := hj1
            have hmj : m < j := by omega
            have hjs : j < d0.size := by omega
            have Hm := SL.hid hm
            clear hm
            have cx := uA_cell H5.out (k := j) (by rw [Hsz.out]; omega)
            have ck := uA_cell H5.out (k := m) (by rw [Hsz.out]; omega)
            generalize hx : dd[j]! = x at *
            generalize hy : dd[m]! = y at *
            have Hx := SL.hid hx; have Hy := SL.hid hy
            clear hx hy
            cases hcmp : ltInt x y with
            | true =>
             have HL : Hid (∀ w, Calls Tryz.prog 148 #[.int .u32 x, .int .u32 y] w fun e w' => e = .returned (.bool true) ∧ w' = w) := SL.hid (fun w => by have := less_any x y w; rwa [hcmp] at this)
             have hnext := sdn_go (d := dd) Hm.out (by rw [Hx.out, Hy.out]; exact hcmp)
             rw [Hr5.out] at hnext
             have Hnx := SL.hid hnext.symm
             clear hnext
             clear hcmp
             go_wp2_with fail
             go_quiet ((go_at_call 148; exact Calls.quiet_of_same (HL.out _)))
             have hHz : Sat (wr.drewN nq) (uA g dd tl * F) := H5.out.drew
             have sz : Side w (wr.drewN nq) := s5.drewN nq
             generalize wr.drewN nq = wz at *
             have Hz := SL.hid hHz
             clear hHz cx ck
             obtain ⟨ci, cj, fi, fj, ⟨v, hv⟩, fj2, hs⟩ := uA_swp Hz.out (i := j) (j := m) (by rw [Hsz.out]; omega) (by rw [Hsz.out]; omega)
             rw [Hx.out] at ci hs
             rw [Hy.out] at cj hv fj2 hs
             have H1 := SL.hid hs
             have hds3 : (swp dd j m).size = d0.size := by rw [← Hsz.out]; simp [swp]
             have H7 := SL.hid hds3
             clear hs hds3
             go_wp2_with fail
             go_region_law (fail)
             all_goals
              go_wp2
              go_roundw
              case rel =>
               exact ⟨m, swp dd j m, rfl, by omega, H7.out, Hnx.out, H1.out.drew, ((sz.setCell _ _).setCell _ _).drew⟩
              case measure => simp [intOf]; omega
            | false =>
             have HL : Hid (∀ w, Calls Tryz.prog 148 #[.int .u32 x, .int .u32 y] w fun e w' => e = .returned (.bool false) ∧ w' = w) := SL.hid (fun w => by have := less_any x y w; rwa [hcmp] at this)
             have hstop := sdn_stop (d := dd) Hm.out (by rw [Hx.out, Hy.out]; exact hcmp)
             rw [Hr5.out] at hstop
             have Hsp := SL.hid hstop
             clear hstop
             clear hcmp
             go_wp2_with fail
             go_quiet ((go_at_call 148; exact Calls.quiet_of_same (HL.out _)))
             have hHz : Sat (wr.drewN nq) (uA g dd tl * F) := H5.out.drew
             have sz : Side w (wr.drewN nq) := s5.drewN nq
             generalize wr.drewN nq = wz at *
             have Hz := SL.hid hHz
             clear hHz cx ck
             have H6a : Hid (Sat wz (uA g d1 tl * F)) := SL.hid (by rw [Hsp.out]; exact Hz.out)
             go_wp2_with fail
             go_meet
             exact ⟨H6a.out, sz⟩
         case false =>
          have h2' : ¬ (2 : Int) ≤ (i' : Int) - (a : Int) := of_decide_eq_false hb2
          have h2 : ¬ 2 ≤ i' - a := by omega
          clear hb2
          have hq1 := Hd1.out
          rw [if_neg h2] at hq1
          have H5 : Hid (Sat wc (uA g d1 tl * F)) := SL.hid (by rw [← hq1]; exact HW.out)
          clear hq1 Hd1
          go_wp2_with fail
          go_meet
          exact ⟨H5.out, DW.out⟩
        case rest =>
         obtain ⟨hX, dX⟩ := hcut
         clear HW DW
         have hsz1 : d1.size = d0.size := by rw [← Hd1.out]; split; rw [shiftDown_size]; exact H7.out; exact H7.out
         have Hsz1 := SL.hid hsz1
         have hsz2 : d2.size = d0.size := by rw [← Hd2.out]; split; rw [shiftUp_size b _ _ _ (Nat.le_refl _)]; exact Hsz1.out; exact Hsz1.out
         have Hsz3 := SL.hid hsz2
         have H5 := SL.hid hX; have D5 := SL.hid dX
         clear hX dX hsz1 hsz2 Hd1
         by_cases h3 : 2 ≤ b - i'
         ·have h3' : (2 : Int) ≤ (b : Int) - (i' : Int) := by omega
          have hq2 := Hd2.out
          rw [if_pos h3] at hq2
          have Hq2 := SL.hid hq2
          clear hq2
          go_wp2_with fail
          go_loopw [10] (fun u wr => SuRel g d0 d2 b (i' + 1) tl F w u wr) (fun u _ => b - (intOf u).toNat)
          case atStart => exact ⟨i' + 1, _, by go_num, Nat.le_refl _, by omega, Hsz1.out, Hq2.out, H5.out, D5.out⟩
          case round =>
           clear Hq2
           obtain ⟨j2, dd2, rfl, hj21, hj22, hdd2, hr6, h6, s6⟩ := hrel
           have H8 := SL.hid h6; have Hr6 := SL.hid hr6; have Hsz2 := SL.hid hdd2
           clear h6 hr6 hdd2
           by_cases hjb : j2 < b
           ·have hjb' : (j2 : Int) < (b : Int) := by omega
            obtain ⟨m2, hm2⟩ : ∃ m, j2 = m + 1 := ⟨j2 - 1, by omega⟩
            have sn1 : (j2 : Int) - 1 = (m2 : Int) := by omega
            have sn2 : IntKind.i64.wrap ((j2 : Int) - 1) = (m2 : Int) := by rw [IntKind.wrap_i64]; omega
            have sn3 : IntKind.i64.wrap (m2 : Int) = (m2 : Int) := by rw [IntKind.wrap_i64]; omega
            have bj2 : (j2 : Int) < (d0.size : Int) := by omega
            have bm2 : (m2 : Int) < (d0.size : Int) := by omega
            have hmj2 : m2 < j2 := by omega
            have hjs2 : j2 < d0.size := by omega
            have Hm2 := SL.hid hm2
            clear hm2
            have cx := uA_cell H8.out (k := j2) (by rw [Hsz2.out]; omega)
            have ck := uA_cell H8.out (k := m2) (by rw [Hsz2.out]; omega)
            generalize hx : dd2[j2]! = x at *
            generalize hy : dd2[m2]! = y at *
            have Hx := SL.hid hx; have Hy := SL.hid hy
            clear hx hy
            cases hcmp : ltInt x y with
            | true =>
             have HL : Hid (∀ w, Calls Tryz.prog 148 #[.int .u32 x, .int .u32 y] w fun e w' => e = .returned (.bool true) ∧ w' = w) := SL.hid (fun w => by have := less_any x y w; rwa [hcmp] at this)
             have hnext := sup_go (d := dd2) hjb Hm2.out (by rw [Hx.out, Hy.out]; exact hcmp)
             rw [Hr6.out] at hnext
             have Hnx := SL.hid hnext.symm
             clear hnext
             clear hcmp
             go_wp2_with fail
             go_quiet ((go_at_call 148; exact Calls.quiet_of_same (HL.out _)))
             have hHz : Sat (wr.drewN nq) (uA g dd2 tl * F) := H8.out.drew
             have sz : Side w (wr.drewN nq) := s6.drewN nq
             generalize wr.drewN nq = wz at *
             have Hz := SL.hid hHz
             clear hHz cx ck
             obtain ⟨ci, cj, fi, fj, ⟨v, hv⟩, fj2, hs⟩ := uA_swp Hz.out (i := j2) (j := m2) (by rw [Hsz2.out]; omega) (by rw [Hsz2.out]; omega)
             rw [Hx.out] at ci hs
             rw [Hy.out] at cj hv fj2 hs
             have H1 := SL.hid hs
             have hds3 : (swp dd2 j2 m2).size = d0.size := by rw [← Hsz2.out]; simp [swp]
             have H7 := SL.hid hds3
             clear hs hds3
             go_wp2_with fail
             go_region_law (fail)
             all_goals
              go_wp2
              go_roundw
              case rel =>
               exact ⟨j2 + 1, swp dd2 j2 m2, by go_num, by omega, by omega, H7.out, Hnx.out, H1.out.drew, ((sz.setCell _ _).setCell _ _).drew⟩
              case measure => simp [intOf]; omega
            | false =>
             have HL : Hid (∀ w, Calls Tryz.prog 148 #[.int .u32 x, .int .u32 y] w fun e w' => e = .returned (.bool false) ∧ w' = w) := SL.hid (fun w => by have := less_any x y w; rwa [hcmp] at this)
             have hstop := sup_stop (d := dd2) hjb Hm2.out (by rw [Hx.out, Hy.out]; exact hcmp)
             rw [Hr6.out] at hstop
             have Hsp := SL.hid hstop
             clear hstop
             clear hcmp
             go_wp2_with fail
             go_quiet ((go_at_call 148; exact Calls.quiet_of_same (HL.out _)))
             have hHz : Sat (wr.drewN nq) (uA g dd2 tl * F) := H8.out.drew
             have sz : Side w (wr.drewN nq) := s6.drewN nq
             generalize wr.drewN nq = wz at *
             have Hz := SL.hid hHz
             clear hHz cx ck
             have H9 : Hid (Sat wz (uA g d2 tl * F)) := SL.hid (by rw [Hsp.out]; exact Hz.out)
             go_wp2_with fail
             go_roundw
             case rel =>
              have hfin : PiRel g d0 a b R tl F w (.int .i64 (i' : Int)) (.int .i64 ((st : Int) + 1)) wz := ⟨i', st + 1, d2, rfl, by go_num, by have := Hst.out; omega, by omega, by omega, Hsz3.out, by rw [show 5 - (st + 1) = n by have := Hn.out; omega]; exact Hf.out.symm, H9.out, sz⟩
              first | exact hfin | exact ⟨_, _, _, _, hfin, rfl⟩ | ((repeat apply Exists.intro); exact ⟨hfin, rfl⟩)
             case measure => have := Hst.out; simp [intOf]; omega
           ·have hjb' : ¬ (j2 : Int) < (b : Int) := by omega
            have hq := Hr6.out
            rw [sup_end hjb] at hq
            have H9 : Hid (Sat wr (uA g d2 tl * F)) := SL.hid (by rw [← hq]; exact H8.out)
            clear hq
            go_wp2_with fail
            go_roundw
            case rel =>
             have hfin : PiRel g d0 a b R tl F w (.int .i64 (i' : Int)) (.int .i64 ((st : Int) + 1)) wr := ⟨i', st + 1, d2, rfl, by go_num, by have := Hst.out; omega, by omega, by omega, Hsz3.out, by rw [show 5 - (st + 1) = n by have := Hn.out; omega]; exact Hf.out.symm, H9.out, s6⟩
             first | exact hfin | exact ⟨_, _, _, _, hfin, rfl⟩ | ((repeat apply Exists.intro); exact ⟨hfin, rfl⟩)
            case measure => have := Hst.out; simp [intOf]; omega
         ·have h3' : ¬ (2 : Int) ≤ (b : Int) - (i' : Int) := by omega
          have hq2 := Hd2.out
          rw [if_neg h3] at hq2
          have H9 : Hid (Sat wc (uA g d2 tl * F)) := SL.hid (by rw [← hq2]; exact H5.out)
          clear hq2
          go_wp2_with fail
          go_roundw
          case rel =>
           have hfin : PiRel g d0 a b R tl F w (.int .i64 (i' : Int)) (.int .i64 ((st : Int) + 1)) wc := ⟨i', st + 1, d2, rfl, by go_num, by have := Hst.out; omega, by omega, by omega, Hsz3.out, by rw [show 5 - (st + 1) = n by have := Hn.out; omega]; exact Hf.out.symm, H9.out, D5.out⟩
           first | exact hfin | exact ⟨_, _, _, _, hfin, rfl⟩ | ((repeat apply Exists.intro); exact ⟨hfin, rfl⟩)
          case measure => have := Hst.out; simp [intOf]; omega
    ·have hib2 : i' = b := by omega
     have Hi : Hid (scanSorted ltInt d b i = b) := SL.hid (by rw [← Hsc.out, ss_stop1 hg]; exact hib2)
     have hfin := pi_true (a := a) (s := n) Hi.out
     rw [Hr.out] at hfin
     have Hf := SL.hid hfin
     clear hfin
     have hg' : ¬ (i' : Int) < (b : Int) := by omega
     have hgd : decide (i' < b) = false := decide_eq_false hg
     have hgd2 : decide ((i' : Int) < (b : Int)) = false := decide_eq_false (by omega)
     have heq : ((i' : Int) == (b : Int)) = true := by simp; omega
     have Hib := SL.hid hib2
     clear hib2 hsat
     go_wp2_with fail
     go_quiet (fail)
     have hHu : Sat (wr.drewN nq) (uA g d tl * F) := HS.out.drew
     have su : Side w (wr.drewN nq) := hside.drewN nq
     generalize wr.drewN nq = wu at *
     have Hu := SL.hid hHu
     clear hHu hgd hgd2
     go_wp2_with fail
     go_ret
     rw [Hf.out]
     exact ⟨rfl, Hu.out, su⟩
end Go.Proofs.YtdafdidmbeecfaaGreatDoor
end

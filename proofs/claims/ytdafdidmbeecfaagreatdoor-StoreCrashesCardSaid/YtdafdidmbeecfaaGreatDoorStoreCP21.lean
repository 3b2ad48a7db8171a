/- Steps towards the statement StoreC. -/
import Derived.Test.YtdafdidmbeecfaaGreatDoorStoreCP19
section
namespace Go.Proofs.YtdafdidmbeecfaaGreatDoor
set_option linter.unusedVariables false
set_option linter.unusedSimpArgs false
open Go.RowKit Go.SL Go.Sort
theorem su_go {p : Int → Bool} {d : Array Int} {i j : Nat} (h : i ≤ j) (hp : p d[i]! = true) : scanUp p d j i = scanUp p d j (i + 1) := by rw [scanUp.eq_1]; simp [h, hp]
theorem su_stop1 {p : Int → Bool} {d : Array Int} {i j : Nat} (h : ¬ i ≤ j) : scanUp p d j i = i := by rw [scanUp.eq_1]; simp [h]
theorem su_stop2 {p : Int → Bool} {d : Array Int} {i j : Nat} (hp : p d[i]! = false) : scanUp p d j i = i := by rw [scanUp.eq_1]; simp [hp]
theorem sd_go {p : Int → Bool} {d : Array Int} {i j k : Nat} (hk : j = k + 1) (h : i ≤ j) (hp : p d[j]! = true) : scanDown p d i j = scanDown p d i k := by subst hk; rw [scanDown]; simp [h, hp]
theorem sd_stop1 {p : Int → Bool} {d : Array Int} {i j : Nat} (h : ¬ i ≤ j) : scanDown p d i j = j := by
 cases j with
 | zero => rfl
 | succ k => rw [scanDown]; simp [h]
theorem sd_stop2 {p : Int → Bool} {d : Array Int} {i j : Nat} (hp : p d[j]! = false) : scanDown p d i j = j := by
 cases j with
 | zero => rfl
 | succ k => rw [scanDown]; simp [hp]
def UpRel (p : Int → Bool) (g : Nat) (d : Array Int) (i0 j : Nat) (tl : List Value) (F : Assn) (w : World) (u : Value) (wr : World) : Prop :=
 ∃ i : Nat, u = .int .i64 (i : Int) ∧ i0 ≤ i ∧ i ≤ j + 1 ∧ scanUp p d j i = scanUp p d j i0 ∧ Sat wr (uA g d tl * F) ∧ Side w wr
def DnRel (p : Int → Bool) (g : Nat) (d : Array Int) (i j0 : Nat) (tl : List Value) (F : Assn) (w : World) (u : Value) (wr : World) : Prop :=
 ∃ j : Nat, u = .int .i64 (j : Int) ∧ j ≤ j0 ∧ i ≤ j + 1 ∧ scanDown p d i j = scanDown p d i j0 ∧ Sat wr (uA g d tl * F) ∧ Side w wr
def PeRel (g : Nat) (d0 : Array Int) (a b : Nat) (R : Nat × Array Int) (tl : List Value) (F : Assn) (w : World) (u9 u10 : Value) (wr : World) : Prop :=
 ∃ (i j : Nat) (d : Array Int), u9 = .int .i64 (i : Int) ∧ u10 = .int .i64 (j : Int) ∧ a < i ∧ i ≤ j + 1 ∧ j < b ∧ d.size = d0.size ∧ partEqLoop ltInt a i j d = R ∧ Sat wr (uA g d tl * F) ∧ Side w wr
def PeQ (g : Nat) (R : Nat × Array Int) (tl : List Value) (F : Assn) (w : World) (e : Ending) (w' : World) : Prop := e = .returned (.int .i64 (R.1 : Int)) ∧ Sat w' (uA g R.2 tl * F) ∧ Side w w'
set_option maxRecDepth 100000 in
set_option maxHeartbeats 8000000 in
theorem partEq_any (g : Nat) (d0 : Array Int) (a b pivot cap : Nat) (tl : List Value) (w : World) (F : Assn) (h : Sat w (uA g d0 tl * F)) (hap : a ≤ pivot) (hpb : pivot < b) (hb : b ≤ d0.size) (hsz : d0.size ≤ 1000000000) (hcap : d0.size ≤ cap) :
  Calls Tryz.prog 149 #[.slice (some ⟨g, 0, none⟩) d0.size cap, .int .i64 (a : Int), .int .i64 (b : Int), .int .i64 (pivot : Int)] w (PeQ g (partitionEqual ltInt d0 a b pivot) tl F w) := by
 have b1 : (a : Int) < (d0.size : Int) := by omega
 have b2 : (pivot : Int) < (d0.size : Int) := by omega
 have b3 : (b : Int) ≤ 1000000000 := by omega
 have b4 : (1 : Int) ≤ (b : Int) := by omega
 have b5 : (a : Int) < (b : Int) := by omega
 have e1 : (b : Int) - 1 = ((b - 1 : Nat) : Int) := by omega
 obtain ⟨b', hb'⟩ : ∃ x, x = b - 1 := ⟨_, rfl⟩
 rw [← hb'] at e1
 have b6 : (b' : Int) ≤ 1000000000 := by omega
 have Hb' := SL.hid hb'
 clear hb'
 obtain ⟨R, hR⟩ : ∃ R, partitionEqual ltInt d0 a b pivot = R := ⟨_, rfl⟩
 rw [hR]
 have hR2 : partEqLoop ltInt a (a + 1) b' (swp d0 a pivot) = R := by rw [← hR, Hb'.out]; rfl
 have HR := SL.hid hR2
 clear hR hR2
 have hds3 : (swp d0 a pivot).size = d0.size := by simp [swp]
 have H6 := SL.hid hds3
 clear hds3
 obtain ⟨ci, cj, fi, fj, ⟨v, hv⟩, fj2, hs⟩ := uA_swp h (i := a) (j := pivot) (by omega) (by omega)
 generalize d0[a]! = di at *
 generalize d0[pivot]! = dj at *
 have H1 := SL.hid hs
 clear hs h
 go_enter Tryz.func149, Tryz.ntmps149
 go_wp2_with fail
 go_region_law (fail)
 all_goals
  have hW := H1.out.drew
  have dW := (((Side.refl w).setCell ⟨g, a, none⟩ (.int .u32 dj)).setCell ⟨g, pivot, none⟩ (.int .u32 di)).drew
  go_wp2_with fail
  generalize ((w.setCell ⟨g, a, none⟩ (.int .u32 dj)).setCell ⟨g, pivot, none⟩ (.int .u32 di)).drew = w1 at *
  clear ci cj fi fj hv fj2 H1
  go_loopw [9, 10] (fun u9 u10 wr => PeRel g d0 a b R tl F w u9 u10 wr) (fun u9 u10 _ => (intOf u10 + 1).toNat - (intOf u9).toNat)
  case atStart => exact ⟨a + 1, b', _, by go_num, rfl, by omega, by have := Hb'.out; omega, by have := Hb'.out; omega, H6.out, HR.out, hW, dW⟩
  case round =>
   clear hW dW H6 HR
   obtain ⟨i, j, d, rfl, rfl, hai, hij, hjb, hds, hr, h0, s0⟩ := hrel
   obtain ⟨pv, hpv⟩ : ∃ pv, d[a]! = pv := ⟨_, rfl⟩
   have hr3 := hr
   rw [partEqLoop_eq] at hr3
   simp only [hpv] at hr3
   have Hr3 := SL.hid hr3; have H6 := SL.hid hds; have Hpv := SL.hid hpv; have H0 := SL.hid h0
   clear hr hr3 hds hpv h0
   go_wp2_with fail
   go_loopw [9] (fun u wr => UpRel (fun x => !ltInt pv x) g d i j tl F w u wr) (fun u _ => j + 1 - (intOf u).toNat)
   case atStart => exact ⟨i, rfl, Nat.le_refl _, by omega, rfl, H0.out, s0⟩
   case round =>
    clear H0 s0
    obtain ⟨i', rfl, hi1, hi2, hsc, hsat, hside⟩ := hrel
    have HS := SL.hid hsat
    have hr2 : Hid (scanUp (fun x => !ltInt pv x) d j i' = scanUp (fun x => !ltInt pv x) d j i) := SL.hid hsc
    clear hsc
    by_cases hg : i' ≤ j
    ·have hg' : (i' : Int) ≤ (j : Int) := by omega
     have cx := uA_cell hsat (k := i') (by rw [H6.out]; omega)
     have ca := uA_cell hsat (k := a) (by rw [H6.out]; omega)
     have bx : (i' : Int) < (d0.size : Int) := by omega
     rw [Hpv.out] at ca
     generalize hx : d[i']! = x at *
     have Hx := SL.hid hx
     clear hx hsat
     cases hcmp : ltInt pv x with
     | true =>
      have HL : Hid (∀ w, Calls Tryz.prog 148 #[.int .u32 pv, .int .u32 x] w fun e w' => e = .returned (.bool true) ∧ w' = w) := SL.hid (fun w => by have := less_any pv x w; rwa [hcmp] at this)
      have hstop := su_stop2 (p := fun x => !ltInt pv x) (d := d) (i := i') (j := j) (by rw [Hx.out]; simp [hcmp])
      rw [hr2.out] at hstop
      have Hstup := SL.hid hstop
      have Hqup : Hid (ltInt pv d[i']! = true) := SL.hid (by rw [Hx.out]; exact hcmp)
      clear hstop hcmp
      go_wp2_with fail
      go_quiet ((go_at_call 148; exact Calls.quiet_of_same (HL.out _)))
      have hHup : Sat (wr.drewN nq) (uA g d tl * F) := HS.out.drew
      have sup : Side w (wr.drewN nq) := hside.drewN nq
      generalize wr.drewN nq = wup at *
      have Hup := SL.hid hHup
      clear hHup cx ca
      go_wp2_with fail
      go_loopw [10] (fun u wr => DnRel (fun x => ltInt pv x) g d i' j tl F w u wr) (fun u _ => (intOf u + 1).toNat)
      case atStart => exact ⟨j, rfl, Nat.le_refl _, by omega, rfl, Hup.out, sup⟩
      case round =>
       clear Hup sup
       obtain ⟨j', rfl, hi1, hi2, hsc, hsat, hside⟩ := hrel
       have HS := SL.hid hsat
       have hr2 : Hid (scanDown (fun x => ltInt pv x) d i' j' = scanDown (fun x => ltInt pv x) d i' j) := SL.hid hsc
       clear hsc
       by_cases hg : i' ≤ j'
       ·have hg' : (i' : Int) ≤ (j' : Int) := by omega
        have cx := uA_cell hsat (k := j') (by rw [H6.out]; omega)
        have ca := uA_cell hsat (k := a) (by rw [H6.out]; omega)
        have bx : (j' : Int) < (d0.size : Int) := by omega
        rw [Hpv.out] at ca
        generalize hx : d[j']! = x at *
        have Hx := SL.hid hx
        clear hx hsat
        cases hcmp : ltInt pv x with
        | true =>
         have HL : Hid (∀ w, Calls Tryz.prog 148 #[.int .u32 pv, .int .u32 x] w fun e w' => e = .returned (.bool true) ∧ w' = w) := SL.hid (fun w => by have := less_any pv x w; rwa [hcmp] at this)
         obtain ⟨k, hk⟩ : ∃ k, j' = k + 1 := ⟨j' - 1, by omega⟩
         have hnext := sd_go (p := fun x => ltInt pv x) hk hg (by rw [Hx.out]; simp [hcmp])
         rw [hr2.out] at hnext
         have hk1 : (j' : Int) - 1 = (k : Int) := by omega
         have Hk := SL.hid hk
         clear hk
         have Hn := SL.hid hnext.symm
         clear hnext hcmp
         go_wp2_with fail
         go_quiet ((go_at_call 148; exact Calls.quiet_of_same (HL.out _)))
         go_wp2_with fail
         go_roundw
         case rel => exact ⟨k, rfl, by have := Hk.out; omega, by have := Hk.out; omega, Hn.out, HS.out.drew, hside.drewN nq⟩
         case measure => have := Hk.out; simp [intOf]; omega
        | false =>
         have HL : Hid (∀ w, Calls Tryz.prog 148 #[.int .u32 pv, .int .u32 x] w fun e w' => e = .returned (.bool false) ∧ w' = w) := SL.hid (fun w => by have := less_any pv x w; rwa [hcmp] at this)
         have hstop := sd_stop2 (p := fun x => ltInt pv x) (d := d) (i := i') (j := j') (by rw [Hx.out]; simp [hcmp])
         rw [hr2.out] at hstop
         have Hstdn := SL.hid hstop
         have Hqdn : Hid (ltInt pv d[j']! = false) := SL.hid (by rw [Hx.out]; exact hcmp)
         clear hstop hcmp
         go_wp2_with fail
         go_quiet ((go_at_call 148; exact Calls.quiet_of_same (HL.out _)))
         have hHdn : Sat (wr.drewN nq) (uA g d tl * F) := HS.out.drew
         have sdn : Side w (wr.drewN nq) := hside.drewN nq
         generalize wr.drewN nq = wdn at *
         have Hdn := SL.hid hHdn
         clear hHdn cx ca
         have hbr : ¬ j' < i' := by omega
         have hne : i' ≠ j' := fun h => by have h1 := Hqup.out; have h2 := Hqdn.out; rw [h] at h1; rw [h1] at h2; cases h2
         have hbr' : ¬ (j' : Int) < (i' : Int) := by omega
         have hfin := Hr3.out
         rw [Hstup.out, Hstdn.out, if_neg hbr] at hfin
         obtain ⟨k, hk⟩ : ∃ k, j' = k + 1 := ⟨j' - 1, by omega⟩
         rw [show j' - 1 = k by omega] at hfin
         have hk1 : (j' : Int) - 1 = (k : Int) := by omega
         have hds3 : (swp d i' j').size = d0.size := by rw [← H6.out]; simp [swp]
         have Hfin := SL.hid hfin; have Hk := SL.hid hk; have H7 := SL.hid hds3; have Hne := SL.hid hne
         clear hfin hk hds3 hne Hqup Hqdn
         obtain ⟨ci, cj, fi, fj, ⟨v, hv⟩, fj2, hs⟩ := uA_swp Hdn.out (i := i') (j := j') (by rw [H6.out]; omega) (by rw [H6.out]; omega)
         generalize d[i']! = di at *
         generalize d[j']! = dj at *
         have H1 := SL.hid hs
         have bi : (i' : Int) < (d0.size : Int) := by omega
         have bj : (j' : Int) < (d0.size : Int) := by omega
         clear hs
         go_wp2_with fail
         go_region_law (fail)
         all_goals
          go_wp2
          go_roundw
          case rel => exact ⟨i' + 1, k, swp d i' j', by go_num, rfl, by omega, by have := Hk.out; have := Hne.out; omega, by have := Hk.out; omega, H7.out, Hfin.out, H1.out.drew, ((sdn.setCell _ _).setCell _ _).drew⟩
          case measure => have := Hk.out; simp [intOf]; omega
       ·have hg' : ¬ (i' : Int) ≤ (j' : Int) := by omega
        have hgd : decide (i' ≤ j') = false := decide_eq_false hg
        have hgd2 : decide ((i' : Int) ≤ (j' : Int)) = false := decide_eq_false (by omega)
        have hstop := sd_stop1 (p := fun x => ltInt pv x) (d := d) (i := i') (j := j') hg
        rw [hr2.out] at hstop
        have Hstdn := SL.hid hstop
        clear hstop hsat
        go_wp2_with fail
        go_quiet (fail)
        have hHdn : Sat (wr.drewN nq) (uA g d tl * F) := HS.out.drew
        have sdn : Side w (wr.drewN nq) := hside.drewN nq
        generalize wr.drewN nq = wdn at *
        have Hdn := SL.hid hHdn
        clear hHdn hgd hgd2
        have hbr : j' < i' := by omega
        have hbr' : (j' : Int) < (i' : Int) := by omega
        have hfin := Hr3.out
        rw [Hstup.out, Hstdn.out, if_pos hbr] at hfin
        have Hfin := SL.hid hfin
        clear hfin
        go_wp2_with fail
        go_ret
        exact ⟨by rw [← Hfin.out]; rfl, by rw [← Hfin.out]; exact Hdn.out, sdn⟩
     | false =>
      have HL : Hid (∀ w, Calls Tryz.prog 148 #[.int .u32 pv, .int .u32 x] w fun e w' => e = .returned (.bool false) ∧ w' = w) := SL.hid (fun w => by have := less_any pv x w; rwa [hcmp] at this)
      have hnext := su_go (p := fun x => !ltInt pv x) hg (by rw [Hx.out]; simp [hcmp])
      rw [hr2.out] at hnext
      have Hn := SL.hid hnext.symm
      clear hnext hcmp
      go_wp2_with fail
      go_quiet ((go_at_call 148; exact Calls.quiet_of_same (HL.out _)))
      go_wp2_with fail
      go_roundw
      case rel => exact ⟨i' + 1, by go_num, by omega, by omega, Hn.out, HS.out.drew, hside.drewN nq⟩
      case measure => simp [intOf]; omega
    ·have hg' : ¬ (i' : Int) ≤ (j : Int) := by omega
     have hgd : decide (i' ≤ j) = false := decide_eq_false hg
     have hgd2 : decide ((i' : Int) ≤ (j : Int)) = false := decide_eq_false (by omega)
     have hstop := su_stop1 (p := fun x => !ltInt pv x) (d := d) (i := i') (j := j) hg
     rw [hr2.out] at hstop
     have Hstup := SL.hid hstop
     clear hstop hsat
     go_wp2_with fail
     go_quiet (fail)
     have hHup : Sat (wr.drewN nq) (uA g d tl * F) := HS.out.drew
     have sup : Side w (wr.drewN nq) := hside.drewN nq
     generalize wr.drewN nq = wup at *
     have Hup := SL.hid hHup
     clear hHup hgd hgd2
     go_wp2_with fail
     go_loopw [10] (fun u wr => DnRel (fun x => ltInt pv x) g d i' j tl F w u wr) (fun u _ => (intOf u + 1).toNat)
     case atStart => exact ⟨j, rfl, Nat.le_refl _, by omega, rfl, Hup.out, sup⟩
     case round =>
      clear Hup sup
      obtain ⟨j', rfl, hi1, hi2, hsc, hsat, hside⟩ := hrel
      have HS := SL.hid hsat
      have hr2 : Hid (scanDown (fun x => ltInt pv x) d i' j' = scanDown (fun x => ltInt pv x) d i' j) := SL.hid hsc
      clear hsc
      by_cases hg : i' ≤ j'
      ·exact absurd hg (by omega)
      ·have hg' : ¬ (i' : Int) ≤ (j' : Int) := by omega
       have hgd : decide (i' ≤ j') = false := decide_eq_false hg
       have hgd2 : decide ((i' : Int) ≤ (j' : Int)) = false := decide_eq_false (by omega)
       have hstop := sd_stop1 (p := fun x => ltInt pv x) (d := d) (i := i') (j := j') hg
       rw [hr2.out] at hstop
       have Hstdn := SL.hid hstop
       clear hstop hsat
       go_wp2_with fail
       go_quiet (fail)
       have hHdn : Sat (wr.drewN nq) (uA g d tl * F) := HS.out.drew
       have sdn : Side w (wr.drewN nq) := hside.drewN nq
       generalize wr.drewN nq = wdn at *
       have Hdn := SL.hid hHdn
       clear hHdn hgd hgd2
       have hbr : j' < i' := by omega
       have hbr' : (j' : Int) < (i' : Int) := by omega
       have hfin := Hr3.out
       rw [Hstup.out, Hstdn.out, if_pos hbr] at hfin
       have Hfin := SL.hid hfin
       clear hfin
       go_wp2_with fail
       go_ret
       exact ⟨by rw [← Hfin.out]; rfl, by rw [← Hfin.out]; exact Hdn.out, sdn⟩
end Go.Proofs.YtdafdidmbeecfaaGreatDoor
end
section
namespace Go.Proofs.YtdafdidmbeecfaaGreatDoor
set_option linter.unusedVariables false
set_option linter.unusedSimpArgs false
open Go.RowKit Go.SL Go.Sort
def PaQ (g : Nat) (R : Nat × Bool × Array Int) (tl : List Value) (F : Assn) (w : World) (e : Ending) (w' : World) : Prop := e = .returned (.tuple #[.int .i64 (R.1 : Int), .bool R.2.1]) ∧ Sat w' (uA g R.2.2 tl * F) ∧ Side w w'
def PlRel (g : Nat) (d0 : Array Int) (a b : Nat) (R : Nat × Array Int) (tl : List Value) (F : Assn) (w : World) (u9 u10 : Value) (wr : World) : Prop :=
 ∃ (i j : Nat) (d : Array Int), u9 = .int .i64 (i : Int) ∧ u10 = .int .i64 (j : Int) ∧ a < i ∧ i ≤ j + 1 ∧ j < b ∧ d.size = d0.size ∧ partLoop ltInt a i j d = R ∧ Sat wr (uA g d tl * F) ∧ Side w wr
theorem partition_early {d0 d : Array Int} {a b pivot i j : Nat} {pv : Int} (hd : swp d0 a pivot = d) (hpv : d[a]! = pv) (hi : scanUp (fun x => ltInt x pv) d (b - 1) (a + 1) = i) (hj : scanDown (fun x => !ltInt x pv) d i (b - 1) = j) (h : i > j) : partition ltInt d0 a b pivot = (j, true, swp d j a) := by
 unfold partition
 simp only [hd, hpv, hi, hj]
 rw [if_pos h]
theorem partition_late {d0 d : Array Int} {a b pivot i j : Nat} {pv : Int} (hd : swp d0 a pivot = d) (hpv : d[a]! = pv) (hi : scanUp (fun x => ltInt x pv) d (b - 1) (a + 1) = i) (hj : scanDown (fun x => !ltInt x pv) d i (b - 1) = j) (h : ¬ i > j) :
  partition ltInt d0 a b pivot = ((partLoop ltInt a (i + 1) (j - 1) (swp d i j)).1, false, swp (partLoop ltInt a (i + 1) (j - 1) (swp d i j)).2 (partLoop ltInt a (i + 1) (j - 1) (swp d i j)).1 a) := by
 unfold partition
 simp only [hd, hpv, hi, hj]
 rw [if_neg h]
set_option maxRecDepth 100000 in
set_option maxHeartbeats 16000000 in
theorem partition_any (g : Nat) (d0 : Array Int) (a b pivot cap : Nat) (tl : List Value) (w : World) (F : Assn) (h : Sat w (uA g d0 tl * F)) (hap : a ≤ pivot) (hpb : pivot < b) (hb : b ≤ d0.size) (hsz : d0.size ≤ 1000000000) (hcap : d0.size ≤ cap) :
  Calls Tryz.prog 150 #[.slice (some ⟨g, 0, none⟩) d0.size cap, .int .i64 (a : Int), .int .i64 (b : Int), .int .i64 (pivot : Int)] w (PaQ g (partition ltInt d0 a b pivot) tl F w) := by
 have b1 : (a : Int) < (d0.size : Int) := by omega
 have b2 : (pivot : Int) < (d0.size : Int) := by omega
 have b3 : (b : Int) ≤ 1000000000 := by omega
 have b4 : (1 : Int) ≤ (b : Int) := by omega
 have b5 : (a : Int) < (b : Int) := by omega
 have e1 : (b : Int) - 1 = ((b - 1 : Nat) : Int) := by omega
 obtain ⟨j, hb'⟩ : ∃ x, x = b - 1 := ⟨_, rfl⟩
 rw [← hb'] at e1
 have b6 : (j : Int) ≤ 1000000000 := by omega
 have Hb' := SL.hid hb'
 clear hb'
 obtain ⟨R, hR⟩ : ∃ R, partition ltInt d0 a b pivot = R := ⟨_, rfl⟩
 rw [hR]
 have HR := SL.hid hR
 clear hR
 obtain ⟨d, hd⟩ : ∃ d, swp d0 a pivot = d := ⟨_, rfl⟩
 have hds3 : d.size = d0.size := by rw [← hd]; simp [swp]
 have H6 := SL.hid hds3
 clear hds3
 obtain ⟨ci, cj, fi, fj, ⟨v, hv⟩, fj2, hs⟩ := uA_swp h (i := a) (j := pivot) (by omega) (by omega)
 rw [hd] at hs
 generalize d0[a]! = di at *
 generalize d0[pivot]! = dj at *
 have H1 := SL.hid hs; have Hd := SL.hid hd
 clear hs h hd
 go_enter Tryz.func150, Tryz.ntmps150
 go_wp2_with fail
 go_region_law (fail)
 all_goals
  have hW := H1.out.drew
  have dW := (((Side.refl w).setCell ⟨g, a, none⟩ (.int .u32 dj)).setCell ⟨g, pivot, none⟩ (.int .u32 di)).drew
  go_wp2_with fail
  generalize ((w.setCell ⟨g, a, none⟩ (.int .u32 dj)).setCell ⟨g, pivot, none⟩ (.int .u32 di)).drew = w1 at *
  obtain ⟨pv, hpv⟩ : ∃ pv, d[a]! = pv := ⟨_, rfl⟩
  obtain ⟨i, hi⟩ : ∃ i, i = a + 1 := ⟨_, rfl⟩
  have ei : (a : Int) + 1 = (i : Int) := by omega
  have hai : a < i := by omega
  have hij : i ≤ j + 1 := by have := Hb'.out; omega
  have hjb : j < b := by have := Hb'.out; omega
  have Hpv := SL.hid hpv; have H0 := SL.hid hW; have Hi := SL.hid hi
  have s0 := dW
  clear ci cj fi fj hv fj2 H1 hW dW hpv hi
  go_wp2_with fail
  (try rw [ei])
  (try rw [e1])
  go_loopw [10] (fun u wr => UpRel (fun x => ltInt x pv) g d i j tl F w u wr) (fun u _ => j + 1 - (intOf u).toNat)
  case atStart => exact ⟨i, rfl, Nat.le_refl _, by omega, rfl, H0.out, s0⟩
  case round =>
   clear H0 s0
   obtain ⟨i', rfl, hi1, hi2, hsc, hsat, hside⟩ := hrel
   have HS := SL.hid hsat
   have hr2 : Hid (scanUp (fun x => ltInt x pv) d j i' = scanUp (fun x => ltInt x pv) d j i) := SL.hid hsc
   clear hsc
   by_cases hg : i' ≤ j
   ·have hg' : (i' : Int) ≤ (j : Int) := by omega
    have cx := uA_cell hsat (k := i') (by rw [H6.out]; omega)
    have ca := uA_cell hsat (k := a) (by rw [H6.out]; omega)
    have bx : (i' : Int) < (d0.size : Int) := by omega
    rw [Hpv.out] at ca
    generalize hx : d[i']! = x at *
    have Hx := SL.hid hx
    clear hx hsat
    cases hcmp : ltInt x pv with
    | true =>
     have HL : Hid (∀ w, Calls Tryz.prog 148 #[.int .u32 x, .int .u32 pv] w fun e w' => e = .returned (.bool true) ∧ w' = w) := SL.hid (fun w => by have := less_any x pv w; rwa [hcmp] at this)
     have hnext := su_go (p := fun x => ltInt x pv) hg (by rw [Hx.out]; simp [hcmp])
     rw [hr2.out] at hnext
     have Hn := SL.hid hnext.symm
     clear hnext hcmp
     go_wp2_with fail
     go_quiet ((go_at_call 148; exact Calls.quiet_of_same (HL.out _)))
     go_wp2_with fail
     go_roundw
     case rel => exact ⟨i' + 1, by go_num, by omega, by omega, Hn.out, HS.out.drew, hside.drewN nq⟩
     case measure => simp [intOf]; omega
    | false =>
     have HL : Hid (∀ w, Calls Tryz.prog 148 #[.int .u32 x, .int .u32 pv] w fun e w' => e = .returned (.bool false) ∧ w' = w) := SL.hid (fun w => by have := less_any x pv w; rwa [hcmp] at this)
     have hstop := su_stop2 (p := fun x => ltInt x pv) (d := d) (i := i') (j := j) (by rw [Hx.out]; simp [hcmp])
     rw [hr2.out] at hstop
     have Hstup := SL.hid hstop
     have Hqup : Hid (ltInt d[i']! pv = false) := SL.hid (by rw [Hx.out]; exact hcmp)
     clear hstop hcmp
     go_wp2_with fail
     go_quiet ((go_at_call 148; exact Calls.quiet_of_same (HL.out _)))
     have hHup : Sat (wr.drewN nq) (uA g d tl * F) := HS.out.drew
     have sup : Side w (wr.drewN nq) := hside.drewN nq
     generalize wr.drewN nq = wup at *
     have Hup := SL.hid hHup
     clear hHup cx ca
     go_wp2_with fail
     go_loopw [11] (fun u wr => DnRel (fun x => !ltInt x pv) g d i' j tl F w u wr) (fun u _ => (intOf u + 1).toNat)
     case atStart => exact ⟨j, rfl, Nat.le_refl _, by omega, rfl, Hup.out, sup⟩
     case round =>
      clear Hup sup
      obtain ⟨j', rfl, hi1, hi2, hsc, hsat, hside⟩ := hrel
      have HS := SL.hid hsat
      have hr2 : Hid (scanDown (fun x => !ltInt x pv) d i' j' = scanDown (fun x => !ltInt x pv) d i' j) := SL.hid hsc
      clear hsc
      by_cases hg : i' ≤ j'
      ·have hg' : (i' : Int) ≤ (j' : Int) := by omega
       have cx := uA_cell hsat (k := j') (by rw [H6.out]; omega)
       have ca := uA_cell hsat (k := a) (by rw [H6.out]; omega)
       have bx : (j' : Int) < (d0.size : Int) := by omega
       rw [Hpv.out] at ca
       generalize hx : d[j']! = x at *
       have Hx := SL.hid hx
       clear hx hsat
       cases hcmp : ltInt x pv with
       | true =>
        have HL : Hid (∀ w, Calls Tryz.prog 148 #[.int .u32 x, .int .u32 pv] w fun e w' => e = .returned (.bool true) ∧ w' = w) := SL.hid (fun w => by have := less_any x pv w; rwa [hcmp] at this)
        have hstop := sd_stop2 (p := fun x => !ltInt x pv) (d := d) (i := i') (j := j') (by rw [Hx.out]; simp [hcmp])
        rw [hr2.out] at hstop
        have Hstdn := SL.hid hstop
        have Hqdn : Hid (ltInt d[j']! pv = true) := SL.hid (by rw [Hx.out]; exact hcmp)
        clear hstop hcmp
        go_wp2_with fail
        go_quiet ((go_at_call 148; exact Calls.quiet_of_same (HL.out _)))
        have hHdn : Sat (wr.drewN nq) (uA g d tl * F) := HS.out.drew
        have sdn : Side w (wr.drewN nq) := hside.drewN nq
        generalize wr.drewN nq = wdn at *
        have Hdn := SL.hid hHdn
        clear hHdn cx ca
        have hbr : ¬ i' > j' := by omega
        have hne : i' ≠ j' := fun h => by have h1 := Hqup.out; have h2 := Hqdn.out; rw [h] at h1; rw [h1] at h2; cases h2
        have hbr' : ¬ (j' : Int) < (i' : Int) := by omega
        have hfin := partition_late Hd.out Hpv.out (i := i') (j := j') (by rw [← Hb'.out, ← Hi.out]; exact Hstup.out) (by rw [← Hb'.out]; exact Hstdn.out) hbr
        rw [HR.out] at hfin
        obtain ⟨k, hk⟩ : ∃ k, j' = k + 1 := ⟨j' - 1, by omega⟩
        rw [show j' - 1 = k by omega] at hfin
        have hk1 : (j' : Int) - 1 = (k : Int) := by omega
        have hds3 : (swp d i' j').size = d0.size := by rw [← H6.out]; simp [swp]
        obtain ⟨R2, hR2⟩ : ∃ R2, partLoop ltInt a (i' + 1) k (swp d i' j') = R2 := ⟨_, rfl⟩
        rw [hR2] at hfin
        have Hfin := SL.hid hfin; have Hk := SL.hid hk; have H7 := SL.hid hds3; have Hne := SL.hid hne; have HR2 := SL.hid hR2
        clear hfin hk hds3 hne Hqup Hqdn hR2
        obtain ⟨ci, cj, fi, fj, ⟨v, hv⟩, fj2, hs⟩ := uA_swp Hdn.out (i := i') (j := j') (by rw [H6.out]; omega) (by rw [H6.out]; omega)
        generalize d[i']! = di at *
        generalize d[j']! = dj at *
        have H1 := SL.hid hs
        have bi : (i' : Int) < (d0.size : Int) := by omega
        have bj : (j' : Int) < (d0.size : Int) := by omega
        clear hs
        go_wp2_with fail
        go_region_law (fail)
        all_goals
         have hW2 := H1.out.drew
         have dW2 := ((sdn.setCell ⟨g, i', none⟩ (.int .u32 dj)).setCell ⟨g, j', none⟩ (.int .u32 di)).drew
         go_wp2_with fail
         generalize ((wdn.setCell ⟨g, i', none⟩ (.int .u32 dj)).setCell ⟨g, j', none⟩ (.int .u32 di)).drew = w2 at *
         clear ci cj fi fj hv fj2 H1
         go_loopw [10, 11] (fun u10 u11 wr => PlRel g d0 a b R2 tl F w u10 u11 wr) (fun u10 u11 _ => (intOf u11 + 1).toNat - (intOf u10).toNat)
         case atStart => exact ⟨i' + 1, k, _, by go_num, rfl, by omega, by have := Hk.out; have := Hne.out; omega, by have := Hk.out; omega, H7.out, HR2.out, hW2, dW2⟩
         case round =>
          clear hW2 dW2 H6 H7 HR2 Hpv Hdn
          obtain ⟨i, j, d, rfl, rfl, hai, hij, hjb, hds, hr, h0, s0⟩ := hrel
          obtain ⟨pv, hpv⟩ : ∃ pv, d[a]! = pv := ⟨_, rfl⟩
          have hr3 := hr
          rw [partLoop_eq] at hr3
          simp only [hpv] at hr3
          have Hr3 := SL.hid hr3; have H6 := SL.hid hds; have Hpv := SL.hid hpv; have H0 := SL.hid h0
          clear hr hr3 hds hpv h0
          go_wp2_with fail
          go_loopw [10] (fun u wr => UpRel (fun x => ltInt x pv) g d i j tl F w u wr) (fun u _ => j + 1 - (intOf u).toNat)
          case atStart => exact ⟨i, rfl, Nat.le_refl _, by omega, rfl, H0.out, s0⟩
          case round =>
           clear H0 s0
           obtain ⟨i', rfl, hi1, hi2, hsc, hsat, hside⟩ := hrel
           have HS := SL.hid hsat
           have hr2 : Hid (scanUp (fun x => ltInt x pv) d j i' = scanUp (fun x => ltInt x pv) d j i) := SL.hid hsc
           clear hsc
           by_cases hg : i' ≤ j
           ·have hg' : (i' : Int) ≤ (j : Int) := by omega
            have cx := uA_cell hsat (k := i') (by rw [H6.out]; omega)
            have ca := uA_cell hsat (k := a) (by rw [H6.out]; omega)
            have bx : (i' : Int) < (d0.size : Int) := by omega
            rw [Hpv.out] at ca
            generalize hx : d[i']! = x at *
            have Hx := SL.hid hx
            clear hx hsat
            cases hcmp : ltInt x pv with
            | true =>
             have HL : Hid (∀ w, Calls Tryz.prog 148 #[.int .u32 x, .int .u32 pv] w fun e w' => e = .returned (.bool true) ∧ w' = w) := SL.hid (fun w => by have := less_any x pv w; rwa [hcmp] at this)
             have hnext := su_go (p := fun x => ltInt x pv) hg (by rw [Hx.out]; simp [hcmp])
             rw [hr2.out] at hnext
             have Hn := SL.hid hnext.symm
             clear hnext hcmp
             go_wp2_with fail
             go_quiet ((go_at_call 148; exact Calls.quiet_of_same (HL.out _)))
             go_wp2_with fail
             go_roundw
             case rel => exact ⟨i' + 1, by go_num, by omega, by omega, Hn.out, HS.out.drew, hside.drewN nq⟩
             case measure => simp [intOf]; omega
            | false =>
             have HL : Hid (∀ w, Calls Tryz.prog 148 #[.int .u32 x, .int .u32 pv] w fun e w' => e = .returned (.bool false) ∧ w' = w) := SL.hid (fun w => by have := less_any x pv w; rwa [hcmp] at this)
             have hstop := su_stop2 (p := fun x => ltInt x pv) (d := d) (i := i') (j := j) (by rw [Hx.out]; simp [hcmp])
             rw [hr2.out] at hstop
             have Hstup := SL.hid hstop
             have Hqup : Hid (ltInt d[i']! pv = false) := SL.hid (by rw [Hx.out]; exact hcmp)
             clear hstop hcmp
             go_wp2_with fail
             go_quiet ((go_at_call 148; exact Calls.quiet_of_same (HL.out _)))
             have hHup : Sat (wr.drewN nq) (uA g d tl * F) := HS.out.drew
             have sup : Side w (wr.drewN nq) := hside.drewN nq
             generalize wr.drewN nq = wup at *
             have Hup := SL.hid hHup
             clear hHup cx ca
             go_wp2_with fail
             go_loopw [11] (fun u wr => DnRel (fun x => !ltInt x pv) g d i' j tl F w u wr) (fun u _ => (intOf u + 1).toNat)
             case atStart => exact ⟨j, rfl, Nat.le_refl _, by omega, rfl, Hup.out, sup⟩
             case round =>
              clear Hup sup
              obtain ⟨j', rfl, hi1, hi2, hsc, hsat, hside⟩ := hrel
              have HS := SL.hid hsat
              have hr2 : Hid (scanDown (fun x => !ltInt x pv) d i' j' = scanDown (fun x => !ltInt x pv) d i' j) := SL.hid hsc
              clear hsc
              by_cases hg : i' ≤ j'
              ·have hg' : (i' : Int) ≤ (j' : Int) := by omega
               have cx := uA_cell hsat (k := j') (by rw [H6.out]; omega)
               have ca := uA_cell hsat (k := a) (by rw [H6.out]; omega)
               have bx : (j' : Int) < (d0.size : Int) := by omega
               rw [Hpv.out] at ca
               generalize hx : d[j']! = x at *
               have Hx := SL.hid hx
               clear hx hsat
               cases hcmp : ltInt x pv with
               | true =>
                have HL : Hid (∀ w, Calls Tryz.prog 148 #[.int .u32 x, .int .u32 pv] w fun e w' => e = .returned (.bool true) ∧ w' = w) := SL.hid (fun w => by have := less_any x pv w; rwa [hcmp] at this)
                have hstop := sd_stop2 (p := fun x => !ltInt x pv) (d := d) (i := i') (j := j') (by rw [Hx.out]; simp [hcmp])
                rw [hr2.out] at hstop
                have Hstdn := SL.hid hstop
                have Hqdn : Hid (ltInt d[j']! pv = true) := SL.hid (by rw [Hx.out]; exact hcmp)
                clear hstop hcmp
                go_wp2_with fail
                go_quiet ((go_at_call 148; exact Calls.quiet_of_same (HL.out _)))
                have hHdn : Sat (wr.drewN nq) (uA g d tl * F) := HS.out.drew
                have sdn : Side w (wr.drewN nq) := hside.drewN nq
                generalize wr.drewN nq = wdn at *
                have Hdn := SL.hid hHdn
                clear hHdn cx ca
                have hbr : ¬ j' < i' := by omega
                have hne : i' ≠ j' := fun h => by have h1 := Hqup.out; have h2 := Hqdn.out; rw [h] at h1; rw [h1] at h2; cases h2
                have hbr' : ¬ (j' : Int) < (i' : Int) := by omega
                have hfin := Hr3.out
                rw [Hstup.out, Hstdn.out, if_neg hbr] at hfin
                obtain ⟨k, hk⟩ : ∃ k, j' = k + 1 := ⟨j' - 1, by omega⟩
                rw [show j' - 1 = k by omega] at hfin
                have hk1 : (j' : Int) - 1 = (k : Int) := by omega
                have hds3 : (swp d i' j').size = d0.size := by rw [← H6.out]; simp [swp]
                have Hf2 := SL.hid hfin; have Hk := SL.hid hk; have H7 := SL.hid hds3; have Hne := SL.hid hne
                clear hfin hk hds3 hne Hqup Hqdn
                obtain ⟨ci, cj, fi, fj, ⟨v, hv⟩, fj2, hs⟩ := uA_swp Hdn.out (i := i') (j := j') (by rw [H6.out]; omega) (by rw [H6.out]; omega)
                generalize d[i']! = di at *
                generalize d[j']! = dj at *
                have H1 := SL.hid hs
                have bi : (i' : Int) < (d0.size : Int) := by omega
                have bj : (j' : Int) < (d0.size : Int) := by omega
                clear hs
                go_wp2_with fail
                go_region_law (fail)
                all_goals
                 go_wp2
                 go_roundw
                 case rel => exact ⟨i' + 1, k, swp d i' j', by go_num, rfl, by omega, by have := Hk.out; have := Hne.out; omega, by have := Hk.out; omega, H7.out, Hf2.out, H1.out.drew, ((sdn.setCell _ _).setCell _ _).drew⟩
                 case measure => have := Hk.out; simp [intOf]; omega
               | false =>
                have HL : Hid (∀ w, Calls Tryz.prog 148 #[.int .u32 x, .int .u32 pv] w fun e w' => e = .returned (.bool false) ∧ w' = w) := SL.hid (fun w => by have := less_any x pv w; rwa [hcmp] at this)
                obtain ⟨k, hk⟩ : ∃ k, j' = k + 1 := ⟨j' - 1, by omega⟩
                have hnext := sd_go (p := fun x => !ltInt x pv) hk hg (by rw [Hx.out]; simp [hcmp])
                rw [hr2.out] at hnext
                have hk1 : (j' : Int) - 1 = (k : Int) := by omega
                have Hk := SL.hid hk
                clear hk
                have Hn := SL.hid hnext.symm
                clear hnext hcmp
                go_wp2_with fail
                go_quiet ((go_at_call 148; exact Calls.quiet_of_same (HL.out _)))
                go_wp2_with fail
                go_roundw
                case rel => exact ⟨k, rfl, by have := Hk.out; omega, by have := Hk.out; omega, Hn.out, HS.out.drew, hside.drewN nq⟩
                case measure => have := Hk.out; simp [intOf]; omega
              ·have hg' : ¬ (i' : Int) ≤ (j' : Int) := by omega
               have hgd : decide (i' ≤ j') = false := decide_eq_false hg
               have hgd2 : decide ((i' : Int) ≤ (j' : Int)) = false := decide_eq_false (by omega)
               have hstop := sd_stop1 (p := fun x => !ltInt x pv) (d := d) (i := i') (j := j') hg
               rw [hr2.out] at hstop
               have Hstdn := SL.hid hstop
               clear hstop hsat
               go_wp2_with fail
               go_quiet (fail)
               have hHdn : Sat (wr.drewN nq) (uA g d tl * F) := HS.out.drew
               have sdn : Side w (wr.drewN nq) := hside.drewN nq
               generalize wr.drewN nq = wdn at *
               have Hdn := SL.hid hHdn
               clear hHdn hgd hgd2
               have hbr : j' < i' := by omega
               have hbr' : (j' : Int) < (i' : Int) := by omega
               have hfin := Hr3.out
               rw [Hstup.out, Hstdn.out, if_pos hbr] at hfin
               have hfin2 := Hfin.out
               rw [← hfin] at hfin2
               have Hf2 := SL.hid hfin2
               clear hfin hfin2
               obtain ⟨ci, cj, fi, fj, ⟨v, hv⟩, fj2, hs⟩ := uA_swp Hdn.out (i := j') (j := a) (by rw [H6.out]; omega) (by rw [H6.out]; omega)
               generalize d[j']! = di at *
               generalize d[a]! = dj at *
               have H1 := SL.hid hs
               have bj : (j' : Int) < (d0.size : Int) := by omega
               clear hs
               go_wp2_with fail
               go_region_law (fail)
               all_goals
                go_wp2
                go_ret2
                rw [Hf2.out]
                exact ⟨rfl, H1.out.drew, ((sdn.setCell _ _).setCell _ _).drew⟩
           ·have hg' : ¬ (i' : Int) ≤ (j : Int) := by omega
            have hgd : decide (i' ≤ j) = false := decide_eq_false hg
            have hgd2 : decide ((i' : Int) ≤ (j : Int)) = false := decide_eq_false (by omega)
            have hstop := su_stop1 (p := fun x => ltInt x pv) (d := d) (i := i') (j := j) hg
            rw [hr2.out] at hstop
            have Hstup := SL.hid hstop
            clear hstop hsat
            go_wp2_with fail
            go_quiet (fail)
            have hHup : Sat (wr.drewN nq) (uA g d tl * F) := HS.out.drew
            have sup : Side w (wr.drewN nq) := hside.drewN nq
            generalize wr.drewN nq = wup at *
            have Hup := SL.hid hHup
            clear hHup hgd hgd2
            go_wp2_with fail
            go_loopw [11] (fun u wr => DnRel (fun x => !ltInt x pv) g d i' j tl F w u wr) (fun u _ => (intOf u + 1).toNat)
            case atStart => exact ⟨j, rfl, Nat.le_refl _, by omega, rfl, Hup.out, sup⟩
            case round =>
             clear Hup sup
             obtain ⟨j', rfl, hi1, hi2, hsc, hsat, hside⟩ := hrel
             have HS := SL.hid hsat
             have hr2 : Hid (scanDown (fun x => !ltInt x pv) d i' j' = scanDown (fun x => !ltInt x pv) d i' j) := SL.hid hsc
             clear hsc
             by_cases hg : i' ≤ j'
             ·exact absurd hg (by omega)
             ·have hg' : ¬ (i' : Int) ≤ (j' : Int) := by omega
              have hgd : decide (i' ≤ j') = false := decide_eq_false hg
              have hgd2 : decide ((i' : Int) ≤ (j' : Int)) = false := decide_eq_false (by omega)
              have hstop := sd_stop1 (p := fun x => !ltInt x pv) (d := d) (i := i') (j := j') hg
              rw [hr2.out] at hstop
              have Hstdn := SL.hid hstop
              clear hstop hsat
              go_wp2_with fail
              go_quiet (fail)
              have hHdn : Sat (wr.drewN nq) (uA g d tl * F) := HS.out.drew
              have sdn : Side w (wr.drewN nq) := hside.drewN nq
              generalize wr.drewN nq = wdn at *
              have Hdn := SL.hid hHdn
              clear hHdn hgd hgd2
              have hbr : j' < i' := by omega
              have hbr' : (j' : Int) < (i' : Int) := by omega
              have hfin := Hr3.out
              rw [Hstup.out, Hstdn.out, if_pos hbr] at hfin
              have hfin2 := Hfin.out
              rw [← hfin] at hfin2
              have Hf2 := SL.hid hfin2
              clear hfin hfin2
              obtain ⟨ci, cj, fi, fj, ⟨v, hv⟩, fj2, hs⟩ := uA_swp Hdn.out (i := j') (j := a) (by rw [H6.out]; omega) (by rw [H6.out]; omega)
              generalize d[j']! = di at *
              generalize d[a]! = dj at *
              have H1 := SL.hid hs
              have bj : (j' : Int) < (d0.size : Int) := by omega
              clear hs
              go_wp2_with fail
              go_region_law (fail)
              all_goals
               go_wp2
               go_ret2
               rw [Hf2.out]
               exact ⟨rfl, H1.out.drew, ((sdn.setCell _ _).setCell _ _).drew⟩
       | false =>
        have HL : Hid (∀ w, Calls Tryz.prog 148 #[.int .u32 x, .int .u32 pv] w fun e w' => e = .returned (.bool false) ∧ w' = w) := SL.hid (fun w => by have := less_any x pv w; rwa [hcmp] at this)
        obtain ⟨k, hk⟩ : ∃ k, j' = k + 1 := ⟨j' - 1, by omega⟩
        have hnext := sd_go (p := fun x => !ltInt x pv) hk hg (by rw [Hx.out]; simp [hcmp])
        rw [hr2.out] at hnext
        have hk1 : (j' : Int) - 1 = (k : Int) := by omega
        have Hk := SL.hid hk
        clear hk
        have Hn := SL.hid hnext.symm
        clear hnext hcmp
        go_wp2_with fail
        go_quiet ((go_at_call 148; exact Calls.quiet_of_same (HL.out _)))
        go_wp2_with fail
        go_roundw
        case rel => exact ⟨k, rfl, by have := Hk.out; omega, by have := Hk.out; omega, Hn.out, HS.out.drew, hside.drewN nq⟩
        case measure => have := Hk.out; simp [intOf]; omega
      ·have hg' : ¬ (i' : Int) ≤ (j' : Int) := by omega
       have hgd : decide (i' ≤ j') = false := decide_eq_false hg
       have hgd2 : decide ((i' : Int) ≤ (j' : Int)) = false := decide_eq_false (by omega)
       have hstop := sd_stop1 (p := fun x => !ltInt x pv) (d := d) (i := i') (j := j') hg
       rw [hr2.out] at hstop
       have Hstdn := SL.hid hstop
       clear hstop hsat
       go_wp2_with fail
       go_quiet (fail)
       have hHdn : Sat (wr.drewN nq) (uA g d tl * F) := HS.out.drew
       have sdn : Side w (wr.drewN nq) := hside.drewN nq
       generalize wr.drewN nq = wdn at *
       have Hdn := SL.hid hHdn
       clear hHdn hgd hgd2
       have hbr : j' < i' := by omega
       have hbr' : (j' : Int) < (i' : Int) := by omega
       have hfin := partition_early Hd.out Hpv.out (i := i') (j := j') (by rw [← Hb'.out, ← Hi.out]; exact Hstup.out) (by rw [← Hb'.out]; exact Hstdn.out) hbr
       rw [HR.out] at hfin
       have Hfin := SL.hid hfin
       clear hfin
       obtain ⟨ci, cj, fi, fj, ⟨v, hv⟩, fj2, hs⟩ := uA_swp Hdn.out (i := j') (j := a) (by rw [H6.out]; omega) (by rw [H6.out]; omega)
       generalize d[j']! = di at *
       generalize d[a]! = dj at *
       have H1 := SL.hid hs
       have bj : (j' : Int) < (d0.size : Int) := by omega
       clear hs
       go_wp2_with fail
       go_region_law (fail)
       all_goals
        go_wp2
        go_ret2
        rw [Hfin.out]
        exact ⟨rfl, H1.out.drew, ((sdn.setCell _ _).setCell _ _).drew⟩
   ·have hg' : ¬ (i' : Int) ≤ (j : Int) := by omega
    have hgd : decide (i' ≤ j) = false := decide_eq_false hg
    have hgd2 : decide ((i' : Int) ≤ (j : Int)) = false := decide_eq_false (by omega)
    have hstop := su_stop1 (p := fun x => ltInt x pv) (d := d) (i := i') (j := j) hg
    rw [hr2.out] at hstop
    have Hstup := SL.hid hstop
    clear hstop hsat
    go_wp2_with fail
    go_quiet (fail)
    have hHup : Sat (wr.drewN nq) (uA g d tl * F) := HS.out.drew
    have sup : Side w (wr.drewN nq) := hside.drewN nq
    generalize wr.drewN nq = wup at *
    have Hup := SL.hid hHup
    clear hHup hgd hgd2
    go_wp2_with fail
    go_loopw [11] (fun u wr => DnRel (fun x => !ltInt x pv) g d i' j tl F w u wr) (fun u _ => (intOf u + 1).toNat)
    case atStart => exact ⟨j, rfl, Nat.le_refl _, by omega, rfl, Hup.out, sup⟩
    case round =>
     clear Hup sup
     obtain ⟨j', rfl, hi1, hi2, hsc, hsat, hside⟩ := hrel
     have HS := SL.hid hsat
     have hr2 : Hid (scanDown (fun x => !ltInt x pv) d i' j' = scanDown (fun x => !ltInt x pv) d i' j) := SL.hid hsc
     clear hsc
     by_cases hg : i' ≤ j'
     ·exact absurd hg (by omega)
     ·have hg' : ¬ (i' : Int) ≤ (j' : Int) := by omega
      have hgd : decide (i' ≤ j') = false := decide_eq_false hg
      have hgd2 : decide ((i' : Int) ≤ (j' : Int)) = false := decide_eq_false (by omega)
      have hstop := sd_stop1 (p := fun x => !ltInt x pv) (d := d) (i := i') (j := j') hg
      rw [hr2.out] at hstop
      have Hstdn := SL.hid hstop
      clear hstop hsat
      go_wp2_with fail
      go_quiet (fail)
      have hHdn : Sat (wr.drewN nq) (uA g d tl * F) := HS.out.drew
      have sdn : Side w (wr.drewN nq) := hside.drewN nq
      generalize wr.drewN nq = wdn at *
      have Hdn := SL.hid hHdn
      clear hHdn hgd hgd2
      have hbr : j' < i' := by omega
      have hbr' : (j' : Int) < (i' : Int) := by omega
      have hfin := partition_early Hd.out Hpv.out (i := i') (j := j') (by rw [← Hb'.out, ← Hi.out]; exact Hstup.out) (by rw [← Hb'.out]; exact Hstdn.out) hbr
      rw [HR.out] at hfin
      have Hfin := SL.hid hfin
      clear hfin
      obtain ⟨ci, cj, fi, fj, ⟨v, hv⟩, fj2, hs⟩ := uA_swp Hdn.out (i := j') (j := a) (by rw [H6.out]; omega) (by rw [H6.out]; omega)
      generalize d[j']! = di at *
      generalize d[a]! = dj at *
      have H1 := SL.hid hs
      have bj : (j' : Int) < (d0.size : Int) := by omega
      clear hs
      go_wp2_with fail
      go_region_law (fail)
      all_goals
       go_wp2
       go_ret2
       rw [Hfin.out]
       exact ⟨rfl, H1.out.drew, ((sdn.setCell _ _).setCell _ _).drew⟩
end Go.Proofs.YtdafdidmbeecfaaGreatDoor
end

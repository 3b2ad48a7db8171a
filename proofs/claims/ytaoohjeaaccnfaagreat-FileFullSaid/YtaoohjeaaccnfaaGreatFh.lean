/- bitmap: New, Is, Set, Take. bitmap: All, Count. -/
import Derived.Test.YtaoohjeaaccnfaaGreatFb
import Derived.Deep.DeepCutAuto
import Derived.BigQuiet
import Derived.Deep.QuietTactic
import Derived.Deep.CutBlock
import Derived.Deep.CutRange
import Derived.OwnWalkIn
import Derived.TacticsInMore
import Derived.LoopNIn
import Derived.LoopIn
import Derived.Deep.LoopGhost
import Derived.Test.YtaoohjeaaccnfaaGreatRf
namespace Go.SL
set_option linter.unusedVariables false
set_option linter.unusedSimpArgs false
open Go.RowKit
def flipN (x k : Nat) : Nat := if x / 2 ^ k % 2 = 1 then x - 2 ^ k else x + 2 ^ k
def bitAt (l : List UInt8) (n : Nat) : Bool := decide ((l.getD (n / 8) 0).toNat / 2 ^ (n % 8) % 2 = 1)
def flipBit (l : List UInt8) (n : Nat) : List UInt8 := l.set (n / 8) (UInt8.ofNat (flipN (l.getD (n / 8) 0).toNat (n % 8)))
def setTo (l : List UInt8) (n : Nat) (t : Bool) : List UInt8 := if bitAt l n = t then l else flipBit l n
theorem flipBit_length (l : List UInt8) (n : Nat) : (flipBit l n).length = l.length := List.length_set
theorem setTo_length (l : List UInt8) (n : Nat) (t : Bool) : (setTo l n t).length = l.length := by unfold setTo; split; rfl; exact flipBit_length _ _
theorem flip_fin : ∀ x : Fin 256, ∀ k : Fin 8, flipN x k < 256 ∧ ∀ j : Fin 8, (flipN x k / 2 ^ j.val % 2 = 1 ↔ if j = k then ¬ x.val / 2 ^ k.val % 2 = 1 else x.val / 2 ^ j.val % 2 = 1) := by decide +kernel
theorem flip_lt {x k : Nat} (hx : x < 256) (hk : k < 8) : flipN x k < 256 := (flip_fin ⟨x, hx⟩ ⟨k, hk⟩).1
theorem flip_bit {x k j : Nat} (hx : x < 256) (hk : k < 8) (hj : j < 8) : (flipN x k / 2 ^ j % 2 = 1) ↔ if j = k then ¬ x / 2 ^ k % 2 = 1 else x / 2 ^ j % 2 = 1 := by
  have := (flip_fin ⟨x, hx⟩ ⟨k, hk⟩).2 ⟨j, hj⟩
  simpa using this
theorem bitAt_flip {l : List UInt8} {n : Nat} (hn : n / 8 < l.length) (m : Nat) : bitAt (flipBit l n) m = if m = n then !bitAt l n else bitAt l m := by
  have hx : (l.getD (n / 8) 0).toNat < 256 := UInt8.toNat_lt _
  unfold bitAt flipBit
  by_cases hm : m / 8 = n / 8
  · have e : (l.set (n / 8) (UInt8.ofNat (flipN (l.getD (n / 8) 0).toNat (n % 8)))).getD (m / 8) 0 = UInt8.ofNat (flipN (l.getD (n / 8) 0).toNat (n % 8)) := by
      rw [hm]; simp [List.getD, List.getElem?_set, hn]
    rw [e, UInt8.toNat_ofNat_of_lt' (flip_lt hx (Nat.mod_lt _ (by decide)))]
    have hb := flip_bit hx (Nat.mod_lt n (by decide : 8 > 0)) (Nat.mod_lt m (by decide : 8 > 0))
    rw [hm]
    by_cases hmn : m = n
    · subst hmn
      rw [if_pos rfl] at hb ⊢
      rw [Bool.eq_iff_iff]
      simp only [decide_eq_true_eq, Bool.not_eq_true', decide_eq_false_iff_not]
      exact hb
    · rw [if_neg (by omega)] at hb
      rw [if_neg hmn]
      exact decide_eq_decide.2 hb
  · have e : (l.set (n / 8) (UInt8.ofNat (flipN (l.getD (n / 8) 0).toNat (n % 8)))).getD (m / 8) 0 = l.getD (m / 8) 0 := by
      simp [List.getD, List.getElem?_set, Ne.symm hm]
    rw [e, if_neg (by intro h; exact hm (by rw [h]))]
theorem bitAt_set {l : List UInt8} {n : Nat} (hn : n / 8 < l.length) (t : Bool) (m : Nat) : bitAt (setTo l n t) m = if m = n then t else bitAt l m := by
  unfold setTo
  split
  · rename_i h
    split
    · rename_i h2; rw [h2]; exact h
    · rfl
  · rename_i h
    rw [bitAt_flip hn]
    split
    · cases hb : bitAt l n <;> cases t <;> simp_all
    · rfl
/-- The lowest number below end whose bit is 0. -/
def freeOf (l : List UInt8) (e : Nat) : Option Nat := (List.range e).find? fun n => !bitAt l n
theorem and_fin : ∀ x : Fin 256, ∀ k : Fin 8, (bits .and .u8 ((x.val : Int) / 2 ^ k.val) 1 == 1) = decide (x.val / 2 ^ k.val % 2 = 1) := by decide +kernel
theorem xor_fin : ∀ x : Fin 256, ∀ k : Fin 8, bits .xor .u8 (x.val : Int) (2 ^ k.val % 256) = (flipN x.val k.val : Int) := by decide +kernel
theorem bs_set {w : World} {T : TypeId} {v : Value} {l : List UInt8} {F : Assn} (h : Sat w (bs T v l * F)) {i : Nat} (hi : i < l.length) :
    ∃ g c, v = .slice (some ⟨g, 0, none⟩) l.length c ∧ l.length ≤ c ∧ c ≤ maxLen ∧ (∀ j, j < l.length → w.cell? ⟨g, j, none⟩ = some (u8 (l.getD j 0))) ∧ w.frozen? ⟨g, i, none⟩ = false ∧ ∀ x, Sat (w.setCell ⟨g, i, none⟩ (u8 x)) (bs T v (l.set i x) * F) := by
  rcases h.slCases with ⟨_, h0, _⟩ | ⟨g, cap, cur, rfl, h3, h4, h5, h6, h7⟩
  · omega
  · refine ⟨g, cap, rfl, h3, h4, fun j hj => ?_, h7.frozen i, fun x => ?_⟩
    · rw [h7.cell]
      have e := congrArg (·[j]?) h6
      simp only [List.getElem?_take, Nat.mul_one, hj, if_true, List.getElem?_map, Array.getElem?_toList] at e
      rw [e, List.getElem?_eq_getElem hj, List.getD, List.getElem?_eq_getElem hj]; rfl
    · have h8 := h7.setCell i (u8 x)
      have := Sat.slOf (sz := 1) (n := l.length) (cap := cap) h8 h3 h4 (by rw [Array.size_setIfInBounds]; exact h5)
      refine this.to ?_
      rw [bs, List.length_set]
      congr 2
      rw [Array.toList_setIfInBounds, List.take_set, h6, List.map_set]
end Go.SL
namespace Go.Proofs.YtaoohjeaaccnfaaGreat.Fs
set_option linter.unusedVariables false
set_option linter.unusedSimpArgs false
open Go.RowKit Go.SL Go.Proofs.YtaoohjeaaccnfaaGreat.Ba
theorem bs_made {w : World} {F : Assn} (n : Nat) (hn : n ≤ 1000000) (h : Sat w F) : Sat (w.alloc (.cells (u8s (zs n)) 5 (0, 0))) (bs 5 (.slice (some ⟨w.heap.size, 0, none⟩) n n) (zs n) * F) := by
  have := Sat.slOf (sz := 1) (n := n) (cap := n) (h.alloc (.cells (u8s (zs n)) 5 (0, 0))) (Nat.le_refl _) (by unfold maxLen; omega) (by simp [size_u8s, length_zs])
  rw [bs, length_zs]
  refine this.to ?_
  congr 2
  simp only [u8s, Nat.mul_one, List.toList_toArray]
  rw [List.take_of_length_le (by simp [length_zs])]
set_option maxRecDepth 100000 in
theorem bnew_any (w : World) : Calls Tryz.prog 61 #[] w (BsQ (zs 480) w) := by
  have hmk : ∀ w, (Instr.makeSlice 48 (.int .i64 480) (.int .i64 480)).run Tryz.prog w =
    .ok (.slice (some ⟨w.heap.size, 0, none⟩) 480 480) (w.alloc (.cells (u8s (zs 480)) 5 (0, 0))) := make_bytes 480 (by omega)
  have hB := bs_made 480 (by decide) (Sat.whole w)
  have dA := (Side.refl w).alloc (.cells (u8s (zs 480)) 5 (0, 0))
  generalize zs 480 = Z at *
  go_enter Tryz.func61, Tryz.ntmps61
  go_wp2
  go_ret
  exact ⟨_, rfl, hB, dA⟩
theorem inside_any (w : World) (v : Value) (l : List UInt8) (hr : Rd w v l) (hl : l.length = 480) (n : Nat) (hn : n < 3840) :
    Calls Tryz.prog 125 #[v, .int .i64 (n : Int)] w fun e w' => e = .returned (.bool true) ∧ w = w' := by
  obtain ⟨va, vc, rfl⟩ := hr.shape
  rw [hl]
  have hn' : (n : Int) < 3840 := by omega
  clear hr hl
  go_enter Tryz.func125, Tryz.ntmps125
  go_wp2
  go_ret
  exact ⟨rfl, rfl⟩
def BoolIs (b : Bool) (w : World) (e : Ending) (w' : World) : Prop := e = .returned (.bool b) ∧ w = w'
set_option maxRecDepth 100000 in
set_option maxHeartbeats 1000000 in
theorem is_any (w : World) (v : Value) (l : List UInt8) (hr : Rd w v l) (hl : l.length = 480) (n : Nat) (hn : n < 3840) :
    Calls Tryz.prog 114 #[v, .int .i64 (n : Int)] w (BoolIs (bitAt l n) w) := by
  have hin := inside_any w v l hr hl n hn
  obtain ⟨va, vc, rfl⟩ := hr.shape
  obtain ⟨g, o, rfl, hcell⟩ := hr.at (by omega)
  have hc := hcell (n / 8) (l.getD (n / 8) 0) (by rw [List.getD, List.getElem?_eq_getElem (by omega)]; rfl)
  have hx : (l.getD (n / 8) 0).toNat < 256 := UInt8.toNat_lt _
  have hb := and_fin ⟨_, hx⟩ ⟨n % 8, Nat.mod_lt _ (by decide)⟩
  have hbit : bitAt l n = decide ((l.getD (n / 8) 0).toNat / 2 ^ (n % 8) % 2 = 1) := rfl
  dsimp only at hb
  rw [← hbit] at hb
  have Hb := SL.hid hb
  rw [hl] at *
  have hq : ((n : Int)).tdiv 8 = ((n / 8 : Nat) : Int) := by rw [Int.tdiv_eq_ediv_of_nonneg (by omega)]; omega
  have hm : ((n : Int)).tmod 8 = ((n % 8 : Nat) : Int) := by rw [Int.tmod_eq_emod_of_nonneg (by omega)]; omega
  unfold u8 at hc
  have hq8 : ((n / 8 : Nat) : Int) < 480 := by omega
  have hm8 : ((n % 8 : Nat) : Int) < 8 := by omega
  have hx0 : 0 ≤ ((l.getD (n / 8) 0).toNat : Int) := by omega
  have hx1 : ((l.getD (n / 8) 0).toNat : Int) < 256 := by omega
  generalize ((l.getD (n / 8) 0).toNat : Int) = x at *
  generalize bitAt l n = b at *
  clear hb hcell hr hbit
  go_enter Tryz.func114, Tryz.ntmps114
  go_wp2_with fail
  (with_reducible refine hin.mono ?_)
  rintro e w2 ⟨rfl, rfl⟩
  clear hin
  go_wp2
  go_ret
  exact ⟨by show Ending.returned (.bool (bits .and .u8 (x / 2 ^ (n % 8)) 1 == 1)) = _; rw [Hb.out], rfl⟩
def SetQ (v : Value) (l : List UInt8) (n : Nat) (t : Bool) (F : Assn) (w : World) (e : Ending) (w' : World) : Prop :=
  e = .returned (.bool (bitAt l n != t)) ∧ Sat w' (bs 5 v (setTo l n t) * F) ∧ Side w w'
set_option maxRecDepth 100000 in
set_option maxHeartbeats 1000000 in
theorem set_any (w : World) (v : Value) (l : List UInt8) (F : Assn) (h : Sat w (bs 5 v l * F)) (hl : l.length = 480) (n : Nat) (hn : n < 3840) (t : Bool) :
    Calls Tryz.prog 96 #[v, .int .i64 (n : Int), .bool t] w (SetQ v l n t F w) := by
  have hin := inside_any w v l h.rds hl n hn
  have his := is_any w v l h.rds hl n hn
  obtain ⟨g, c, rfl, hc1, hc2, hcell, hfz, hset⟩ := bs_set h (i := n / 8) (by omega)
  have hc := hcell (n / 8) (by omega)
  have hx : (l.getD (n / 8) 0).toNat < 256 := UInt8.toNat_lt _
  have hxo := xor_fin ⟨_, hx⟩ ⟨n % 8, Nat.mod_lt _ (by decide)⟩
  dsimp only at hxo
  have hset2 := hset (UInt8.ofNat (flipN (l.getD (n / 8) 0).toNat (n % 8)))
  have hfl : l.set (n / 8) (UInt8.ofNat (flipN (l.getD (n / 8) 0).toNat (n % 8))) = flipBit l n := rfl
  rw [hfl] at hset2
  have hu : u8 (UInt8.ofNat (flipN (l.getD (n / 8) 0).toNat (n % 8))) = .int .u8 (flipN (l.getD (n / 8) 0).toNat (n % 8) : Int) := by
    unfold u8; rw [UInt8.toNat_ofNat_of_lt' (flip_lt hx (Nat.mod_lt _ (by decide)))]
  rw [hu] at hset2
  have Hset := SL.hid hset2
  rw [hl] at *
  have hq : ((n : Int)).tdiv 8 = ((n / 8 : Nat) : Int) := by rw [Int.tdiv_eq_ediv_of_nonneg (by omega)]; omega
  have hm : ((n : Int)).tmod 8 = ((n % 8 : Nat) : Int) := by rw [Int.tmod_eq_emod_of_nonneg (by omega)]; omega
  unfold u8 at hc
  have hq8 : ((n / 8 : Nat) : Int) < 480 := by omega
  have hm8 : ((n % 8 : Nat) : Int) < 8 := by omega
  have hx0 : 0 ≤ ((l.getD (n / 8) 0).toNat : Int) := by omega
  have hx1 : ((l.getD (n / 8) 0).toNat : Int) < 256 := by omega
  have Hh := SL.hid h
  obtain ⟨y, hy⟩ : ∃ y : Int, y = (flipN (l.getD (n / 8) 0).toNat (n % 8) : Int) := ⟨_, rfl⟩
  rw [← hy] at hxo Hset
  generalize ((l.getD (n / 8) 0).toNat : Int) = x at *
  have hst : (bitAt l n = t → setTo l n t = l) ∧ (bitAt l n ≠ t → setTo l n t = flipBit l n) := ⟨fun h => if_pos h, fun h => if_neg h⟩
  have Hst := SL.hid hst
  generalize hb : bitAt l n = b at *
  clear hset hset2 hcell h hfl hu hy hst
  by_cases hbt : b = t
  · subst hbt
    have e := Hst.out.1 rfl
    have He := SL.hid e
    clear e
    go_enter Tryz.func96, Tryz.ntmps96
    go_wp2_with fail
    (with_reducible refine hin.mono ?_)
    rintro e w2 ⟨rfl, rfl⟩
    clear hin
    go_wp2_with fail
    (with_reducible refine his.mono ?_)
    rintro e w2 ⟨rfl, rfl⟩
    clear his
    go_wp2
    go_ret
    refine ⟨?_, ?_, Side.refl w⟩
    · rw [hb]; simp
    · rw [He.out]; exact Hh.out
  · have e := Hst.out.2 hbt
    have He := SL.hid e
    have hbb : (b == t) = false := by simpa using hbt
    clear e
    go_enter Tryz.func96, Tryz.ntmps96
    go_wp2_with fail
    (with_reducible refine hin.mono ?_)
    rintro e w2 ⟨rfl, rfl⟩
    clear hin
    go_wp2_with fail
    (with_reducible refine his.mono ?_)
    rintro e w2 ⟨rfl, rfl⟩
    clear his
    go_wp2_with fail
    go_region
    all_goals
      go_wp2
      go_ret
      refine ⟨?_, ?_, ((Side.refl w).drew).setCell _ _⟩
      · rw [hb]
        have : (b != t) = true := by simpa using hbt
        rw [this]; rfl
      · rw [He.out]; exact Hset.out
def TakeRelB (v : Value) (l : List UInt8) (e : Nat) (F : Assn) (w : World) (u9 : Value) (wr : World) : Prop :=
  ∃ k : Nat, k ≤ e ∧ u9 = .int .i64 (k : Int) ∧ (∀ j, j < k → bitAt l j = true) ∧ Sat wr (bs 5 v l * F) ∧ Side w wr
theorem freeOf_some {l : List UInt8} {e n : Nat} (hn : n < e) (h0 : bitAt l n = false) (hall : ∀ j, j < n → bitAt l j = true) : freeOf l e = some n := by
  unfold freeOf
  rw [List.find?_eq_some_iff_getElem]
  refine ⟨by simp [h0], n, by simpa using hn, by simp, fun j hj => ?_⟩
  simp [hall j hj]
theorem freeOf_none {l : List UInt8} {e : Nat} (hall : ∀ j, j < e → bitAt l j = true) : freeOf l e = none := by
  unfold freeOf
  rw [List.find?_eq_none]
  intro x hx
  simp [hall x (List.mem_range.1 hx)]
set_option maxRecDepth 100000 in
set_option maxHeartbeats 1000000 in
theorem take_any (w : World) (v : Value) (l : List UInt8) (F : Assn) (h : Sat w (bs 5 v l * F)) (hl : l.length = 480) (e : Nat) (he : e ≤ 3840) (Q : Ending → World → Prop)
    (hN : freeOf l e = none → ∀ w', Sat w' (bs 5 v l * F) → Side w w' → Q (.returned (.tuple #[.int .i64 0, .bool false])) w')
    (hS : ∀ n, freeOf l e = some n → ∀ w', Sat w' (bs 5 v (setTo l n true) * F) → Side w w' → Q (.returned (.tuple #[.int .i64 (n : Int), .bool true])) w') :
    Calls Tryz.prog 80 #[v, .int .i64 (e : Int)] w Q := by
  have he' : (e : Int) ≤ 3840 := by omega
  have HN := SL.hid hN; have HS := SL.hid hS
  obtain ⟨va, vc, rfl⟩ := sl_shape h
  rw [hl] at h ⊢
  have hN2 := hN; have hS2 := hS
  rw [hl] at hN2 hS2
  have HN := SL.hid hN2; have HS := SL.hid hS2
  clear hN hS hN2 hS2
  go_enter Tryz.func80, Tryz.ntmps80
  go_wp2_with fail
  go_loopw [9] (fun u wr => TakeRelB (.slice va 480 vc) l e F w u wr) (fun u _ => e - (intOf u).toNat)
  case atStart => exact ⟨0, Nat.zero_le _, rfl, fun j hj => absurd hj (Nat.not_lt_zero _), h, Side.refl w⟩
  case round =>
    clear h
    obtain ⟨k, hk, rfl, hall, hsat, hside⟩ := hrel
    by_cases hlt : k < e
    · have hlt' : (k : Int) < (e : Int) := by omega
      have hst := set_any wr (.slice va 480 vc) l F hsat hl k (by omega) true
      cases hb : bitAt l k with
      | true =>
        have hb2 : (bitAt l k != true) = false := by rw [hb]; rfl
        have hs2 : setTo l k true = l := if_pos hb
        have hnx : ∀ j, j < k + 1 → bitAt l j = true := fun j hj => by
          rcases Nat.lt_or_eq_of_le (Nat.le_of_lt_succ hj) with h9 | h9
          · exact hall j h9
          · rw [h9]; exact hb
        unfold SetQ at hst
        rw [hb2, hs2] at hst
        have Hnx := SL.hid hnx
        clear hb hb2 hs2 hall hnx hsat
        go_wp2_with fail
        (with_reducible refine hst.mono ?_)
        rintro e2 w2 ⟨rfl, h2, d2⟩
        clear hst
        go_wp2_with fail
        go_roundw
        case rel => exact ⟨k + 1, by omega, by go_num, Hnx.out, h2, hside.trans d2⟩
        case measure => simp [intOf]; omega
      | false =>
        have hb2 : (bitAt l k != true) = true := by rw [hb]; rfl
        have hfr := freeOf_some hlt hb hall
        have Hfin := SL.hid (HS.out k hfr)
        unfold SetQ at hst
        rw [hb2] at hst
        clear hb hb2 hall hsat hfr
        go_wp2_with fail
        (with_reducible refine hst.mono ?_)
        rintro e2 w2 ⟨rfl, h2, d2⟩
        clear hst
        go_wp2_with fail
        exact Hfin.out _ h2 (hside.trans d2)
    · obtain rfl : k = e := by omega
      have Hfin := SL.hid (HN.out (freeOf_none hall))
      clear hall
      go_wp2_with fail
      exact Hfin.out _ hsat hside
end Go.Proofs.YtaoohjeaaccnfaaGreat.Fs
namespace Go.SL
set_option linter.unusedVariables false
set_option linter.unusedSimpArgs false
open Go.RowKit
/-- The numbers below e whose bit is 1. -/
def takenL (l : List UInt8) (e : Nat) : List Nat := (List.range e).filter (bitAt l)
theorem takenL_succ (l : List UInt8) (e : Nat) : takenL l (e + 1) = if bitAt l e = true then takenL l e ++ [e] else takenL l e := by
  unfold takenL
  rw [List.range_succ, List.filter_append]
  split
  · rename_i h; rw [List.filter_cons_of_pos h]; rfl
  · rename_i h; rw [List.filter_cons_of_neg h]; simp
theorem takenL_prefix (l : List UInt8) {k e : Nat} (h : k ≤ e) : takenL l k <+: takenL l e := by
  obtain ⟨d, rfl⟩ := Nat.exists_eq_add_of_le h
  induction d with
  | zero => exact List.prefix_refl _
  | succ d ih =>
    refine (ih (by omega)).trans ?_
    rw [show k + (d + 1) = (k + d) + 1 by omega, takenL_succ]
    split
    · exact List.prefix_append _ _
    · exact List.prefix_refl _
theorem takenL_length (l : List UInt8) (e : Nat) : (takenL l e).length ≤ e := by
  have := List.length_filter_le (bitAt l) (List.range e)
  simpa [takenL] using this
end Go.SL
namespace Go.Proofs.YtaoohjeaaccnfaaGreat.Fs
set_option linter.unusedVariables false
set_option linter.unusedSimpArgs false
open Go.RowKit Go.SL Go.Proofs.YtaoohjeaaccnfaaGreat.Ba
attribute [local go_sem] Oper.semAt_some
theorem callW {P : Program} {f : FuncId} {args : Array Value} {w : World} {R R' : Ending → World → Prop} {n m : Nat} (h : Calls P f args w R) (hr : ∀ e w, R e w → R' e w) :
    Fence.wide.fn f ∧ (Fence.wide.depth.isSome = true → 1 ≤ m) ∧ CallsIn Fence.wide n P f args w R' := ⟨trivial, fun h => (by cases h), (callsIn_wide.2 h).mono hr⟩
theorem callV {P : Program} {f : FuncId} {args : Array Value} {w : World} {R R' : Ending → World → Prop} {n : Nat} (h : Calls P f args w R) (hr : ∀ e w, R e w → R' e w) :
    Fence.wide.fn f ∧ CallsIn Fence.wide n P f args w R' := ⟨trivial, (callsIn_wide.2 h).mono hr⟩
def natT (x : Nat) (vs : Array Value) : Assn := fact (vs = #[.int .i64 (x : Int)])
def AllBIt (ex bx : Nat) (v : Value) (l : List UInt8) (e : Nat) : Assn :=
  pt bx (.cells #[v] 48 (0, 0)) * (pt ex (.cells #[.int .i64 (e : Int)] 3 (0, 0)) * bs 5 v l)
def AllBRel (A : List Nat → Assn) (l : List UInt8) (e : Nat) (X : Assn) (w0 : World) (u : Value) (wr : World) : Prop :=
  ∃ k : Nat, k ≤ e ∧ u = .int .i64 (k : Int) ∧ Side w0 wr ∧ Sat wr (A (takenL l k) * X)
set_option maxRecDepth 100000 in
set_option maxHeartbeats 2000000 in
theorem allB_iter (n : Nat) (ex bx : Nat) (va : Option Addr) (vc : Nat) (l : List UInt8) (e : Nat) (hl : l.length = 480) (he : e ≤ 3840) :
    Iterates Fence.wide n Tryz.prog 113 #[.pointer (some ⟨ex, 0, none⟩), .pointer (some ⟨bx, 0, none⟩)] (AllBIt ex bx (.slice va 480 vc) l e) natT (fun ys => ys = takenL l e) (fun ys => ys <+: takenL l e) := by
  intro lp A Ax G w0 w hY hs h0
  have he' : (e : Int) ≤ 3840 := by omega
  have h9 : Sat w (pt ex (.cells #[.int .i64 (e : Int)] 3 (0, 0)) * (A [] * (pt bx (.cells #[.slice va 480 vc] 48 (0, 0)) * (bs 5 (.slice va 480 vc) l * G)))) := h0.to (by unfold AllBIt; ac_rfl)
  have c0 : w.cell? ⟨ex, 0, none⟩ = some (.int .i64 (e : Int)) := h9.cell 0
  refine callsIn_of_wp Tryz.func113 rfl trivial ?_ rfl
  simp only [Tryz.ntmps113, List.size_toArray, List.length_cons, List.length_nil, Nat.reduceAdd, Nat.reduceSub, Array.replicate_succ, Array.replicate_zero, List.push_toArray, List.append_toArray, List.nil_append, List.cons_append]
  gi_wp2
  gi_loopw [7] (fun u wr => AllBRel A l e (AllBIt ex bx (.slice va 480 vc) l e * G) w0 u wr) (fun u _ => e - (intOf u).toNat)
  case atStart => exact ⟨0, Nat.zero_le _, rfl, hs, h0⟩
  case round =>
    clear h0 c0
    obtain ⟨k, hk, rfl, hside, hsat⟩ := hrel
    by_cases hlt : k < e
    · have hlt' : (k : Int) < (e : Int) := by omega
      have H2 : Sat wr (pt bx (.cells #[.slice va 480 vc] 48 (0, 0)) * (bs 5 (.slice va 480 vc) l * (A (takenL l k) * (pt ex (.cells #[.int .i64 (e : Int)] 3 (0, 0)) * G)))) := hsat.to (by unfold AllBIt; ac_rfl)
      have cb : wr.cell? ⟨bx, 0, none⟩ = some (.slice va 480 vc) := H2.cell 0
      have his := is_any wr (.slice va 480 vc) l H2.front2.rds hl k (by omega)
      have hsc := takenL_succ l k
      cases hb : bitAt l k with
      | false =>
        rw [hb] at his hsc
        have hsc2 : takenL l (k + 1) = takenL l k := hsc
        have Hsc := SL.hid hsc2
        have Hs := SL.hid hsat
        clear hb hsc hsc2 hsat H2
        gi_wp2_with fail
        refine callW his ?_
        rintro e2 w2 ⟨rfl, rfl⟩
        clear his
        gi_wp2
        refine ⟨fun f h => (by cases h), ?_⟩
        gi_wp2
        go_roundw
        gi_wp2
        have hrel' : AllBRel A l e (AllBIt ex bx (.slice va 480 vc) l e * G) w0 (.int .i64 ((k : Int) + 1)) wr := ⟨k + 1, by omega, by go_num, hside, by rw [Hsc.out]; exact Hs.out⟩
        all_goals first | exact hrel' | exact ⟨hrel', by simp [intOf]; omega⟩ | (simp [intOf]; omega)
      | true =>
        rw [hb] at his hsc
        have hsc2 : takenL l (k + 1) = takenL l k ++ [k] := hsc
        have hpre : takenL l k ++ [k] <+: takenL l e := by rw [← hsc2]; exact takenL_prefix l hlt
        obtain ⟨fn, tmps, assign, body, hy, hR⟩ := hY _ k #[.int .i64 (k : Int)] (AllBIt ex bx (.slice va 480 vc) l e * G) wr hpre hside (Sat.front2 (X1 := natT k #[.int .i64 (k : Int)]) (Sat.fact_iff.2 ⟨rfl, hsat⟩))
        have Hsc := SL.hid hsc2; have Hpre := SL.hid hpre
        clear hb hsc hsc2 hsat H2 hpre
        gi_wp2_with fail
        refine callW his ?_
        rintro e2 w2 ⟨rfl, rfl⟩
        clear his
        gi_wp2
        refine ⟨fun h => (by cases h), hR.mono ?_⟩
        rintro e W' (⟨rfl, hs5, hsat5⟩ | ⟨rfl, hs5, hsat5⟩)
        · gi_wp2
          have hrel' : AllBRel A l e (AllBIt ex bx (.slice va 480 vc) l e * G) w0 (.int .i64 ((k : Int) + 1)) W' := ⟨k + 1, by omega, by go_num, hs5, by rw [Hsc.out]; exact hsat5⟩
          all_goals first | exact hrel' | exact ⟨hrel', by simp [intOf]; omega⟩ | (simp [intOf]; omega)
        · gi_wp2
          refine bodyPost_ret (results_none rfl _ _ _) rfl ?_
          exact ⟨⟨_, rfl⟩, hs5, .inr ⟨_, Hpre.out, hsat5⟩⟩
    · obtain rfl : k = e := by omega
      have Hs := SL.hid hsat
      clear hsat
      gi_wp2
      go_end0
      exact ⟨⟨_, rfl⟩, hside, .inl ⟨_, rfl, Hs.out⟩⟩
def AllFQB (vb : Value) (e : Nat) (w : World) (en : Ending) (w' : World) : Prop :=
  en = .returned (.func (.func 113) #[] #[.pointer (some ⟨w.heap.size + 1, 0, none⟩), .pointer (some ⟨w.heap.size, 0, none⟩)]) ∧
    w' = (w.alloc (.cells #[vb] 48 (0, 0))).alloc (.cells #[.int .i64 (e : Int)] 3 (0, 0))
theorem allF_any (w : World) (va : Option Addr) (k c e : Nat) :
    Calls Tryz.prog 79 #[.slice va k c, .int .i64 (e : Int)] w (AllFQB (.slice va k c) e w) := by
  go_enter Tryz.func79, Tryz.ntmps79
  go_wp2
  go_ret
  exact ⟨rfl, rfl⟩
def CountA (cx : Nat) (ys : List Nat) : Assn := pt cx (.cells #[.int .i64 (ys.length : Int)] 3 (0, 0))
def CountQ (k : Nat) (v : Value) (l : List UInt8) (F : Assn) (w : World) (e : Ending) (w' : World) : Prop :=
  e = .returned (.int .i64 (k : Int)) ∧ Sat w' (bs 5 v l * F) ∧ Side w w'
def setC (x : Nat) (t : Array Value) : Array Value := t.setIfInBounds 9 (.int .i64 (x : Int))
set_option maxRecDepth 100000 in
set_option maxHeartbeats 2000000 in
theorem count_any (w : World) (v : Value) (l : List UInt8) (F : Assn) (h : Sat w (bs 5 v l * F)) (hl : l.length = 480) (e : Nat) (he : e ≤ 3840) :
    Calls Tryz.prog 38 #[v, .int .i64 (e : Int)] w (CountQ (takenL l e).length v l F w) := by
  obtain ⟨va, vc, rfl⟩ := sl_shape h
  rw [hl] at h ⊢
  have hE : (e : Int) ≤ 3840 := by omega
  refine (callsIn_wide (n := 9)).1 ?_
  refine callsIn_of_wp_marks Tryz.func38 rfl trivial ?_ rfl
  simp only [Tryz.ntmps38, List.size_toArray, List.length_cons, List.length_nil, Nat.reduceAdd, Nat.reduceSub, Array.replicate_succ, Array.replicate_zero, List.push_toArray, List.append_toArray, List.nil_append, List.cons_append]
  have hA := h.alloc (.cells #[.int .i64 0] 3 (0, 0))
  have hs1 := (Side.refl w).alloc (.cells #[.int .i64 0] 3 (0, 0))
  clear h
  gi_wp2_with fail
  generalize w.alloc (.cells #[.int .i64 0] 3 (0, 0)) = w1 at hA hs1 ⊢
  refine callV (allF_any w1 va 480 vc e) ?_
  rintro en w2 ⟨rfl, rfl⟩
  have hB := (hA.alloc (.cells #[.slice va 480 vc] 48 (0, 0))).alloc (.cells #[.int .i64 (e : Int)] 3 (0, 0))
  have hs2 := (hs1.alloc (.cells #[.slice va 480 vc] 48 (0, 0))).alloc (.cells #[.int .i64 (e : Int)] 3 (0, 0))
  have hsz : (w1.alloc (.cells #[.slice va 480 vc] 48 (0, 0))).heap.size = w1.heap.size + 1 := Array.size_push ..
  rw [hsz] at hB
  clear hA hs1 hsz
  gi_wp2_with fail
  generalize (w1.alloc (.cells #[.slice va 480 vc] 48 (0, 0))).alloc (.cells #[.int .i64 (e : Int)] 3 (0, 0)) = w3 at hB hs2 ⊢
  have h6 : Sat w3 (CountA w.heap.size [] * (AllBIt (w1.heap.size + 1) w1.heap.size (.slice va 480 vc) l e * F)) := hB.to (by unfold AllBIt CountA; ac_rfl)
  clear hB
  refine wpIn_range_t (w0 := w) rfl (by decide) (gf := 113) (lb := #[.pointer (some ⟨w1.heap.size + 1, 0, none⟩), .pointer (some ⟨w1.heap.size, 0, none⟩)]) rfl trivial (enters Tryz.func113 (by kernel_rfl) rfl)
    (allB_iter _ (w1.heap.size + 1) w1.heap.size va vc l e hl he) setC (CountA w.heap.size) (fun pre x => CountA w.heap.size pre) _ ?hps hs2 h6 ?assign ?body ?done
  case hps =>
    intro x vs Fr W h
    unfold natT at h
    obtain ⟨rfl, _⟩ := Sat.fact_iff.1 h
    rfl
  case assign =>
    intro lp r pre x vs Fr W K _ hsd H hK
    have H1 : Sat W (natT x vs * (CountA w.heap.size pre * (pt lp (.loop r) * Fr))) := H.front2
    unfold natT at H1
    obtain ⟨rfl, H2⟩ := Sat.fact_iff.1 H1
    clear H H1
    gi_wp2
    exact hK _ hsd H2
  case body =>
    intro lp r pre x Fr W hp hsd H
    have hlen : pre.length + 1 ≤ 3840 := by
      have := hp.length_le; have := takenL_length l e; simp at *; omega
    have hlen2 : (pre.length : Int) + 1 ≤ 3840 := by omega
    have hlen0 : 0 ≤ (pre.length : Int) := by omega
    have hc : W.cell? ⟨w.heap.size, 0, none⟩ = some (.int .i64 (pre.length : Int)) := H.cell 0
    have hfr : W.frozen? ⟨w.heap.size, 0, none⟩ = false := H.frozen 0
    have hset := H.setCell 0 (.int .i64 ((pre.length : Int) + 1))
    have hset2 : Sat (W.setCell ⟨w.heap.size, 0, none⟩ (.int .i64 ((pre.length : Int) + 1))) (CountA w.heap.size (pre ++ [x]) * (pt lp (.loop r) * Fr)) := by
      unfold CountA; rw [List.length_append, List.length_singleton, Int.natCast_add]; exact hset
    have Hset := SL.hid hset2
    have Hd := SL.hid hsd
    clear hset hset2 H hp hsd hlen h6 hs2
    generalize (pre.length : Int) = z at *
    simp only [setC, List.setIfInBounds_toArray, List.set_cons_succ, List.set_cons_zero]
    gi_wp2
    exact ⟨Hd.out.setCell _ _, Hset.out⟩
  case done =>
    intro D2 ys W0 hS hsd H
    subst hS
    have H2 : Sat W0 (pt D2 (.deferred (some [])) * (CountA w.heap.size (takenL l e) * (AllBIt (w1.heap.size + 1) w1.heap.size (.slice va 480 vc) l e * F))) := H.to (by ac_rfl)
    have hcell : W0.cell? ⟨w.heap.size, 0, none⟩ = some (.int .i64 ((takenL l e).length : Int)) := H.cell 0
    have hK := H2.heap
    have HD := (H2.putObj (.deferred none)).right
    have Hd := SL.hid hsd
    clear H H2 h6 hsd hs2
    gi_wp2
    refine ⟨by simp, .inl ⟨_, _, rfl, run_takeDeferred hK, ?_⟩⟩
    exact ⟨_, results_tmp rfl _ _ _, rfl, (HD.right.to (by unfold AllBIt; ac_rfl : _ = pt (w1.heap.size + 1) (.cells #[.int .i64 (e : Int)] 3 (0, 0)) * (pt w1.heap.size (.cells #[.slice va 480 vc] 48 (0, 0)) * (bs 5 (.slice va 480 vc) l * F)))).right.right, Hd.out.putObj _ _⟩
end Go.Proofs.YtaoohjeaaccnfaaGreat.Fs

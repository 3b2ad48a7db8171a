/- slices.Grow and slices.Concat of two slices of writes. -/
import Derived.Test.YtlfooilcngjeiaaJn
import Derived.Lib.AppendZeros
namespace Go.Proofs.Ytlfooilcngjeiaa
set_option linter.unusedVariables false
set_option linter.unusedSimpArgs false
open Go.RowKit Go.SL
def GrowQ (w : World) (e : Ending) (w' : World) : Prop := ∃ v, e = .returned v ∧ Sat w' (sl 53 2 v 0 [] * whole w) ∧ Side w w'
set_option maxRecDepth 100000 in
theorem grow_any (w : World) (n : Nat) (hn : n ≤ 1000000) : Calls Try.prog 77 #[.slice none 0 0, .int .i64 (n : Int)] w (GrowQ w) := by
  obtain ⟨i0, hi, hz, hs0, hb0⟩ := info_parts info_write2
  by_cases h0 : n = 0
  · subst h0
    go_enter Try.func77, Try.ntmps77
    go_wp2
    go_ret
    exact ⟨_, rfl, (Sat.whole w).slNil _ _, Side.refl w⟩
  · have happ := fun w => Lib.run_append_nil_zeros (P := Try.prog) w 45 3 45 53 i0 _ .i64 .i64 Try.underlying45 Try.underlying3 hi hz n (by omega) (by rw [hs0]; decide) (by omega) (by rw [hb0]; omega)
    have hge := grownCap_ge w n 0 53
    have hle := grownCap_le_maxLen w n 0 53 (by unfold maxLen; omega)
    have happ := happ w
    generalize hcap : grownCap w n 0 53 = cap at happ hge hle
    generalize hZ : Builtin.zeroCells (Value.agg #[.int .i64 0, .slice none 0 0]).cells n ++ Builtin.zeroCells (Value.agg #[.int .i64 0, .slice none 0 0]).cells (cap - n) = Zc at happ
    have hZs : Zc.size = cap * 2 := by rw [← hZ]; simp [size_zeroCells, Value.cells]; omega
    have hfin : Sat (w.drew.alloc (.cells Zc 53)) (sl 53 2 (.slice (some ⟨w.heap.size, 0, none⟩) 0 cap) 0 [] * whole w) := by
      have h1 := ((Sat.whole w).drew.alloc (.cells Zc 53 (0, 0))).slOf (n := 0) (sz := 2) (by omega) hle hZs
      simpa using h1
    have dfin := (Side.refl w).drew.alloc (.cells Zc 53 (0, 0))
    have h0' : (0 : Int) < (n : Int) := by omega
    have hn' : (n : Int) ≤ 1000000 := by omega
    have HF := SL.hid hfin; have DF := SL.hid dfin
    clear hcap hZ hZs hfin dfin hi hz hs0 hb0 h0 hge
    go_enter Try.func77, Try.ntmps77
    go_wp2_with (at_builtin; refine Lib.wpList_append_run _ rfl _ _ _ _ rfl _ _ rfl rfl _ _ happ ?_)
    go_ret
    exact ⟨_, rfl, HF.out, DF.out⟩
def upto {α : Type} (k : Nat) (x y z : α) : α := if k = 0 then x else if k = 1 then y else z
def ConcatQ (n : Nat) (xs : List Value) (w : World) (e : Ending) (w' : World) : Prop := ∃ v, e = .returned v ∧ Sat w' (sl 53 2 v n xs * whole w) ∧ Side w w'
def ConcatRel (n m : Nat) (xs ys : List Value) (w : World) (u i : Value) (wr : World) : Prop :=
  ∃ k : Nat, k ≤ 2 ∧ i = .int .i64 (k : Int) ∧ Sat wr (sl 53 2 u (upto k 0 n (n + m)) (upto k [] xs (xs ++ ys)) * whole w) ∧ Side w wr
set_option maxRecDepth 100000 in
set_option maxHeartbeats 1000000 in
theorem concat_any (w : World) (g n m : Nat) (a1 a2 : Option Addr) (c1 c2 : Nat) (xs ys : List Value) (h0 : w.cell? ⟨g, 0, none⟩ = some (.slice a1 n c1)) (h1 : w.cell? ⟨g, 1, none⟩ = some (.slice a2 m c2))
    (hx : Rds w 2 (.slice a1 n c1) n xs) (hy : Rds w 2 (.slice a2 m c2) m ys) (ox : ∀ u ∈ xs, u.oneCell' = true) (oy : ∀ u ∈ ys, u.oneCell' = true) (hn : n ≤ 500000) (hm : m ≤ 500000) :
    Calls Try.prog 48 #[.slice (some ⟨g, 0, none⟩) 2 2] w (ConcatQ (n + m) (xs ++ ys) w) := by
  obtain ⟨i0, hi, hz, hs0, hb0⟩ := info_parts info_write2
  have hgr := grow_any w (n + m) (by omega)
  rw [show ((n + m : Nat) : Int) = (n : Int) + (m : Int) by omega] at hgr
  have hn' : (n : Int) ≤ 500000 := by omega
  have hm' : (m : Int) ≤ 500000 := by omega
  have HX := SL.hid hx; have HY := SL.hid hy; have OX := SL.hid ox; have OY := SL.hid oy; have HI := SL.hid hi; have HZ := SL.hid hz; have HS0 := SL.hid hs0; have HB0 := SL.hid hb0
  clear hx hy ox oy hi hz hs0 hb0
  go_enter Try.func48, Try.ntmps48
  go_wp2_with fail
  go_loop [3, 11] (fun u i => ∃ k : Nat, k ≤ 2 ∧ i = .int .i64 (k : Int) ∧ u = .int .i64 (upto k 0 (n : Int) ((n : Int) + (m : Int)))) (fun _ i => 2 - (intOf i).toNat)
  case atStart => exact ⟨0, by omega, rfl, rfl⟩
  case round =>
    obtain ⟨k, hk, rfl, rfl⟩ := hrel
    obtain rfl | rfl | rfl : k = 0 ∨ k = 1 ∨ k = 2 := by omega
    · simp only [upto, if_true]
      go_wp2_with fail
      go_round
      case rel => exact ⟨1, by omega, by go_num, by simp [upto]⟩
      case measure => simp [intOf]
    · simp only [upto, if_true, if_neg (show ¬ (1 : Nat) = 0 by decide)]
      go_wp2_with fail
      go_round
      case rel => exact ⟨2, by omega, by go_num, by simp [upto]⟩
      case measure => simp [intOf]
    · simp only [upto, if_neg (show ¬ (2 : Nat) = 0 by decide), if_neg (show ¬ (2 : Nat) = 1 by decide)]
      go_wp2_with fail
      (with_reducible refine hgr.mono ?_)
      rintro e w1 ⟨v, rfl, h2, d2⟩
      clear hgr
      go_wp2_with fail
      go_loopw [6, 27] (fun u i wr => ConcatRel n m xs ys w u i wr) (fun _ i _ => 2 - (intOf i).toNat)
      case atStart => exact ⟨0, by omega, rfl, h2, d2⟩
      case round =>
        clear h2 d2
        obtain ⟨k, hk, rfl, hsat, hside⟩ := hrel
        have k0 : wr.cell? ⟨g, 0, none⟩ = some (.slice a1 n c1) := hsat.cellOld h0
        have k1 : wr.cell? ⟨g, 1, none⟩ = some (.slice a2 m c2) := hsat.cellOld h1
        obtain rfl | rfl | rfl : k = 0 ∨ k = 1 ∨ k = 2 := by omega
        · simp only [upto, if_true] at hsat
          obtain ⟨va, vc, rfl⟩ := sl_shape hsat
          obtain ⟨v', w', hrun, hsat', hside'⟩ := Sat.append (P := Try.prog) (ty := 45) Try.underlying45 HI.out HZ.out HS0.out HB0.out rfl hsat (HX.out.carry fun a u h => hsat.cellOld h) OX.out (by unfold maxLen; omega) (by omega)
          have Hs := SL.hid hsat'; have Hd := SL.hid (hside.trans hside')
          obtain ⟨ba, bc, rfl⟩ := sl_shape hsat'
          clear hsat hsat' hside hside'
          go_wp2_with (at_builtin; refine wpList_append_run hrun _ _ rfl rfl rfl rfl rfl ?_)
          go_roundw
          case rel => exact ⟨1, by omega, by go_num, by simpa [upto] using Hs.out, Hd.out⟩
          case measure => simp [intOf]
        · simp only [upto, if_true, if_neg (show ¬ (1 : Nat) = 0 by decide)] at hsat
          obtain ⟨va, vc, rfl⟩ := sl_shape hsat
          obtain ⟨v', w', hrun, hsat', hside'⟩ := Sat.append (P := Try.prog) (ty := 45) Try.underlying45 HI.out HZ.out HS0.out HB0.out rfl hsat (HY.out.carry fun a u h => hsat.cellOld h) OY.out (by unfold maxLen; omega) (by omega)
          have Hs := SL.hid hsat'; have Hd := SL.hid (hside.trans hside')
          obtain ⟨ba, bc, rfl⟩ := sl_shape hsat'
          clear hsat hsat' hside hside'
          go_wp2_with (at_builtin; refine wpList_append_run hrun _ _ rfl rfl rfl rfl rfl ?_)
          go_roundw
          case rel => exact ⟨2, by omega, by go_num, by simpa [upto] using Hs.out, Hd.out⟩
          case measure => simp [intOf]
        · simp only [upto, if_neg (show ¬ (2 : Nat) = 0 by decide), if_neg (show ¬ (2 : Nat) = 1 by decide)] at hsat
          have Hs := SL.hid hsat; have Hd := SL.hid hside
          clear hsat hside
          go_wp2
          go_ret
          exact ⟨_, rfl, Hs.out, Hd.out⟩
end Go.Proofs.Ytlfooilcngjeiaa

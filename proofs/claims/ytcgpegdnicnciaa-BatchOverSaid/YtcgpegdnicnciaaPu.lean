/- puts: writes to twelve blocks. -/
import Derived.Test.YtcgpegdnicnciaaSm
import Derived.Test.YtcgpegdnicnciaaL3
import Derived.Deep.DeepFit
namespace Go.Proofs.Ytcgpegdnicnciaa
set_option linter.unusedVariables false
set_option linter.unusedSimpArgs false
open Go.RowKit Go.SL
/-- What the first k writes make of W. -/
def putN (data : Int) (zs : List Int) (W : CB) : Nat → CB
  | 0 => W
  | k + 1 => SL.upd (putN data zs W k) (zs.getD k 0 % 65536 % 12) (blk (data + (k : Int)))
def putsW (data : Int) (len : Nat) (zs : List Int) (W : CB) : CB := putN data zs W (if len ≤ 20 then len else 20)
theorem putsW_le {data : Int} {len : Nat} {zs : List Int} {W : CB} (h : len ≤ 20) : putsW data len zs W = putN data zs W len := by rw [putsW, if_pos h]
theorem putsW_20 {data : Int} {len : Nat} {zs : List Int} {W : CB} (h : 20 ≤ len) : putsW data len zs W = putN data zs W 20 := by
  rw [putsW]
  split
  · rw [show len = 20 by omega]
  · rfl
def PutsQ (S : Hp) (b : Nat) (rd : Value) (data : Int) (len : Nat) (zs : List Int) (W D : CB) (F : Assn) (w : World) (e : Ending) (w' : World) : Prop :=
  ∃ S', Ext S S' ∧ e = .returned (.tuple #[]) ∧ Sat w' (batchA 54 5 S' b rd 0 (putsW data len zs W) D * (pool S' * F)) ∧ Side w w'
def PutsRel (S : Hp) (b : Nat) (rd : Value) (data : Int) (len : Nat) (zs : List Int) (W D : CB) (F : Assn) (w : World) (v : Value) (wr : World) : Prop :=
  ∃ (i : Nat) (S' : Hp), i ≤ len ∧ i ≤ 20 ∧ Ext S S' ∧ v = .int .i64 i ∧ Sat wr (batchA 54 5 S' b rd 0 (putN data zs W i) D * (pool S' * F)) ∧ Side w wr
set_option maxRecDepth 100000 in
set_option maxHeartbeats 12000000 in
theorem puts_any (w w0 : World) (S : Hp) (b : Nat) (rd : Value) (data : Int) (hd0 : 0 ≤ data) (hd1 : data ≤ 1000) (a : Option Addr) (len cap : Nat) (zs : List Int) (hz : IsInts w0 a len cap zs) (W D : CB) (F : Assn)
    (h : Sat w (batchA 54 5 S b rd 0 W D * (pool S * (F * whole w0)))) :
    Calls Try.prog 15 #[.pointer (some ⟨b, 0, none⟩), .slice a len cap, .int .i64 data] w (PutsQ S b rd data len zs W D (F * whole w0) w) := by
  have Hz := hid hz
  have hll := hz.len_le
  have H0 := hid h
  clear hz h
  go_enter Try.func15, Try.ntmps15
  go_wp2
  go_loopw [6] (fun v wr => PutsRel S b rd data len zs W D (F * whole w0) w v wr) (fun v _ => 20 - (intOf v).toNat)
  case atStart => exact ⟨0, S, Nat.zero_le _, by omega, Ext.refl S, rfl, H0.out, Side.refl w⟩
  case round =>
    obtain ⟨i, S1, hil, hi20, hE, rfl, hsat, hside⟩ := hrel
    have hiv : (i : Int) ≤ 20 := by omega
    by_cases hlt : i < len
    · have hlt' : (i : Int) < (len : Int) := by omega
      by_cases h20 : i < 20
      · have h20' : (i : Int) < 20 := by omega
        obtain ⟨bb, off, rfl, hcz, hlc, hcap⟩ := Hz.out.cell hlt
        have hcz' : wr.cell? ⟨bb, off + i, none⟩ = some (.int .i64 (zs.getD i 0)) := (hsat.to (by ac_rfl : _ = batchA 54 5 S1 b rd 0 (putN data zs W i) D * (pool S1 * F) * whole w0)).cellOld hcz
        have hstep : putN data zs W (i + 1) = SL.upd (putN data zs W i) (zs.getD i 0 % 65536 % 12) (blk (data + (i : Int))) := rfl
        have Hstep := hid hstep
        have HC : Hid (∀ w', Sat w' (whole w0) → w'.cell? ⟨bb, off + i, none⟩ = some (.int .i64 (zs.getD i 0))) := fun w' h' => Sat.cellOld (P := emp) (h'.to (emp_star _).symm) hcz
        clear hcz hstep
        generalize zs.getD i 0 = z at hcz' Hstep HC
        have hand := and16 z
        have hm0 : 0 ≤ z % 65536 := by omega
        have hm1 : 0 ≤ z % 65536 % 12 := by omega
        have hdi : data + (i : Int) ≤ 2000 := by omega
        have hdi0 : 0 ≤ data + (i : Int) := by omega
        have hwrap : IntKind.i64.wrap (data + (i : Int)) = data + (i : Int) := by
          rw [IntKind.wrap_i64]; omega
        have Ht := hid (Int.tmod_eq_emod_of_nonneg (b := 12) hm0)
        have Hm1 := hid hm1
        have hA := hsat.alloc (.cells (u8s (blk (data + (i : Int)))) 5 (0, 0))
        have cW := write_any (wr.alloc (.cells (u8s (blk (data + (i : Int)))) 5 (0, 0))).drew S1 b rd 0 (putN data zs W i) D ((z % 65536).tmod 12) (.slice (some ⟨wr.heap.size, 0, none⟩) 480 480) (blk (data + (i : Int))) _ hA.right.drew (rd_blk hA.drew)
        have CW := hid cW; have HE := hid hE; have K1 := hid hil; have K2 := hid hi20; have K3 := hid hll; have K4 := hid hside
        clear hA hsat cW hE hil hi20 hll hside hlt h20 hd0 hd1 hdi hdi0 hiv hm1
        go_wp2_with fail
        go_region_held3 (fun w' => w'.cell? ⟨bb, off + i, none⟩ = some (.int .i64 z)) (go_keep)
          (first
            | (go_at_call 11; refine (block_any _ _).mono ?_; rintro e wA ⟨rfl, rfl⟩)
            | (go_at_call 10; refine CW.out.mono ?_; rintro e wB ⟨S6, E6, rfl, H7, d7⟩; have cB := HC.out wB H7.right.right.right))
        rw [Ht.out, wW_yes Hm1.out, ← Hstep.out] at H7
        have hsat' : Sat wB (batchA 54 5 S6 b rd 0 (putN data zs W (i + 1)) D * (pool S6 * (F * whole w0))) := H7
        have Hs' := hid hsat'
        clear H7 hsat' CW hcz' hand cB
        go_wp2
        go_roundw
        case rel => exact ⟨i + 1, S6, by omega, by omega, HE.out.trans E6, by go_num, Hs'.out, ((K4.out.alloc _).drew).trans d7⟩
        case measure => simp [intOf]; omega
      · have h20' : (20 : Int) ≤ (i : Int) := by omega
        obtain rfl : i = 20 := by omega
        go_wp2
        go_end0
        exact ⟨S1, hE, rfl, by rw [putsW_20 hil]; exact hsat, hside⟩
    · obtain rfl : i = len := by omega
      go_wp2
      go_end0
      exact ⟨S1, hE, rfl, by rw [putsW_le hi20]; exact hsat, hside⟩
end Go.Proofs.Ytcgpegdnicnciaa

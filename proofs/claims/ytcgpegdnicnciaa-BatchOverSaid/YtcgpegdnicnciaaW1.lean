/- block, rows: what they make. -/
import Derived.Test.YtcgpegdnicnciaaOp
import Derived.Test.YtcgpegdnicnciaaRows
namespace Go.Proofs.Ytcgpegdnicnciaa
set_option linter.unusedVariables false
set_option linter.unusedSimpArgs false
open Go.RowKit Go.SL
theorem info_u8 : (Try.prog.info? 5).map (fun i => (i.zero, i.size, i.bytes)) = some (some (.int .u8 0), 1, 1) := by kernel_rfl
theorem info_bytes : (Try.prog.info? 31).map (fun i => (i.zero, i.size, i.bytes)) = some (some (.slice none 0 0), 1, 24) := by kernel_rfl
theorem make_bytes (n : Nat) (hn : n ≤ 281474976710656) (w : World) : (Instr.makeSlice 31 (.int .i64 n) (.int .i64 n)).run Try.prog w =
    .ok (.slice (some ⟨w.heap.size, 0, none⟩) n n) (w.alloc (.cells (u8s (zs n)) 5 (0, 0))) := by
  obtain ⟨i, hi, hz, hs, hb⟩ := info_parts info_u8
  have := run_make (P := Try.prog) w 31 5 i _ Try.underlying31 hi hz .i64 .i64 n n (by omega) (by omega) (by rw [hb]; omega) (by omega)
  rw [this, hs]
  simp only [Int.toNat_natCast]
  rw [madeCells_u8]
/-- What 'block' tells. -/
def blk (n : Int) : List UInt8 := ((zs 480).set 0 (UInt8.ofInt n)).set 479 (UInt8.ofInt (n / 256))
theorem blk_len (n : Int) : (blk n).length = 480 := by simp [blk, length_zs]
set_option maxHeartbeats 400000 in
theorem block_any (n : Int) (w : World) :
    Calls Try.prog 11 #[.int .i64 n] w fun e w' => e = .returned (.slice (some ⟨w.heap.size, 0, none⟩) 480 480) ∧ w.alloc (.cells (u8s (blk n)) 5 (0, 0)) = w' := by
  have hmk : ∀ w, (Instr.makeSlice 31 (.int .i64 480) (.int .i64 480)).run Try.prog w =
    .ok (.slice (some ⟨w.heap.size, 0, none⟩) 480 480) (w.alloc (.cells (u8s (zs 480)) 5 (0, 0))) := make_bytes 480 (by omega)
  have h0 : (u8s (zs 480))[0]? = some (.int .u8 0) := by kernel_rfl
  have h1 : (u8s (zs 480))[479]? = some (.int .u8 0) := by kernel_rfl
  go_enter Try.func11, Try.ntmps11
  go_wp2
  go_ret
  refine ⟨rfl, ?_⟩
  have e0 := u8_wrap n
  have e1 := u8_wrap (n / 256)
  rw [IntKind.wrap_u8] at e0 e1
  rw [e0, e1, set_u8s, set_u8s]
  rfl
/-- Blocks of bytes, all apart. -/
def rowsA (T : TypeId) (gs : List (Nat × List UInt8)) : Assn := gs.foldr (fun p A => pt p.1 (.cells (u8s p.2) T (0, 0)) * A) emp
theorem rowsA_snoc (T : TypeId) (gs : List (Nat × List UInt8)) (g : Nat) (l : List UInt8) : rowsA T (gs ++ [(g, l)]) = pt g (.cells (u8s l) T (0, 0)) * rowsA T gs := by
  induction gs with
  | nil => rfl
  | cons p gs ih =>
    show pt p.1 _ * rowsA T (gs ++ [(g, l)]) = _
    rw [ih, star_left_comm]; rfl
def rowVals (gs : List (Nat × List UInt8)) : List Value := gs.map fun p => .slice (some ⟨p.1, 0, none⟩) p.2.length p.2.length
def rowBlks (n : Nat) : List (List UInt8) := (List.range n).map fun i : Nat => blk (1000 + (i : Int))
theorem rowBlks_succ (n : Nat) : rowBlks (n + 1) = rowBlks n ++ [blk (1000 + (n : Int))] := by simp [rowBlks, List.range_succ]
theorem rowVals_snoc (gs : List (Nat × List UInt8)) (g : Nat) (l : List UInt8) : rowVals (gs ++ [(g, l)]) = rowVals gs ++ [.slice (some ⟨g, 0, none⟩) l.length l.length] := by simp [rowVals]
def RowsQ (n : Nat) (F : Assn) (w : World) (e : Ending) (w' : World) : Prop :=
  ∃ v gs, e = .returned v ∧ gs.map Prod.snd = rowBlks n ∧ Sat w' (sl 31 1 v n (rowVals gs) * (rowsA 5 gs * F)) ∧ Side w w'
def RowsRel (n : Nat) (F : Assn) (w : World) (v i : Value) (wr : World) : Prop :=
  ∃ (k : Nat) (gs : List (Nat × List UInt8)), k ≤ n ∧ i = .int .i64 k ∧ gs.map Prod.snd = rowBlks k ∧ Sat wr (sl 31 1 v k (rowVals gs) * (rowsA 5 gs * F)) ∧ Side w wr
set_option maxHeartbeats 1000000 in
theorem rows_any (n : Nat) (hn : n ≤ 1000) (F : Assn) (w : World) (h : Sat w F) :
    Calls Try.prog 9 #[.int .i64 n] w (RowsQ n F w) := by
  obtain ⟨i0, hi, hz, hs0, hb0⟩ := info_parts info_bytes
  have hn' : (n : Int) ≤ 1000 := by omega
  go_enter Try.func9, Try.ntmps9
  go_wp2
  go_loopw [3, 4] (fun v i wr => RowsRel n F w v i wr) (fun _ i _ => n - (intOf i).toNat)
  case atStart => exact ⟨0, [], Nat.zero_le _, rfl, rfl, (h.to (emp_star F).symm).slNil _ _, Side.refl w⟩
  case round =>
    obtain ⟨k, gs, hk, rfl, hgs, hsat, hside⟩ := hrel
    have hk' : (k : Int) ≤ 1000 := by omega
    by_cases hlt : k < n
    · have hA := (hsat.alloc (.cells (u8s (blk (1000 + (k : Int)))) 5 (0, 0))).alloc (.cells #[.slice (some ⟨wr.heap.size, 0, none⟩) 480 480] 31 (0, 0))
      rw [World.size_alloc] at hA
      have hR : Rds ((wr.alloc (.cells (u8s (blk (1000 + (k : Int)))) 5 (0, 0))).alloc (.cells #[.slice (some ⟨wr.heap.size, 0, none⟩) 480 480] 31 (0, 0))) 1
          (.slice (some ⟨wr.heap.size + 1, 0, none⟩) 1 1) 1 [.slice (some ⟨wr.heap.size, 0, none⟩) 480 480] :=
        ⟨rfl, .inr ⟨_, _, rfl, fun j u hu => by
          rw [Addr.add_lit, Nat.zero_add]
          exact (hA.cell j).trans (by simpa using hu)⟩⟩
      obtain ⟨v', w', hrun, hsat', hside'⟩ := Sat.append (P := Try.prog) (ty := 26) (F := rowsA 5 gs * (pt wr.heap.size (.cells (u8s (blk (1000 + (k : Int)))) 5 (0, 0)) * F)) Try.underlying26 hi hz hs0 hb0 rfl (hA.right.to (by ac_rfl)) hR (by simp [Value.oneCell']) (by unfold maxLen; omega) (by omega)
      clear hA hR hi hz hs0 hb0
      have Hrun := hid hrun; clear hrun
      go_wp2_with (first | (go_at_call 11; refine (block_any _ _).mono ?_; rintro e w1 ⟨rfl, rfl⟩) | (at_builtin; refine wpList_append_run Hrun.out _ _ rfl rfl rfl rfl rfl ?_))
      go_roundw
      case rel =>
        refine ⟨k + 1, gs ++ [(wr.heap.size, blk (1000 + (k : Int)))], by omega, by go_num, ?_, ?_, ?_⟩
        · rw [List.map_append, hgs, rowBlks_succ]; rfl
        · rw [rowVals_snoc, rowsA_snoc, blk_len]
          exact hsat'.to (by ac_rfl)
        · exact ((hside.alloc _).alloc _).trans hside'
      case measure => simp [intOf]; omega
    · have hkn : k = n := by omega
      subst hkn
      go_wp2
      go_ret
      exact ⟨u3, gs, rfl, hgs, hsat, hside⟩
end Go.Proofs.Ytcgpegdnicnciaa

/- file's laws: made, bytes. -/
import Derived.Test.YtaoohjeaaccnfaaGreatVa
namespace Go.Proofs.YtaoohjeaaccnfaaGreat.Fs
set_option linter.unusedVariables false
set_option linter.unusedSimpArgs false
open Go.RowKit Go.SL Go.Proofs.YtaoohjeaaccnfaaGreat.Ba
theorem info_space : (Tryz.prog.info? 26).map (·.size) = some 2 := by kernel_rfl
theorem made_results {w : World} {tmps : Array Value} {a b n : Nat} {e : Value} {F : Assn} (h2 : tmps[2]? = some (ptV a)) (h3 : tmps[3]? = some e) (ha : Sat w (pt a (spO b n) * F)) :
    (results Tryz.f19 tmps).run Tryz.prog w = .ok (.tuple #[spV b n, e]) w := by
  have hl := run_loadVar_row (P := Tryz.prog) w a 26 26 #[.pointer (some ⟨b, 0, none⟩), .int .i64 (n : Int)] (0, 0) _ ha.heap Tryz.underlying26 rfl info_space
  have hp : tmps.getD 2 undef = .pointer (some ⟨a, 0, none⟩) := by simp [h2]
  have hp3 : tmps.getD 3 undef = e := by simp [h3]
  simp [results, Tryz.results19, h2, h3, asAddr, hl, spV]
def MadeQ (n : Nat) (F : Assn) (w : World) (e : Ending) (w' : World) : Prop := ∃ b, e = .returned (.tuple #[spV b n, .bool true]) ∧ Side w w' ∧ Sat w' (SpA n b (madeM n) * F)
theorem spA_fresh {w w' : World} {b n : Nat} {gs : List (Nat × List UInt8)} {v : Value} {F : Assn} (hz : isZ n gs) (h : ∀ S, Sat w' (batchA 113 5 S b (.iface 62 v) 0 [] [] * whole w)) (hs : Sat w (rowsR v gs * F)) : Sat w' (SpA n b bst0 * F) := by
  have h1 := (h (fun _ => none)).under (Sat.poolEmp hs)
  refine Sat.spShut (S := fun _ => none) (v := v) hz ?_
  refine h1.to ?_
  unfold btA rowsC Cx.rd bst0
  ac_rfl
set_option maxRecDepth 100000 in
set_option maxHeartbeats 2000000 in
theorem made_any (n : Nat) (h4 : 4 ≤ n) (hn : n ≤ 1000) (F : Assn) (w : World) (h : Sat w F) :
    Calls Tryz.prog 19 #[.int .i64 (n : Int)] w (MadeQ n F w) := by
  refine callsQ fun Q HQ => ?_
  have hA := h.alloc (.cells #[.pointer none, .int .i64 0] 26 (0, 0))
  have dA := (Side.refl w).alloc (.cells #[.pointer none, .int .i64 0] 26 (0, 0))
  have hrw := rows_any n hn _ _ hA
  have hmade := (made_abs h4 (by omega)).1
  have Hrw := SL.hid hrw; have Hm := SL.hid hmade
  clear h hA hrw hmade
  go_enter Tryz.func19, Tryz.ntmps19
  go_wp2_with fail
  refine Hrw.out.mono ?_
  clear Hrw
  generalize w.alloc (.cells #[.pointer none, .int .i64 0] 26 (0, 0)) = w1 at *
  generalize w.heap.size = rc at *
  rintro e w2 ⟨v, gs, rfl, hz, h2, d2⟩
  have hnw := new_any w2 62 v
  have H2 := SL.hid h2; have Hz := SL.hid hz
  clear h2 hz
  go_wp2_with fail
  (with_reducible refine hnw.mono ?_)
  rintro e w3 ⟨b, rfl, h3, d3⟩
  have h4' := spA_fresh Hz.out h3 H2.out
  have hB := h4'.alloc (.cells #[.pointer (some ⟨b, 0, none⟩), .int .i64 (n : Int)] 26 (0, 0))
  have dB := ((dA.trans d2).trans d3).alloc (.cells #[.pointer (some ⟨b, 0, none⟩), .int .i64 (n : Int)] 26 (0, 0))
  have hf := x_format h4 hn (hB.to (by ac_rfl : _ = SpA n b bst0 * (pt w3.heap.size (.cells #[.pointer (some ⟨b, 0, none⟩), .int .i64 (n : Int)] 26 (0, 0)) * (pt rc (.cells #[.pointer none, .int .i64 0] 26 (0, 0)) * F))))
  have Hf := SL.hid hf
  clear hnw h3 h4' hB hf H2 Hz
  go_wp2_with fail
  refine Hf.out.mono ?_
  clear Hf
  rintro e w4 ⟨rfl, d4, h5⟩
  rw [Hm.out]
  have hmM : (wrun (wformat (zask n)) bst0).2 = madeM n := rfl
  rw [hmM] at h5
  generalize (w3.alloc (.cells #[.pointer (some ⟨b, 0, none⟩), .int .i64 (n : Int)] 26 (0, 0))) = w3' at *
  generalize w3.heap.size = sc at *
  have h6 := h5.to (by ac_rfl : _ = pt rc (.cells #[.pointer none, .int .i64 0] 26 (0, 0)) * (pt sc (.cells #[.pointer (some ⟨b, 0, none⟩), .int .i64 (n : Int)] 26 (0, 0)) * (SpA n b (madeM n) * F)))
  have c0 := h6.front2.cell 0
  have c1 := h6.front2.cell 1
  have r0 := h6.cell 0
  have r1 := h6.cell 1
  have f0 := h6.frozen 0
  have f1 := h6.frozen 1
  have h7 := (h6.setCell 0 (.pointer (some ⟨b, 0, none⟩))).setCell 1 (.int .i64 (n : Int))
  have H7 := SL.hid h7
  have D7 := SL.hid (((dB.trans d4).setCell ⟨rc, 0, none⟩ (.pointer (some ⟨b, 0, none⟩))).setCell ⟨rc, 1, none⟩ (.int .i64 (n : Int)))
  have hne : rc ≠ sc := Sat.ne h6
  simp at c0 c1 r0 r1
  clear h5 h6 h7 hmM Hm
  go_wp2_with fail
  all_goals
    exact bodyPost_ret (made_results rfl rfl H7.out) rfl (HQ.out _ _ ⟨b, rfl, D7.out, H7.out.right.right⟩)
end Go.Proofs.YtaoohjeaaccnfaaGreat.Fs

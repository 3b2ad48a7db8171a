/- What comes in is what the walks are told: a state. -/
import Derived.Test.YtlfooilcngjeiaaIo
namespace Go.Proofs.Ytlfooilcngjeiaa
set_option linter.unusedVariables false
set_option linter.unusedSimpArgs false
open Go.RowKit Go.SL Go.ChangeShapes Go.WideShapes Go.ChangeAt
section
variable {H : Type} {enc : TypeId × Value → H} {w : World}
set_option maxRecDepth 100000 in
theorem state_of {fuel : Nat} {cs : List Value} {x : DataW H × List MemPlace} (hf : DataW.trod enc Try.prog w 0 (fun _ => true) true fuel 26 cs = some x) :
    ∃ ep st sq hd us a len cap zs, cs = [.int .u32 ep, .int .u64 st, .int .u64 sq, .int .i64 hd, .int .i64 us, .slice a len cap] ∧ IsInts w a len cap zs ∧ 0 ≤ sq ∧ -9223372036854775808 ≤ us ∧ us ≤ 9223372036854775807 := by
  have hC : Try.prog.cellsOf 26 = 6 := by kernel_rfl
  have hC1 : Try.prog.cellsOf 24 = 1 := by kernel_rfl
  have hC2 : Try.prog.cellsOf 3 = 1 := by kernel_rfl
  have hC3 : Try.prog.cellsOf 23 = 1 := by kernel_rfl
  have hC4 : Try.prog.cellsOf 22 = 1 := by kernel_rfl
  obtain ⟨ys, n', _, _, hlen, hyl, hfl⟩ := DataW.trod_struct Try.underlying26 hf
  rw [hC] at hlen
  match cs, hlen, hfl with
  | [c0, c1, c2, c3, c4, c5], _, hfl =>
    have f0 := hfl 0 _ rfl
    have f1 := hfl 1 _ rfl
    have f2 := hfl 2 _ rfl
    have f3 := hfl 3 _ rfl
    have f4 := hfl 4 _ rfl
    have f5 := hfl 5 _ rfl
    have hy6 : ys.length = 6 := hyl
    rw [List.getElem?_eq_getElem (by omega)] at f0 f1 f2 f3 f4 f5
    replace f0 : DataW.trod enc Try.prog w 0 (fun _ => true) true n' 22 (List.take (Try.prog.cellsOf 22) [c0, c1, c2, c3, c4, c5]) = some (ys[0]) := f0
    replace f1 : DataW.trod enc Try.prog w 0 (fun _ => true) true n' 23 (List.take (Try.prog.cellsOf 23) [c1, c2, c3, c4, c5]) = some (ys[1]) := f1
    replace f2 : DataW.trod enc Try.prog w 0 (fun _ => true) true n' 23 (List.take (Try.prog.cellsOf 23) [c2, c3, c4, c5]) = some (ys[2]) := f2
    replace f3 : DataW.trod enc Try.prog w 0 (fun _ => true) true n' 3 (List.take (Try.prog.cellsOf 3) [c3, c4, c5]) = some (ys[3]) := f3
    replace f4 : DataW.trod enc Try.prog w 0 (fun _ => true) true n' 3 (List.take (Try.prog.cellsOf 3) [c4, c5]) = some (ys[4]) := f4
    replace f5 : DataW.trod enc Try.prog w 0 (fun _ => true) true n' 24 (List.take (Try.prog.cellsOf 24) [c5]) = some (ys[5]) := f5
    rw [hC4] at f0
    rw [hC3] at f1 f2
    rw [hC2] at f3 f4
    rw [hC1] at f5
    obtain ⟨v0, e0, _, _⟩ := DataW.trod_int Try.underlying22 f0
    obtain ⟨v1, e1, _, _⟩ := DataW.trod_int Try.underlying23 f1
    obtain ⟨v2, e2, _, b2⟩ := DataW.trod_int Try.underlying23 f2
    obtain ⟨v3, e3, _, _⟩ := DataW.trod_int Try.underlying3 f3
    obtain ⟨v4, e4, _, b4⟩ := DataW.trod_int Try.underlying3 f4
    obtain ⟨xa, xl, xc, zs, e5, hz⟩ := ints_of' f5
    simp at e0 e1 e2 e3 e4 e5
    have g2 : 0 ≤ v2 := by
      have := b2
      simp only [Lit.wf, Bool.and_eq_true, decide_eq_true_eq] at this
      have h := this.1
      exact h
    have g4 := bounds_i64 b4
    exact ⟨v0, v1, v2, v3, v4, xa, xl, xc, zs, by rw [e0, e1, e2, e3, e4, e5], hz, g2, g4.1, g4.2⟩
end
end Go.Proofs.Ytlfooilcngjeiaa

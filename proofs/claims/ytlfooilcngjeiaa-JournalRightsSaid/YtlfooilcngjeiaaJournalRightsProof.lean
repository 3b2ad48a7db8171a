/- For every input of its Go type(s) the Go function harrow/harrowlaw08.JournalRights returns true, and its arguments read afterwards as they read before. Conditions: none beyond those that the given statement names. -/
import Derived.Test.YtlfooilcngjeiaaRows
import Derived.Test.YtlfooilcngjeiaaGj
import Derived.Test.YtlfooilcngjeiaaIq
import Derived.WalkKit
import Derived.ProofKit
import Derived.OpenShut
import Derived.ShutString
import Derived.ChangeOld
import Derived.Below
namespace Go.Proofs.Ytlfooilcngjeiaa.journalRights
open Go.ChangeShapes Go.WideShapes Go.ChangeAt Go.RowKit Go.SL Go.Proofs.Ytlfooilcngjeiaa
set_option linter.unusedVariables false
theorem own : ownKnob Try.prog.godebug = none := by kernel_rfl
theorem laidOut : laidOutB Try.prog = true := by kernel_rfl
set_option maxRecDepth 100000 in
theorem lifted (os : Os) (started : os.Started) (H : Type) (enc : TypeId × Value → H) :
    ReturnsInHanded {} Try.checked os 3 .any (Rows.journalRightsSpec.pre6 enc Try.prog Try.f3 Rows.journalRightsRow.domain false) (Rows.journalRightsSpec.post enc Try.prog Try.f3 false true false false) := by
  refine returnsInHanded_of_change (C := Try.checked) own started (by kernel_rfl) Try.func3
    (ChangeSpec.witness6 (enc := enc) (C := Try.checked) false ⟨#[], #[.int .i64 0, .agg #[.int .u32 0, .int .u64 0, .int .u64 0, .int .i64 0, .int .i64 0, .slice none 0 0]], []⟩ 8 (by kernel_rfl) (by kernel_rfl) (by kernel_rfl) (by kernel_rfl)) ?_
  intro W base args ds gs before hval0 hW hcnd _
  have hval : ∀ (j : Nat) t v, Try.f3.params[j]? = some t → args[j]? = some v → Value.okWide Try.prog W .any base t v := hval0
  have hW' := hW
  obtain ⟨p, q, hA0, hV, rfl, hfz, hnd⟩ := hW
  have hA : DataW.TrodAll enc Try.prog W 0 (fun _ => true) true Try.f3.params.toList args.toList ds p := hA0
  rw [Try.params3] at hA hval
  obtain ⟨v0, vs0, d0, ds0, p0, q0, hargs, rfl, rfl, h0, r0⟩ := trodAll_cons hA
  obtain ⟨v1, vs1, d1, ds1, p1, q1, rfl, rfl, rfl, h1, r1⟩ := trodAll_cons r0
  obtain ⟨rfl, rfl, rfl⟩ := trodAll_nil r1
  obtain rfl : args = #[v0, v1] := by cases args; simp_all
  obtain ⟨rfl, rfl⟩ := trodVars_none hV
  obtain ⟨n0, rfl, rfl, rfl, w0⟩ := open_int Try.underlying3 (hval 0 3 v0 rfl rfl) h0
  obtain ⟨cs1, rfl, _⟩ := okWide_struct Try.underlying26 (hval 1 26 v1 rfl rfl)
  have k1 := h1
  have lt1 : ∀ x ∈ p1, x.block < W.heap.size := by obtain ⟨m, hm⟩ := k1; exact DataW.trod_lt m _ _ _ hm
  obtain ⟨ep, st, sq, hd, us, a1, len1, cap1, z1, hcs1, w1, bq1, bu1, bv1⟩ : ∃ ep st sq hd us a len cap zs, cs1.toList = [.int .u32 ep, .int .u64 st, .int .u64 sq, .int .i64 hd, .int .i64 us, .slice a len cap] ∧ IsInts W a len cap zs ∧ 0 ≤ sq ∧ -9223372036854775808 ≤ us ∧ us ≤ 9223372036854775807 := by obtain ⟨fuel, hf⟩ := h1; exact state_of (by simpa [Value.cells] using hf)
  obtain rfl : cs1 = #[.int .u32 ep, .int .u64 st, .int .u64 sq, .int .i64 hd, .int .i64 us, .slice a1 len1 cap1] := by apply Array.ext'; simpa using hcs1
  clear hA0 hval0
  refine ((rights_any n0 ep st sq hd us a1 len1 cap1 z1 W w1 (bounds_i64 w0).1 bq1 bu1 bv1).mono fun _ _ h => ⟨h.1, h.2.2.below (h.2.1.addEmp)⟩ : Calls _ _ _ W fun e W' => e = .returned (.bool true) ∧ Below W.heap.size W W').mono fun e W' ⟨he, bel⟩ => ?_
  subst he
  exact ⟨_, rfl, _, _, _, [], _, [], hW', trodAll_mk1 (shut_bool Try.underlying4 _), (trodAll_cons_mk (shut_int Try.underlying3 w0) (trodAll_cons_mk (Below.trod laidOut (by kernel_rfl) (of_decide_eq_true (by kernel_rfl)) k1 bel lt1) trodAll_mk0)), rfl, bel.frame _, fun h => by cases h⟩
theorem over : Rows.journalRightsRow.holds Try.pinned (OpenSpec.ofChange Rows.journalRightsSpec) :=
  OpenClaim.holds_of_wide 3 Try.f3 rfl rfl rfl rfl rfl rfl rfl ⟨rfl, rfl, rfl, rfl, rfl⟩ rfl rfl rfl rfl rfl (by kernel_rfl) Try.func3 (by kernel_rfl)
    (of_decide_eq_true (by kernel_rfl)) (by unfold Func.isWrapper; first | (rw [if_pos (by decide +kernel)]; kernel_rfl) | (rw [if_neg (by decide +kernel)]; exact ⟨rfl, rfl⟩))
    (fun os started H enc _ => lifted os started H enc)
/-- The statement. -/
theorem proved : Rows.JournalRightsSaid := over
#print axioms proved
end Go.Proofs.Ytlfooilcngjeiaa.journalRights

/- file's laws: what comes in: ints. What a made space has; a few sums. -/
import Derived.Test.YtaoohjeaaccnfaaGreatVd
import Derived.Deep.Slices
import Derived.Deep.Fields
import Derived.ChangeSame
import Derived.ProofKit
import Derived.ChangeOld
import Derived.Below
namespace Go.Proofs.YtaoohjeaaccnfaaGreat.Fs
set_option linter.unusedVariables false
set_option linter.unusedSimpArgs false
open Go.RowKit Go.SL Go.ChangeShapes Go.WideShapes Go.ChangeAt Go.Proofs.YtaoohjeaaccnfaaGreat.Ba
def IsInts (w : World) (a : Option Addr) (len cap : Nat) (zs : List Int) : Prop :=
  (a = none ∧ len = 0 ∧ cap = 0 ∧ zs = []) ∨
  ∃ x, a = some x ∧ len ≤ cap ∧ cap ≤ maxLen ∧ zs.length = cap ∧ (∀ i, i < zs.length → w.cell? (x.add i) = some (.int .i64 (zs.getD i 0))) ∧ ∀ n ∈ zs, (Lit.int .i64 n).wf = true
theorem IsInts.cell {w : World} {a : Option Addr} {len cap : Nat} {zs : List Int} (h : IsInts w a len cap zs) {i : Nat} (hi : i < len) :
    ∃ b off, a = some ⟨b, off, none⟩ ∧ w.cell? ⟨b, off + i, none⟩ = some (.int .i64 (zs.getD i 0)) ∧ len ≤ cap ∧ cap ≤ 9223372036854775807 ∧ -9223372036854775808 ≤ zs.getD i 0 ∧ zs.getD i 0 ≤ 9223372036854775807 := by
  rcases h with ⟨_, rfl, _⟩ | ⟨x, rfl, hl, hm, hz, hc, hwf⟩
  · omega
  · have h1 := hc i (by omega)
    obtain ⟨b, off, spot⟩ := x
    have h0 := hc 0 (by omega)
    have : spot = none := by simpa [Addr.add] using World.cell?_spot h0
    subst this
    have hmem : zs.getD i 0 ∈ zs := by
      rw [List.getD, List.getElem?_eq_getElem (by omega)]; exact List.getElem_mem _
    have hw := hwf _ hmem
    have hr : -9223372036854775808 ≤ zs.getD i 0 ∧ zs.getD i 0 ≤ 9223372036854775807 := by
      generalize zs.getD i 0 = y at hw
      simp only [Lit.wf, Bool.and_eq_true, decide_eq_true_eq] at hw
      exact hw
    exact ⟨b, off, rfl, by rw [Addr.add_lit] at h1; exact h1, hl, by simp only [maxLen] at hm; omega, hr⟩
theorem IsInts.keep {w w' : World} {a : Option Addr} {len cap : Nat} {zs : List Int} (h : IsInts w a len cap zs) (k : ∀ x u, w.cell? x = some u → w'.cell? x = some u) : IsInts w' a len cap zs := by
  rcases h with h | ⟨x, rfl, hl, hm, hz, hc, hwf⟩
  · exact .inl h
  · exact .inr ⟨x, rfl, hl, hm, hz, fun i hi => k _ _ (hc i hi), hwf⟩
section
variable {H : Type} {enc : TypeId × Value → H} {w : World}
/-- A slice of ints, opened. -/
theorem ints_of {fuel : Nat} {a : Option Addr} {len cap : Nat} {x : DataW H × List MemPlace} (hf : DataW.trod enc Tryz.prog w 0 (fun _ => true) true fuel 22 [.slice a len cap] = some x) : ∃ zs, IsInts w a len cap zs := by
  rcases open_ints Tryz.underlying22 Tryz.underlying3 (by kernel_rfl) hf with ⟨hcs, _⟩ | ⟨x, l, c, zs, hcs, _, hl, hm, hz, _, hcell, hwz⟩
  · simp at hcs
    obtain ⟨rfl, rfl, rfl⟩ := hcs
    exact ⟨[], .inl ⟨rfl, rfl, rfl, rfl⟩⟩
  · simp at hcs
    obtain ⟨rfl, rfl, rfl⟩ := hcs
    exact ⟨zs, .inr ⟨_, rfl, hl, hm, by simpa using hz, hcell, hwz⟩⟩
end
end Go.Proofs.YtaoohjeaaccnfaaGreat.Fs

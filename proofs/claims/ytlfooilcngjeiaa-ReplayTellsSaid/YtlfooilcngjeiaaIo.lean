/- What comes in is what the walks are told: steps. -/
import Derived.Test.YtlfooilcngjeiaaHc
import Derived.Deep.Slices
import Derived.Deep.Fields
import Derived.ChangeSame
import Derived.ProofKit
import Derived.ChangeOld
import Derived.Below
namespace Go.Proofs.Ytlfooilcngjeiaa
set_option linter.unusedVariables false
set_option linter.unusedSimpArgs false
open Go.RowKit Go.SL Go.ChangeShapes Go.WideShapes Go.ChangeAt
section
variable {H : Type} {enc : TypeId × Value → H} {w : World}
/-- A slice of ints, opened. -/
theorem ints_of' {fuel : Nat} {cs : List Value} {x : DataW H × List MemPlace} (hf : DataW.trod enc Try.prog w 0 (fun _ => true) true fuel 24 cs = some x) : ∃ a len cap zs, cs = [.slice a len cap] ∧ IsInts w a len cap zs := by
  rcases open_ints Try.underlying24 Try.underlying3 (by kernel_rfl) hf with ⟨hcs, _⟩ | ⟨x, l, c, zs, hcs, _, hl, hm, hz, _, hcell, hwz⟩
  · exact ⟨none, 0, 0, [], hcs, .inl ⟨rfl, rfl, rfl, rfl⟩⟩
  · exact ⟨some x, l, c, zs, hcs, .inr ⟨_, rfl, hl, hm, by simpa using hz, hcell, hwz⟩⟩
theorem ints_of {fuel : Nat} {a : Option Addr} {len cap : Nat} {x : DataW H × List MemPlace} (hf : DataW.trod enc Try.prog w 0 (fun _ => true) true fuel 24 [.slice a len cap] = some x) : ∃ zs, IsInts w a len cap zs := by
  obtain ⟨a', l', c', zs, h, hz⟩ := ints_of' hf
  simp at h
  obtain ⟨rfl, rfl, rfl⟩ := h
  exact ⟨zs, hz⟩
set_option maxRecDepth 100000 in
/-- A slice of steps, opened. -/
theorem steps_of {fuel : Nat} {a : Option Addr} {len cap : Nat} {x : DataW H × List MemPlace} (hf : DataW.trod enc Try.prog w 0 (fun _ => true) true fuel 43 [.slice a len cap] = some x) : ∃ X, IsSteps w a len cap X := by
  have hC : Try.prog.cellsOf 48 = 3 := by kernel_rfl
  have hC1 : Try.prog.cellsOf 24 = 1 := by kernel_rfl
  have hC2 : Try.prog.cellsOf 3 = 1 := by kernel_rfl
  have hnil : StepV := ⟨none, 0, 0, [], 0, 0⟩
  rcases Go.Deep.open_slice Try.underlying43 hf with ⟨hcs, _⟩ | ⟨ad, l, c, m, n, D, Pl, hcs, _, hl, hm, hmm, _, hi⟩
  · simp at hcs
    obtain ⟨rfl, rfl, rfl⟩ := hcs
    exact ⟨fun _ => hnil, .inl rfl⟩
  · simp at hcs
    obtain ⟨rfl, rfl, rfl⟩ := hcs
    simp only [if_true] at hmm
    rw [hC] at hi
    by_cases h0 : len = 0
    · exact ⟨fun _ => hnil, .inl h0⟩
    have key : ∀ i, i < len → ∃ s : StepV, w.cell? (ad.add (i * 3)) = some (.slice s.a s.len s.cap) ∧ w.cell? ((ad.add (i * 3)).add 1) = some (.int .i64 s.data) ∧ w.cell? ((ad.add (i * 3)).add 2) = some (.int .i64 s.n) ∧ IsInts w s.a s.len s.cap s.zs := by
      intro i hil
      obtain ⟨cs', hc, ht⟩ := hi i (by omega)
      obtain ⟨ys, n', _, _, hlen, hyl, hfl⟩ := DataW.trod_struct Try.underlying48 ht
      obtain ⟨_, hcl, hat⟩ := World.cells?_some hc
      rw [hC] at hlen
      match cs', hlen, hat, hfl with
      | [c0, c1, c2], _, hat, hfl =>
        have f0 := hfl 0 _ rfl
        have f1 := hfl 1 _ rfl
        have f2 := hfl 2 _ rfl
        have hy3 : ys.length = 3 := hyl
        rw [List.getElem?_eq_getElem (by omega)] at f0 f1 f2
        replace f0 : DataW.trod enc Try.prog w 0 (fun _ => true) true n' 24 (List.take (Try.prog.cellsOf 24) [c0, c1, c2]) = some (ys[0]) := f0
        replace f1 : DataW.trod enc Try.prog w 0 (fun _ => true) true n' 3 (List.take (Try.prog.cellsOf 3) [c1, c2]) = some (ys[1]) := f1
        replace f2 : DataW.trod enc Try.prog w 0 (fun _ => true) true n' 3 (List.take (Try.prog.cellsOf 3) [c2]) = some (ys[2]) := f2
        rw [hC1] at f0
        rw [hC2] at f1 f2
        obtain ⟨xa, xl, xc, zs, e0, hz⟩ := ints_of' f0
        obtain ⟨v1, e1, _, _⟩ := DataW.trod_int Try.underlying3 f1
        obtain ⟨v2, e2, _, _⟩ := DataW.trod_int Try.underlying3 f2
        simp at e0 e1 e2
        have g0 := hat 0 (by simp)
        have g1 := hat 1 (by simp)
        have g2 := hat 2 (by simp)
        simp at g0 g1 g2
        exact ⟨⟨xa, xl, xc, zs, v1, v2⟩, by rw [← e0, ← g0]; simp [Addr.add], by rw [← e1]; exact g1, by rw [← e2]; exact g2, hz⟩
    have hspot : ∃ b off, ad = ⟨b, off, none⟩ := by
      obtain ⟨s, h1, _⟩ := key 0 (by omega)
      obtain ⟨b, off, spot⟩ := ad
      have : spot = none := by simpa [Addr.add] using World.cell?_spot h1
      exact ⟨b, off, by rw [this]⟩
    obtain ⟨b, off, rfl⟩ := hspot
    have key2 : ∀ i, ∃ s : StepV, i < len → w.cell? ⟨b, off + i * 3, none⟩ = some (.slice s.a s.len s.cap) ∧ w.cell? ⟨b, off + i * 3 + 1, none⟩ = some (.int .i64 s.data) ∧ w.cell? ⟨b, off + i * 3 + 2, none⟩ = some (.int .i64 s.n) ∧ IsInts w s.a s.len s.cap s.zs := by
      intro i
      by_cases hil : i < len
      · obtain ⟨s, h1, h2, h3, h4⟩ := key i hil
        rw [Addr.add_lit] at h1
        rw [Addr.add_lit, Addr.add_lit] at h2 h3
        exact ⟨s, fun _ => ⟨h1, h2, h3, h4⟩⟩
      · exact ⟨hnil, fun h => absurd h hil⟩
    exact ⟨fun i => Classical.choose (key2 i), .inr ⟨b, off, rfl, hl, hm, fun i hil => Classical.choose_spec (key2 i) hil⟩⟩
end
end Go.Proofs.Ytlfooilcngjeiaa

/- What comes in is what the walks are told: rows of ints. -/
import Derived.Test.YtlfooilcngjeiaaGreatHk
import Derived.Deep.Slices
import Derived.Deep.Fields
import Derived.ChangeSame
import Derived.ProofKit
import Derived.ChangeOld
import Derived.Below
namespace Go.Proofs.YtlfooilcngjeiaaGreat
set_option linter.unusedVariables false
set_option linter.unusedSimpArgs false
open Go.RowKit Go.SL Go.ChangeShapes Go.WideShapes Go.ChangeAt
structure RowV where
  a : Option Addr
  len : Nat
  cap : Nat
  zs : List Int
def IsRows (w : World) (a : Option Addr) (len cap : Nat) (X : Nat → RowV) : Prop :=
  len = 0 ∨ ∃ b off, a = some ⟨b, off, none⟩ ∧ len ≤ cap ∧ cap ≤ 9223372036854775807 ∧ ∀ i, i < len → w.cell? ⟨b, off + i, none⟩ = some (.slice (X i).a (X i).len (X i).cap) ∧ IsInts w (X i).a (X i).len (X i).cap (X i).zs
theorem IsRows.cell {w : World} {a : Option Addr} {len cap : Nat} {X : Nat → RowV} (h : IsRows w a len cap X) {i : Nat} (hi : i < len) :
    ∃ b off, a = some ⟨b, off, none⟩ ∧ w.cell? ⟨b, off + i, none⟩ = some (.slice (X i).a (X i).len (X i).cap) ∧ IsInts w (X i).a (X i).len (X i).cap (X i).zs ∧ len ≤ cap ∧ cap ≤ 9223372036854775807 := by
  rcases h with h | ⟨b, off, h1, h2, h3, h4⟩
  · omega
  · exact ⟨b, off, h1, (h4 i hi).1, (h4 i hi).2, h2, h3⟩
theorem IsRows.len_le {w : World} {a : Option Addr} {len cap : Nat} {X : Nat → RowV} (h : IsRows w a len cap X) : len ≤ 9223372036854775807 := by
  rcases h with h | ⟨b, off, h1, h2, h3, h4⟩ <;> omega
section
variable {H : Type} {enc : TypeId × Value → H} {w : World}
/-- A slice of ints, opened. -/
theorem ints_of' {fuel : Nat} {cs : List Value} {x : DataW H × List MemPlace} (hf : DataW.trod enc Tryz.prog w 0 (fun _ => true) true fuel 33 cs = some x) : ∃ a len cap zs, cs = [.slice a len cap] ∧ IsInts w a len cap zs := by
  rcases open_ints Tryz.underlying33 Tryz.underlying3 (by kernel_rfl) hf with ⟨hcs, _⟩ | ⟨x, l, c, zs, hcs, _, hl, hm, hz, _, hcell, hwz⟩
  · exact ⟨none, 0, 0, [], hcs, .inl ⟨rfl, rfl, rfl, rfl⟩⟩
  · exact ⟨some x, l, c, zs, hcs, .inr ⟨_, rfl, hl, hm, by simpa using hz, hcell, hwz⟩⟩
theorem ints_of {fuel : Nat} {a : Option Addr} {len cap : Nat} {x : DataW H × List MemPlace} (hf : DataW.trod enc Tryz.prog w 0 (fun _ => true) true fuel 33 [.slice a len cap] = some x) : ∃ zs, IsInts w a len cap zs := by
  obtain ⟨a', l', c', zs, h, hz⟩ := ints_of' hf
  simp at h
  obtain ⟨rfl, rfl, rfl⟩ := h
  exact ⟨zs, hz⟩
set_option maxRecDepth 100000 in
/-- A slice of slices of ints, opened. -/
theorem rows_of {fuel : Nat} {a : Option Addr} {len cap : Nat} {x : DataW H × List MemPlace} (hf : DataW.trod enc Tryz.prog w 0 (fun _ => true) true fuel 22 [.slice a len cap] = some x) : ∃ X, IsRows w a len cap X := by
  have hC : Tryz.prog.cellsOf 33 = 1 := by kernel_rfl
  have hnil : RowV := ⟨none, 0, 0, []⟩
  rcases Go.Deep.open_slice Tryz.underlying22 hf with ⟨hcs, _⟩ | ⟨ad, l, c, m, n, D, Pl, hcs, _, hl, hm, hmm, _, hi⟩
  · simp at hcs
    obtain ⟨rfl, rfl, rfl⟩ := hcs
    exact ⟨fun _ => hnil, .inl rfl⟩
  · simp at hcs
    obtain ⟨rfl, rfl, rfl⟩ := hcs
    simp only [if_true] at hmm
    rw [hC] at hi
    by_cases h0 : len = 0
    · exact ⟨fun _ => hnil, .inl h0⟩
    have key : ∀ i, i < len → ∃ s : RowV, w.cell? (ad.add (i * 1)) = some (.slice s.a s.len s.cap) ∧ IsInts w s.a s.len s.cap s.zs := by
      intro i hil
      obtain ⟨cs', hc, ht⟩ := hi i (by omega)
      obtain ⟨xa, xl, xc, zs, e0, hz⟩ := ints_of' ht
      subst e0
      obtain ⟨_, hcl, hat⟩ := World.cells?_some hc
      have g0 := hat 0 (by simp)
      simp at g0
      exact ⟨⟨xa, xl, xc, zs⟩, by rw [← g0]; simp [Addr.add], hz⟩
    have hspot : ∃ b off, ad = ⟨b, off, none⟩ := by
      obtain ⟨s, h1, _⟩ := key 0 (by omega)
      obtain ⟨b, off, spot⟩ := ad
      have : spot = none := by simpa [Addr.add] using World.cell?_spot h1
      exact ⟨b, off, by rw [this]⟩
    obtain ⟨b, off, rfl⟩ := hspot
    have key2 : ∀ i, ∃ s : RowV, i < len → w.cell? ⟨b, off + i, none⟩ = some (.slice s.a s.len s.cap) ∧ IsInts w s.a s.len s.cap s.zs := by
      intro i
      by_cases hil : i < len
      · obtain ⟨s, h1, h4⟩ := key i hil
        rw [Addr.add_lit, Nat.mul_one] at h1
        exact ⟨s, fun _ => ⟨h1, h4⟩⟩
      · exact ⟨hnil, fun h => absurd h hil⟩
    exact ⟨fun i => Classical.choose (key2 i), .inr ⟨b, off, rfl, hl, hm, fun i hil => Classical.choose_spec (key2 i) hil⟩⟩
end
end Go.Proofs.YtlfooilcngjeiaaGreat

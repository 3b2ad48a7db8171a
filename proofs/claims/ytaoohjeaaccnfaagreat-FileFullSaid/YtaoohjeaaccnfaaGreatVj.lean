/- file's laws: what comes in: bytes; what a file needs that has bytes from its beginning on. -/
import Derived.Test.YtaoohjeaaccnfaaGreatVi
namespace Go.SL
set_option linter.unusedVariables false
set_option linter.unusedSimpArgs false
theorem countP_below (m : Nat) : ∀ N, (List.range N).countP (fun i => decide (480 * i < m)) = min N ((m + 479) / 480)
  | 0 => by simp
  | N + 1 => by
    rw [List.range_succ, List.countP_append, countP_below m N]
    simp only [List.countP_cons, List.countP_nil, decide_eq_true_eq]
    split <;> omega
theorem needP_below {pr : Nat → Bool} {m : Nat} (h : ∀ i, i < 256 → pr i = decide (480 * i < m)) (hm : m ≤ 7680) : needP pr = 1 + (m + 479) / 480 := by
  rw [needP_congr h]
  unfold needP cntP
  rw [countP_below, if_neg]
  · omega
  · intro h9
    obtain ⟨i, h1, h2, h3⟩ := rowB_iff.1 h9
    simp only [decide_eq_true_eq] at h3
    omega
theorem getD_take (l : List UInt8) (n i : Nat) (h : i < n) : (l.take n).getD i 0 = l.getD i 0 := by
  simp only [List.getD, List.getElem?_take, if_pos h]
end Go.SL
namespace Go.Proofs.YtaoohjeaaccnfaaGreat.Fs
set_option linter.unusedVariables false
set_option linter.unusedSimpArgs false
open Go.RowKit Go.SL Go.ChangeShapes Go.WideShapes Go.ChangeAt Go.Proofs.YtaoohjeaaccnfaaGreat.Ba
def IsBytes (w : World) (a : Option Addr) (len cap : Nat) (l : List UInt8) : Prop :=
  (a = none ∧ len = 0 ∧ cap = 0 ∧ l = []) ∨ ∃ x, a = some x ∧ len ≤ cap ∧ cap ≤ maxLen ∧ l.length = len ∧ At w x (l.map SL.u8)
theorem IsBytes.take {w : World} {a : Option Addr} {len cap : Nat} {l : List UInt8} (h : IsBytes w a len cap l) {m : Nat} (hm : m ≤ len) : IsBytes w a m cap (l.take m) := by
  rcases h with ⟨rfl, rfl, rfl, rfl⟩ | ⟨x, rfl, h1, h2, h3, h4⟩
  · exact .inl ⟨rfl, by omega, rfl, by simp⟩
  · refine .inr ⟨x, rfl, by omega, h2, by rw [List.length_take]; omega, fun j u hu => h4 j u ?_⟩
    rw [List.map_take, List.getElem?_take] at hu
    split at hu
    · exact hu
    · cases hu
theorem IsBytes.len {w : World} {a : Option Addr} {len cap : Nat} {l : List UInt8} (h : IsBytes w a len cap l) : l.length = len ∧ len ≤ cap ∧ cap ≤ 9223372036854775807 := by
  rcases h with ⟨rfl, rfl, rfl, rfl⟩ | ⟨x, rfl, h1, h2, h3, h4⟩
  · exact ⟨rfl, by omega, by omega⟩
  · exact ⟨h3, h1, by simpa [maxLen] using h2⟩
theorem IsBytes.rd {w : World} {a : Option Addr} {len cap : Nat} {l : List UInt8} (h : IsBytes w a len cap l) : Rd w (.slice a len cap) l := by
  rcases h with ⟨rfl, rfl, rfl, rfl⟩ | ⟨x, rfl, h1, h2, h3, h4⟩
  · exact ⟨rfl, .inl ⟨rfl, rfl⟩⟩
  · exact ⟨by simp, .inr ⟨x, cap, by rw [h3], h4⟩⟩
theorem IsBytes.cell {w : World} {a : Option Addr} {len cap : Nat} {l : List UInt8} (h : IsBytes w a len cap l) {i : Nat} (hi : i < len) :
    ∃ b off, a = some ⟨b, off, none⟩ ∧ w.cell? ⟨b, off + i, none⟩ = some (SL.u8 (l.getD i 0)) := by
  rcases h with ⟨rfl, rfl, rfl, rfl⟩ | ⟨x, rfl, h1, h2, h3, h4⟩
  · omega
  · have e : ∀ j, j < len → w.cell? (x.add j) = some (SL.u8 (l.getD j 0)) := fun j hj => h4 j _ (by
      rw [List.getElem?_map, List.getElem?_eq_getElem (by omega), List.getD, List.getElem?_eq_getElem (by omega)]; rfl)
    obtain ⟨b, off, spot⟩ := x
    have : spot = none := by simpa [Addr.add] using World.cell?_spot (e 0 (by omega))
    subst this
    exact ⟨b, off, rfl, by have := e i hi; rwa [Addr.add_lit] at this⟩
/-- A file is written from bytes that lie in an old world. -/
theorem hD_old {w0 : World} {v : Value} {l : List UInt8} (h : Rd w0 v l) : ∀ W P, Sat W (whole w0 * P) → Rd W v l := fun W P hs => h.carry fun a u hu => (hs.to (star_comm _ _)).cellOld hu
section
variable {H : Type} {enc : TypeId × Value → H} {w : World}
/-- A slice of bytes, opened. -/
theorem bytes_of {fuel : Nat} {a : Option Addr} {len cap : Nat} {x : DataW H × List MemPlace} (hf : DataW.trod enc Tryz.prog w 0 (fun _ => true) true fuel 48 [.slice a len cap] = some x) : ∃ l, IsBytes w a len cap l := by
  rcases open_ints Tryz.underlying48 Tryz.underlying5 (by kernel_rfl) hf with ⟨hcs, _⟩ | ⟨x, l, c, zs, hcs, _, hl, hm, hz, _, hcell, hwz⟩
  · simp at hcs
    obtain ⟨rfl, rfl, rfl⟩ := hcs
    exact ⟨[], .inl ⟨rfl, rfl, rfl, rfl⟩⟩
  · simp at hcs
    obtain ⟨rfl, rfl, rfl⟩ := hcs
    have hz' : zs.length = cap := by simpa using hz
    refine ⟨(zs.take len).map UInt8.ofInt, .inr ⟨_, rfl, hl, hm, by simp; omega, fun j u hu => ?_⟩⟩
    rw [List.getElem?_map, List.getElem?_map, List.getElem?_take] at hu
    split at hu
    · rename_i hj
      rw [hcell j (by omega)]
      rw [List.getElem?_eq_getElem (by omega)] at hu
      have hw := hwz _ (List.getElem_mem (show j < zs.length by omega))
      rw [List.getD, List.getElem?_eq_getElem (by omega)]
      generalize zs[j] = y at hu hw
      simp only [Lit.wf, Bool.and_eq_true, decide_eq_true_eq] at hw
      rw [← hu]
      show some (Value.int .u8 y) = some (SL.u8 (UInt8.ofInt y))
      rw [← u8_wrap, IntKind.wrap_u8]
      congr 2
      have hw2 : 0 ≤ y ∧ y ≤ 255 := hw
      omega
    · cases hu
end
end Go.Proofs.YtaoohjeaaccnfaaGreat.Fs

/- BatchLast: the walk. -/
import Derived.Test.YtcgpegdnicnciaaL1
import Derived.OpenShut
namespace Go.Proofs.Ytcgpegdnicnciaa
set_option linter.unusedVariables false
set_option linter.unusedSimpArgs false
open Go.RowKit Go.SL
/-- A slice of ints that came in. -/
def IsInts (w : World) (a : Option Addr) (len cap : Nat) (zs : List Int) : Prop :=
  (a = none ∧ len = 0 ∧ cap = 0 ∧ zs = []) ∨
  ∃ x, a = some x ∧ len ≤ cap ∧ cap ≤ maxLen ∧ zs.length = cap ∧ (∀ i, i < zs.length → w.cell? (x.add i) = some (.int .i64 (zs.getD i 0))) ∧ ∀ n ∈ zs, (Lit.int .i64 n).wf = true
theorem IsInts.cell {w : World} {a : Option Addr} {len cap : Nat} {zs : List Int} (h : IsInts w a len cap zs) {i : Nat} (hi : i < len) :
    ∃ b off, a = some ⟨b, off, none⟩ ∧ w.cell? ⟨b, off + i, none⟩ = some (.int .i64 (zs.getD i 0)) ∧ len ≤ cap ∧ cap ≤ 9223372036854775807 := by
  rcases h with ⟨_, rfl, _⟩ | ⟨x, rfl, hl, hm, hz, hc, _⟩
  · omega
  · obtain ⟨b, off, rfl, hc'⟩ := ints_at hc (by omega)
    exact ⟨b, off, rfl, hc' i (by omega), hl, by simpa [maxLen] using hm⟩
theorem IsInts.len_le {w : World} {a : Option Addr} {len cap : Nat} {zs : List Int} (h : IsInts w a len cap zs) : len ≤ 9223372036854775807 := by
  rcases h with ⟨_, rfl, _⟩ | ⟨x, rfl, hl, hm, _⟩
  · omega
  · simp only [maxLen] at hm; omega
def i64s (l : List Int) : Array Value := (l.map (Value.int .i64)).toArray
theorem get_i64s (l : List Int) (i : Nat) : (i64s l)[i]? = l[i]?.map (Value.int .i64) := by simp [i64s]
theorem set_i64s (l : List Int) (i : Nat) (x : Int) : (i64s l).setIfInBounds i (.int .i64 x) = i64s (l.set i x) := by simp [i64s, List.map_set]
def fill (k : Nat) : List Int := (List.range 6).map fun j => if j < k then 1000 + (j : Int) else 0
theorem fill_len (k : Nat) : (fill k).length = 6 := by simp [fill]
theorem fill_set (k : Nat) : (fill k).set k (1000 + (k : Int)) = fill (k + 1) := by
  apply List.ext_getElem?
  intro i
  rw [List.getElem?_set]
  by_cases h : k = i
  · subst h
    by_cases h6 : k < 6
    · simp [fill, h6]
    · simp [fill, h6]
  · by_cases h6 : i < 6
    · have : (i < k + 1) = (i < k) := by apply propext; omega
      simp [fill, h, h6, this]
    · simp [fill, h, h6]
def LastInv (W D : CB) (L : List Int) : Prop :=
  L.length = 6 ∧ (∀ k : Nat, k < 6 → (kget W (k : Int) = some (blk (L.getD k 0)) ∧ 0 ≤ L.getD k 0 ∧ L.getD k 0 < 1000) ∨ (kget W (k : Int) = none ∧ L.getD k 0 = 1000 + (k : Int))) ∧
  (∀ k : Nat, k < 6 → kget D (k : Int) = none ∨ kget D (k : Int) = some (blk (1000 + (k : Int))))
theorem LastInv.ans {W D : CB} {L : List Int} {gs : List (Nat × List UInt8)} (h : LastInv W D L) (hg : gs.map Prod.snd = rowBlks 6) {k : Nat} (hk : k < 6) : rdA 0 W D gs (k : Int) = (0, blk (L.getD k 0)) := by
  rcases h.2.1 k hk with ⟨h1, _⟩ | ⟨h1, h2⟩
  · simp [rdA, h1]
  · have ha := rowAns_yes (id := (k : Int)) hg (by omega) (by omega)
    rcases h.2.2 k hk with h3 | h3
    · simp only [rdA, h1, h3, ha, h2, if_true]
    · simp only [rdA, h1, h3, h2, if_true]
theorem LastInv.told {W D : CB} {L : List Int} {gs : List (Nat × List UInt8)} (h : LastInv W D L) (hg : gs.map Prod.snd = rowBlks 6) {k : Nat} (hk : k < 6) : LastInv W (rdD 0 W D gs (k : Int)) L := by
  refine ⟨h.1, h.2.1, fun j hj => ?_⟩
  have ha := rowAns_yes (id := (k : Int)) hg (by omega) (by omega)
  unfold rdD
  split
  · rw [kget_upd]
    split
    · rename_i e; right; rw [ha, e]
    · exact h.2.2 j hj
  · exact h.2.2 j hj
theorem LastInv.wrote {W D : CB} {L : List Int} (h : LastInv W D L) {a : Nat} (ha : a < 6) {i : Int} (h0 : 0 ≤ i) (h1 : i < 1000) : LastInv (SL.upd W (a : Int) (blk i)) D (L.set a i) := by
  refine ⟨by simp [h.1], fun k hk => ?_, h.2.2⟩
  have hl := h.1
  by_cases hka : k = a
  · subst hka
    left
    simp [kget_upd, List.getD, hl, hk, h0, h1]
  · have hne : ¬ ((k : Int) = (a : Int)) := by omega
    have hak : ¬ a = k := fun e => hka e.symm
    rw [kget_upd, if_neg hne]
    have : (L.set a i).getD k 0 = L.getD k 0 := by simp [List.getD, List.getElem?_set, hak]
    rw [this]
    exact h.2.1 k hk
theorem LastInv.len {W D : CB} {L : List Int} (h : LastInv W D L) {a : Nat} (ha : a < 6) (l : List UInt8) : (SL.upd W (a : Int) l).length = if 1000 ≤ L.getD a 0 then W.length + 1 else W.length := by
  rw [length_upd]
  rcases h.2.1 a ha with ⟨h1, _, h2⟩ | ⟨h1, h2⟩
  · have hn : ¬ 1000 ≤ L.getD a 0 := by omega
    simp only [h1, Option.isSome_some, if_true, if_neg hn]
  · have hn : 1000 ≤ L.getD a 0 := by omega
    simp only [h1, Option.isSome_none, Bool.false_eq_true, if_false, if_pos hn]
end Go.Proofs.Ytcgpegdnicnciaa

/- a space over rows of noughts: what its calls come to. -/
import Derived.Test.YtaoohjeaaccnfaaGreatVo
namespace Go.SL
set_option linter.unusedVariables false
set_option linter.unusedSimpArgs false
open Go.RowKit
/-- A reader of n blocks of noughts. -/
def zask (n : Nat) : Asks Unit := fun s id => (if 0 ≤ id ∧ id < n then (0, zs 480) else (1, []), s)
theorem zask_rdr (n : Nat) : Rdr (zask n) n (fun _ => zs 480) (fun _ => True) :=
  ⟨fun _ _ => length_zs 480, fun s i _ hi => ⟨if_pos ⟨by omega, by omega⟩, trivial⟩⟩
abbrev BU := Bst Unit
def bst0 : BU := ⟨0, [], [], ()⟩
theorem bst0_good (n : Nat) : Good n (fun _ => zs 480) (fun _ : Unit => True) bst0 := ⟨rfl, trivial, fun i l _ h => (by cases h), fun i l _ h => (by cases h), fun p h => (by cases h)⟩
/-- The space that is made. -/
def madeM (n : Nat) : BU := (wrun (wformat (zask n)) bst0).2
abbrev AbsU (n : Nat) (M : BU) (A : Nat → Option AF) (k : Nat) : Prop := Abs n (fun _ => zs 480) (fun _ : Unit => True) M A k
def rootA : Nat → Option AF := fun id => if id = 1 then some (newF 2) else none
theorem made_abs {n : Nat} (h4 : 4 ≤ n) (hn : n ≤ 3840) : (wrun (wformat (zask n)) bst0).1 = .ok () ∧ AbsU n (madeM n) rootA (n - 2) := by
  obtain ⟨M', h1, h2⟩ := abs_format (zask_rdr n) (by omega) h4 hn (bst0_good n)
  unfold madeM
  rw [h1]
  exact ⟨rfl, h2⟩
end Go.SL
namespace Go.Proofs.YtaoohjeaaccnfaaGreat.Fs
set_option linter.unusedVariables false
set_option linter.unusedSimpArgs false
open Go.RowKit Go.SL Go.Proofs.YtaoohjeaaccnfaaGreat.Ba
theorem rows_method (v : Value) (k : Nat) (w : World) : (method (k + 1) 62 v "Read").run Tryz.prog w = .ok (178, v) w := by kernel_rfl
theorem rows_call (args : Array Value) (w : World) : (callFunc 178 args).run Tryz.prog w = .ok (.enter 178 args) w := by kernel_rfl
/-- Rows of noughts, n of them. -/
def isZ (n : Nat) (gs : List (Nat × List UInt8)) : Prop := gs.map Prod.snd = List.replicate n (zs 480)
theorem isZ_len {n : Nat} {gs : List (Nat × List UInt8)} (h : isZ n gs) : gs.length = n := by
  have := congrArg List.length h; simpa using this
theorem isZ_ans {n : Nat} {gs : List (Nat × List UInt8)} (h : isZ n gs) (s : Unit) (id : Int) : rowAns gs id = (zask n s id).1 := by
  have hl := isZ_len h
  unfold rowAns zask
  by_cases h0 : 0 ≤ id
  · rw [if_pos h0]
    by_cases h1 : id < n
    · rw [if_pos ⟨h0, h1⟩]
      have hg : gs[id.toNat]?.map Prod.snd = some (zs 480) := by
        rw [← List.getElem?_map, h, List.getElem?_replicate, if_pos (by omega)]
      obtain ⟨p, hp, hp2⟩ := Option.map_eq_some_iff.1 hg
      rw [hp]; dsimp only; rw [hp2]
    · rw [if_neg (fun h => h1 h.2), List.getElem?_eq_none (by omega)]
  · rw [if_neg h0, if_neg (fun h => h0 h.1)]
theorem isZ_small {n : Nat} {gs : List (Nat × List UInt8)} (h : isZ n gs) : allSmall gs := by
  intro p hp
  have : p.2 ∈ gs.map Prod.snd := List.mem_map_of_mem hp
  rw [h] at this
  unfold small; rw [List.eq_of_mem_replicate this, length_zs]; decide
def rowsC (n : Nat) (gs : List (Nat × List UInt8)) (v : Value) : Cx Unit := ⟨62, v, 178, zask n, fun _ => rowsR v gs⟩
theorem rowsC_ok {n : Nat} {gs : List (Nat × List UInt8)} (v : Value) (h : isZ n gs) (hn : n ≤ 1000) : (rowsC n gs v).Ok :=
  ⟨fun k w => rows_method v k w, fun args w => rows_call args w, fun s id F w hs => by
    have := rowsRead_any w v gs id F (isZ_small h) (by rw [isZ_len h]; exact hn) hs
    rw [isZ_ans h s id] at this
    exact this, fun s id h0 => by
    show small (if 0 ≤ id ∧ id < n then ((0 : Int), zs 480) else (1, [])).2
    split
    · unfold small; rw [length_zs]; decide
    · unfold small; decide⟩
def rowsX (n : Nat) (h4 : 4 ≤ n) (hn : n ≤ 1000) (gs : List (Nat × List UInt8)) (v : Value) (hz : isZ n gs) : Fx n :=
  ⟨Unit, rowsC n gs v, fun _ => zs 480, fun _ => True, rowsC_ok v hz hn, zask_rdr n, h4, by omega, fun _ => emp, fun _ _ _ _ h => h⟩
end Go.Proofs.YtaoohjeaaccnfaaGreat.Fs

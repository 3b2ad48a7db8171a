/- file's laws: a space that is made, and its files. -/
import Derived.Test.YtaoohjeaaccnfaaGreatVe
import Derived.Test.YtaoohjeaaccnfaaGreatVh
namespace Go.Proofs.YtaoohjeaaccnfaaGreat.Fs
set_option linter.unusedVariables false
set_option linter.unusedSimpArgs false
open Go.RowKit Go.SL Go.Proofs.YtaoohjeaaccnfaaGreat.Ba
def MadeX (n : Nat) (F : Assn) (w : World) (e : Ending) (w' : World) : Prop := ∃ (x : Fx n) (b : Nat), e = .returned (.tuple #[spV b n, .bool true]) ∧ Side w w' ∧ Sat w' (fsA x b rootA (n - 2) * F)
theorem made_x (n : Nat) (h4 : 4 ≤ n) (hn : n ≤ 1000) (F : Assn) (w : World) (h : Sat w F) :
    Calls Tryz.prog 19 #[.int .i64 (n : Int)] w (MadeX n F w) := by
  refine (made_any n h4 hn F w h).mono ?_
  rintro e w' ⟨b, he, d, hs⟩
  obtain ⟨S, gs, v, hz, h1⟩ := Sat.spOpen hs
  refine ⟨rowsX n h4 hn gs v hz, b, he, d, ?_⟩
  refine Sat.fShut (x := rowsX n h4 hn gs v hz) (made_abs h4 (by omega)).2 (Sat.mShut (S := S) (S' := S) (fun _ _ h => h) (h1.to ?_))
  show _ = _ * (_ * (emp * _))
  rw [emp_star]; rfl
end Go.Proofs.YtaoohjeaaccnfaaGreat.Fs

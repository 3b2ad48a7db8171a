/- Steps. -/
import Derived.Test.YtacliaemfegopaaGreatDoorKP10
import Derived.BigQuiet
import Derived.IntWalk
set_option linter.unusedVariables false
set_option linter.unusedSimpArgs false
set_option maxRecDepth 100000
set_option maxHeartbeats 40000000
open Go.Proofs Go.SL
namespace Go.SL
open Go.RowKit
abbrev QX:=Tg × Nat
theorem IN {t:Tg} (h:t.ok=true):1≤t.ep∧1≤t.st∧t.st≤t.sq∧t.sq≤281474976710655∧t.fl<t.sq∧1≤t.ct∧t.ct≤72∧0≤t.ix∧t.ix<t.ct∧0≤t.id∧t.id<3840:=by
 unfold Tg.ok at h;simp only [Bool.and_eq_true,decide_eq_true_eq] at h;obtain ⟨⟨⟨⟨⟨⟨⟨⟨⟨⟨h1,h2⟩,h3⟩,h4⟩,h5⟩,h6⟩,h7⟩,h8⟩,h9⟩,h10⟩,h11⟩:=h;exact ⟨h1,h2,h3,h4,h5,h6,h7,h8,h9,h10,h11⟩
def Na (sq:Int) (P:Nat) (s:Int × Int) (x:QX):Int × Int:=
 if x.1.sq=sq∧s.2<x.1.ix then (((x.2:Int)+(x.1.ct-x.1.ix))%(P:Int),x.1.ix) else s
end Go.SL

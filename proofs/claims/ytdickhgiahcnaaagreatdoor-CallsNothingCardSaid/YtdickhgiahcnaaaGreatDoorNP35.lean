/- Steps. -/
import Derived.Test.YtdickhgiahcnaaaGreatDoorNP10
import Derived.BigQuiet
import Derived.IntWalk
set_option linter.all false
set_option maxRecDepth 99999
set_option maxHeartbeats 0
open Go.SL
namespace Go.SL
open RowKit
abbrev WG:=Tg × Nat
def MG {t:Tg} (h:t.ok=true):1<=t.ep/\1<=t.st/\t.st<=t.sq/\t.sq<=281474976710655/\t.fl<t.sq/\1<=t.ct/\t.ct<=72/\0<=t.ix/\t.ix<t.ct/\0<=t.id/\t.id<3840:=by
 unfold Tg.ok at h;simp only [Bool.and_eq_true,decide_eq_true_eq] at h;obtain ⟨⟨⟨⟨⟨⟨⟨⟨⟨⟨a,d⟩,e⟩,h4⟩,h5⟩,f⟩,g⟩,i⟩,j⟩,b⟩,c⟩:=h;exact ⟨a,d,e,h4,h5,f,g,i,j,b,c⟩
def Rk (a:Int) (P:Nat) (s:Int × Int) (x:WG):Int × Int:=
 if x.1.sq=a/\s.2<x.1.ix then (((x.2:Int)+(x.1.ct-x.1.ix))%(P:Int),x.1.ix) else s
end Go.SL

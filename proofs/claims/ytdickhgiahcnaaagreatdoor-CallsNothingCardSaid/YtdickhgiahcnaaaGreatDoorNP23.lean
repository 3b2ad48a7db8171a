/- Steps. -/
import Derived.Test.YtdickhgiahcnaaaGreatDoorNP0
import Derived.WalkKit
import Derived.WalkSpells
import Derived.WalkLawsBesides
import Derived.Deep.RegionHeld3
set_option linter.all false
set_option maxRecDepth 99999
set_option maxHeartbeats 0
namespace Go.SL
end Go.SL
open Go.SL
namespace Go.SL
open RowKit
variable {fuel:Nat}
def tz:(∀ {c:Type} (l:List c) (i:Nat) (h:i<l.toArray.size),l.toArray[i]=l[i]'(by simpa using h))/\(∀ {c:Type} (l:List c) (i:Nat) (v:c),l.toArray.setIfInBounds i v=(l.set i v).toArray) /\
  (∀ {c:Type} (a:c) (l:List c) (i:Nat) (h:i+1<(a :: l).length),(a :: l)[i+1]=l[i]'(by simpa using h))/\(∀ {c:Type} (a:c) (l:List c) (h:0<(a :: l).length),(a :: l)[0]=a) /\
  (∀ {c:Type} (a b:c) (l:List c) (i:Nat),(a :: l).set (i+1) b=a :: l.set i b)/\(∀ {c:Type} (a b:c) (l:List c),(a :: l).set 0 b=b :: l):=
 ⟨fun _ _ _=>Si0,fun _ _ _=>Si0,fun _ _ _ _=>rfl,fun _ _ _=>rfl,fun _ _ _ _=>rfl,fun _ _ _=>rfl⟩
section
variable {P:Program} {ops:Array Oper} {Q:Exit->Act->World->Prop} {md:Region.Mode} {S:World->Prop}
def tk (i:Nat) {b:Oper} {v:Value} {d:Array Bool} {a:Act} {w:World} {q:Prop} (h:q)
  (k:ops[i]?=some b:=by rfl) (n:Region.noSelect ops=true:=by kernel_rfl) (j:Region.free md ops d i=true:=by kernel_rfl) (m:(Region.ready md ops d).contains i=true:=by kernel_rfl)
  (e:∀ c a w,Q (.panic c) (a.put b.dst v) w->Q (.panic c) a w:=by exact fun _ _ _ h=>h) (o:Region.wanted b (yielded ops a.tmps)=true:=by kernel_rfl)
  (hv:∀ w,S w->(execOp a.eval b).run P w = .ok (.value v) w:=by intro w g;(try dsimp only at g);go_simp;try with_reducible rfl) (f:S w:=by assumption)
  (l:q->wpAnyH P md ops Q S fuel (d.setIfInBounds i true) (a.put b.dst v) w:=by intro p;(try simp only [Go.SL.tz,Go.Act.put]);exact p):wpAnyH P md ops Q S (fuel+1) d a w:=
 wpAnyH_take k n j m e (.inl ⟨o,hv⟩) f (l h)
def tr (i:Nat) {o:Oper} {b:Array Bool} {a:Act} {w:World}
  (h:∀ c:Act->World->Prop,Shut (∀ a w,S w->(S w->wpAnyH P md ops Q S fuel (b.setIfInBounds i true) a w)->c a w)->Oper.wp P o a w c Q)
  (e:ops[i]?=some o:=by rfl) (f:Region.ready md ops b=[i]:=by kernel_rfl) (g:Region.wanted o (yielded ops a.tmps)=true:=by kernel_rfl):wpAnyH P md ops Q S (fuel+1) b a w:=
 wpAnyH_ready f Si0 (AllReadyH.cons e (fun K d=>by rw [if_pos g];exact h K d) AllReadyH.nil)
end
end Go.SL

/- Steps. -/
import Derived.WalkKit
import Derived.WalkSpells
import Derived.WalkLawsBesides
import Derived.Deep.RegionHeld3
set_option linter.unusedVariables false
set_option linter.unusedSimpArgs false
set_option maxRecDepth 100000
set_option maxHeartbeats 40000000
namespace Go.Proofs
end Go.Proofs
namespace Go.SL
end Go.SL
open Go.Proofs Go.SL
namespace Go.SL
open Go.RowKit
theorem tz:(∀ {α:Type} (l:List α) (i:Nat) (h:i<l.toArray.size),l.toArray[i]=l[i]'(by simpa using h))∧(∀ {α:Type} (l:List α) (i:Nat) (v:α),l.toArray.setIfInBounds i v=(l.set i v).toArray) ∧
  (∀ {α:Type} (a:α) (l:List α) (i:Nat) (h:i+1<(a :: l).length),(a :: l)[i+1]=l[i]'(by simpa using h))∧(∀ {α:Type} (a:α) (l:List α) (h:0<(a :: l).length),(a :: l)[0]=a) ∧
  (∀ {α:Type} (a b:α) (l:List α) (i:Nat),(a :: l).set (i+1) b=a :: l.set i b)∧(∀ {α:Type} (a b:α) (l:List α),(a :: l).set 0 b=b :: l):=
 ⟨fun _ _ _=>by simp,fun _ _ _=>by simp,fun _ _ _ _=>rfl,fun _ _ _=>rfl,fun _ _ _ _=>rfl,fun _ _ _=>rfl⟩
section
variable {P:Program} {ops:Array Oper} {Q:Exit→Act→World→Prop} {md:Region.Mode} {S:World→Prop}
theorem tk (i:Nat) {oi:Oper} {v:Value} {fuel:Nat} {listed:Array Bool} {a:Act} {w:World} {q:Prop} (h:q)
  (hi:ops[i]?=some oi:=by rfl) (hs:Region.noSelect ops=true:=by kernel_rfl) (hf:Region.free md ops listed i=true:=by kernel_rfl) (hr:(Region.ready md ops listed).contains i=true:=by kernel_rfl)
  (hQ:∀ c a w,Q (.panic c) (a.put oi.dst v) w→Q (.panic c) a w:=by exact fun _ _ _ h=>h) (hw:Region.wanted oi (yielded ops a.tmps)=true:=by kernel_rfl)
  (hv:∀ w,S w→(execOp a.eval oi).run P w = .ok (.value v) w:=by intro w hSw;(try dsimp only at hSw);go_simp;try with_reducible rfl) (hS:S w:=by assumption)
  (hk:q→wpAnyH P md ops Q S fuel (listed.setIfInBounds i true) (a.put oi.dst v) w:=by intro hx;(try simp only [Go.SL.tz,Go.Act.put]);exact hx):wpAnyH P md ops Q S (fuel+1) listed a w:=
 wpAnyH_take hi hs hf hr hQ (.inl ⟨hw,hv⟩) hS (hk h)
theorem tr (i:Nat) {o:Oper} {fuel:Nat} {listed:Array Bool} {a:Act} {w:World}
  (h:∀ K':Act→World→Prop,Shut (∀ a w,S w→(S w→wpAnyH P md ops Q S fuel (listed.setIfInBounds i true) a w)→K' a w)→Oper.wp P o a w K' Q)
  (ho:ops[i]?=some o:=by rfl) (hr:Region.ready md ops listed=[i]:=by kernel_rfl) (hw:Region.wanted o (yielded ops a.tmps)=true:=by kernel_rfl):wpAnyH P md ops Q S (fuel+1) listed a w:=
 wpAnyH_ready hr (by simp) (AllReadyH.cons ho (fun K hK=>by rw [if_pos hw];exact h K hK) AllReadyH.nil)
end
end Go.SL

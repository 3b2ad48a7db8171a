/- For every input of its Go types harrow/harrowlaw19.CallsSame returns true, and its arguments read afterwards as before. Conditions: none beyond the given statement's. -/
import Derived.Test.YtebfaobobccikaaGreatDoorSP54
import Derived.Test.YtebfaobobccikaaGreatDoorCards
import Derived.Test.YtebfaobobccikaaGreatDoorTie
import Derived.ShutString
import Derived.ChangeOld
import Derived.Below
namespace Go.Proofs.YtebfaobobccikaaGreatDoor.callsSame
open Go.ChangeShapes Go.WideShapes Go.ChangeAt Go.RowKit Go.SL Go.Proofs.YtebfaobobccikaaGreatDoor Go.Proofs.Nn Go.Proofs.Cl Go.Proofs.Su
set_option linter.all false
theorem o:ownKnob Tryz.prog.godebug=none:=by kernel_rfl
theorem lO:laidOutB Tryz.prog=true:=by kernel_rfl
set_option maxRecDepth 100000 in
theorem lf (os:Os) (S:os.Started) (H:Type) (enc:TypeId×Value->H) :
    ReturnsInHanded {} Tryz.checked os 4 .any (fun w a=>(Rows.callsSameSpec.pre enc Tryz.prog Tryz.f4 [] false w a/\laidMetH Tryz.prog Su.ov w)/\sizedMet enc Tryz.prog Tryz.f4 (OpenSpec.ofChange Rows.callsSameSpec) false w a) (Rows.callsSameSpec.post enc Tryz.prog Tryz.f4 false true false false):=by
  refine returnsInHanded_of_change_and (C:=Tryz.checked) (X:=fun w _=>laidMetH Tryz.prog Su.ov w) (fun _ _ _ J h=>h.of_heap J) o S (by kernel_rfl) Tryz.func4
    (ChangeSpec.witness_shaped (enc:=enc) (C:=Tryz.checked) (os:=os) (X:=fun w _=>laidMetH Tryz.prog Su.ov w) false (World.doorLaid Tryz.prog 400 os) #[.int .i64 0,.slice none 0 0,.int .i64 0] 8 rfl (World.shaped_of_RefB (by kernel_rfl) (by kernel_rfl)) (by kernel_rfl) (by kernel_rfl) (by kernel_rfl) (Su.vu os _)) ?_
  intro W z a A gs Z o n _ g0 D j0
  have b:∀ (j:Nat) t v,Tryz.f4.params[j]?=some t->a[j]?=some v->Value.okWide Tryz.prog W .any z t v:=o
  have F:=n
  obtain ⟨p,k0,l,E,rfl,h0,i0⟩:=n
  have k:DataW.TrodAll enc Tryz.prog W 0 (fun _=>true) true Tryz.f4.params.toList a.toList A p:=l
  rw [Tryz.params4] at k b
  obtain ⟨s,l0,d0,a0,p0,q0,f0,rfl,rfl,B,P⟩:=trodAll_cons k
  obtain ⟨u,m0,d1,b0,O,q1,rfl,rfl,rfl,i,Q⟩:=trodAll_cons P
  obtain ⟨y,n0,d2,c0,p2,q2,rfl,rfl,rfl,C,R⟩:=trodAll_cons Q
  obtain ⟨rfl,rfl,rfl⟩:=trodAll_nil R
  obtain rfl:a=#[s,u,y]:=by cases a;simp_all
  obtain ⟨rfl,rfl⟩:=trodVars_none E
  obtain ⟨M,rfl,rfl,rfl,T⟩:=open_int Tryz.underlying3 (b 0 3 s rfl rfl) B
  obtain ⟨d,r,g,rfl⟩:=okWide_slice Tryz.underlying22 (b 1 22 u rfl rfl)
  have q:=i
  have L:∀ x ∈ O,x.block<W.heap.size:=by obtain ⟨m,K⟩:=q;exact DataW.trod_lt m _ _ _ K
  obtain ⟨X,U⟩:∃ Y,gV W d r g Y:=by obtain ⟨e0,I⟩:=i;exact wP (by simpa [Value.cells] using I)
  obtain ⟨N,rfl,rfl,rfl,V⟩:=open_int Tryz.underlying3 (b 2 3 y rfl rfl) C
  clear l o
  refine ((Cl.FI W (Su.mV D) M d r g X N U).mono fun _ _ h=>⟨h.1,h.2.2.below (h.2.1.kC)⟩:Calls _ _ _ W fun e c=>e=.returned (.bool true)/\Below W.heap.size W c).mono fun e c ⟨G,f⟩ => ?_
  subst G
  exact ⟨_,rfl,_,_,_,[],_,[],F,trodAll_mk1 (shut_bool Tryz.underlying4 _),(trodAll_cons_mk (shut_int Tryz.underlying3 T) (trodAll_cons_mk (Below.trod lO (by kernel_rfl) (of_decide_eq_true (by kernel_rfl)) q f L) (trodAll_cons_mk (shut_int Tryz.underlying3 V) trodAll_mk0))),rfl,f.frame _,fun h=>by cases h⟩
theorem over:Rows.callsSameRow.holds Tryz.pinned (OpenSpec.ofChange Rows.callsSameSpec) :=
  OpenClaim.holds_of_wide 4 Tryz.f4 rfl rfl rfl rfl rfl rfl rfl ⟨rfl,rfl,rfl,rfl,rfl⟩ rfl rfl rfl rfl rfl (by kernel_rfl) Tryz.func4 (by kernel_rfl)
    (of_decide_eq_true (by kernel_rfl)) (by unfold Func.isWrapper;first | (rw [if_pos (by decide +kernel)];kernel_rfl) | (rw [if_neg (by decide +kernel)];exact ⟨rfl,rfl⟩))
    (fun os started H enc _=>lf os started H enc)
theorem proved:Rows.CallsSameCardSaid :=
  Claim7.holds_tied_plain_at .later [] [.data] true (true, "f54658c52f8aa1c9d846421c908c2e896f4e6231f27800cce69cd4e9af82b9e5") true
    over (fun _ h=>by cases h) (by kernel_rfl) (fun _ h=>by cases h) callsSame_row_tie rfl ⟨rfl,rfl⟩ (by kernel_rfl) rfl
    (fun f fn h g=>by
      obtain rfl:f=4:=Option.some.inj ((show Tryz.prog.funcNamed "harrow/harrowlaw19.CallsSame" = some 4 by kernel_rfl).symm.trans h) |>.symm
      obtain rfl:fn=Tryz.f4:=(Option.some.inj (Tryz.func4.symm.trans g)).symm
      exact ⟨by kernel_rfl,fun j t ht=>by
        rw [Tryz.params4] at ht
        have m:t ∈ [3,22,3]:=by simpa using Array.mem_of_getElem? ht
        have a:([3,22,3].all fun u=>!Tryz.prog.wantsStandIn u)=true:=by kernel_rfl
        exact (show Tryz.prog.wantsStandIn t=false by simpa using List.all_eq_true.1 a t m)⟩)
    (by kernel_rfl)
#print axioms proved
end Go.Proofs.YtebfaobobccikaaGreatDoor.callsSame

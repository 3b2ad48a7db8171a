/- For every input of its Go types harrow/harrowlaw19.CallsMoves returns true, and its arguments read afterwards as before. Conditions: none beyond the given statement's. -/
import Derived.Test.YtebfaobobccikaaGreatDoorSP56
import Derived.Test.YtebfaobobccikaaGreatDoorCards
import Derived.Test.YtebfaobobccikaaGreatDoorTie
import Derived.ShutString
namespace Go.Proofs.YtebfaobobccikaaGreatDoor.callsMoves
open Go.ChangeShapes Go.WideShapes Go.ChangeAt Go.RowKit Go.SL Go.Proofs.YtebfaobobccikaaGreatDoor Go.Proofs.Nn Go.Proofs.Cl Go.Proofs.Su
set_option linter.all false
theorem o:ownKnob Tryz.prog.godebug=none:=by kernel_rfl
theorem lO:laidOutB Tryz.prog=true:=by kernel_rfl
set_option maxRecDepth 100000 in
theorem lf (os:Os) (V:os.Started) (H:Type) (enc:TypeId×Value->H) :
    ReturnsInHanded {} Tryz.checked os 5 .any (fun w a=>(Rows.callsMovesSpec.pre enc Tryz.prog Tryz.f5 [] false w a/\laidMetH Tryz.prog Su.ov w)/\sizedMet enc Tryz.prog Tryz.f5 (OpenSpec.ofChange Rows.callsMovesSpec) false w a) (Rows.callsMovesSpec.post enc Tryz.prog Tryz.f5 false true false false):=by
  refine returnsInHanded_of_change_and (C:=Tryz.checked) (X:=fun w _=>laidMetH Tryz.prog Su.ov w) (fun _ _ _ O h=>h.of_heap O) o V (by kernel_rfl) Tryz.func5
    (ChangeSpec.witness_shaped (enc:=enc) (C:=Tryz.checked) (os:=os) (X:=fun w _=>laidMetH Tryz.prog Su.ov w) false (World.doorLaid Tryz.prog 400 os) #[.slice none 0 0,.slice none 0 0] 8 rfl (World.shaped_of_RefB (by kernel_rfl) (by kernel_rfl)) (by kernel_rfl) (by kernel_rfl) (by kernel_rfl) (Su.vu os _)) ?_
  intro W G a I gs a0 z y _ f0 K i0
  have f:∀ (j:Nat) t v,Tryz.f5.params[j]?=some t->a[j]?=some v->Value.okWide Tryz.prog W .any G t v:=z
  have M:=y
  obtain ⟨p,j0,u,L,rfl,g0,h0⟩:=y
  have s:DataW.TrodAll enc Tryz.prog W 0 (fun _=>true) true Tryz.f5.params.toList a.toList I p:=u
  rw [Tryz.params5] at s f
  obtain ⟨E,k0,d0,b0,R,q0,e0,rfl,rfl,q,T⟩:=trodAll_cons s
  obtain ⟨F,l0,d1,c0,S,q1,rfl,rfl,rfl,r,U⟩:=trodAll_cons T
  obtain ⟨rfl,rfl,rfl⟩:=trodAll_nil U
  obtain rfl:a=#[E,F]:=by cases a;simp_all
  obtain ⟨rfl,rfl⟩:=trodVars_none L
  obtain ⟨k,C,n,rfl⟩:=okWide_slice Tryz.underlying22 (f 0 22 E rfl rfl)
  have A:=q
  have P:∀ x ∈ R,x.block<W.heap.size:=by obtain ⟨m,d⟩:=A;exact DataW.trod_lt m _ _ _ d
  obtain ⟨Z,X⟩:∃ g,gV W k C n g:=by obtain ⟨J,c⟩:=q;exact wP (by simpa [Value.cells] using c)
  obtain ⟨l,D,o,rfl⟩:=okWide_slice Tryz.underlying30 (f 1 30 F rfl rfl)
  have B:=r
  have Q:∀ x ∈ S,x.block<W.heap.size:=by obtain ⟨m,d⟩:=B;exact DataW.trod_lt m _ _ _ d
  obtain ⟨z1,Y⟩:∃ g,sw W l D o g:=by obtain ⟨J,c⟩:=r;exact KA (by simpa [Value.cells] using c)
  clear u z
  refine ((Cl.C8 W (Su.mV K) k C n Z l D o z1 X Y).mono fun _ _ h=>⟨h.1,h.2.2.below (h.2.1.kC)⟩:Calls _ _ _ W fun e i=>e=.returned (.bool true)/\Below W.heap.size W i).mono fun e i ⟨N,b⟩ => ?_
  subst N
  exact ⟨_,rfl,_,_,_,[],_,[],M,trodAll_mk1 (shut_bool Tryz.underlying4 _),(trodAll_cons_mk (Below.trod lO (by kernel_rfl) (of_decide_eq_true (by kernel_rfl)) A b P) (trodAll_cons_mk (Below.trod lO (by kernel_rfl) (of_decide_eq_true (by kernel_rfl)) B b Q) trodAll_mk0)),rfl,b.frame _,fun h=>by cases h⟩
theorem over:Rows.callsMovesRow.holds Tryz.pinned (OpenSpec.ofChange Rows.callsMovesSpec) :=
  OpenClaim.holds_of_wide 5 Tryz.f5 rfl rfl rfl rfl rfl rfl rfl ⟨rfl,rfl,rfl,rfl,rfl⟩ rfl rfl rfl rfl rfl (by kernel_rfl) Tryz.func5 (by kernel_rfl)
    (of_decide_eq_true (by kernel_rfl)) (by unfold Func.isWrapper;first | (rw [if_pos (by decide +kernel)];kernel_rfl) | (rw [if_neg (by decide +kernel)];exact ⟨rfl,rfl⟩))
    (fun os started H enc _=>lf os started H enc)
theorem proved:Rows.CallsMovesCardSaid :=
  Claim7.holds_tied_plain_at .later [] [.data] true (true, "f54658c52f8aa1c9d846421c908c2e896f4e6231f27800cce69cd4e9af82b9e5") true
    over (fun _ h=>by cases h) (by kernel_rfl) (fun _ h=>by cases h) callsMoves_row_tie rfl ⟨rfl,rfl⟩ (by kernel_rfl) rfl
    (fun f fn h g=>by
      obtain rfl:f=5:=Option.some.inj ((show Tryz.prog.funcNamed "harrow/harrowlaw19.CallsMoves" = some 5 by kernel_rfl).symm.trans h) |>.symm
      obtain rfl:fn=Tryz.f5:=(Option.some.inj (Tryz.func5.symm.trans g)).symm
      exact ⟨by kernel_rfl,fun j t ht=>by
        rw [Tryz.params5] at ht
        have m:t ∈ [22,30]:=by simpa using Array.mem_of_getElem? ht
        have a:([22,30].all fun u=>!Tryz.prog.wantsStandIn u)=true:=by kernel_rfl
        exact (show Tryz.prog.wantsStandIn t=false by simpa using List.all_eq_true.1 a t m)⟩)
    (by kernel_rfl)
#print axioms proved
end Go.Proofs.YtebfaobobccikaaGreatDoor.callsMoves

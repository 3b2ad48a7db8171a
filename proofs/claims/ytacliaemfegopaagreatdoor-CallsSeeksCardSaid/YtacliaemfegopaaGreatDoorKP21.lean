/- Steps. -/
import Derived.Test.YtacliaemfegopaaGreatDoorKP17
import Derived.ProofKit
import Derived.LaidMore
import Derived.OpenShut
import Derived.Stop.Joined
set_option linter.unusedVariables false
set_option linter.unusedSimpArgs false
set_option maxRecDepth 100000
set_option maxHeartbeats 40000000
open Go.Proofs Go.SL
namespace Go.Su
open Go.ChangeShapes Go.WideShapes Go.ChangeAt Go.WideMaps Go.WideElems Go.RowKit Go.SL Go.Nn
theorem PI : Tryz.prog.globalNamed "harrow/crc.half" = some 1 := by kernel_rfl
theorem Px:(Tryz.prog.globals[1]?).map (·.type)=some 301:=by kernel_rfl
def zo {H : Type} : List (String × DataW H) := [("harrow/crc.half", Go.Proofs.YtacliaemfegopaaGreatDoor.Rows.laid_harrow_crc_half)]
theorem Gx (os:Os) (args:Array Value):laidMetH Tryz.prog zo ((World.doorLaid Tryz.prog 400 os).forCall (fun _ _=>0) ⟨#[],args,[]⟩).memory:=
 laidMetH_of_parts3 (fuel:=8) (laidMet_of_run' 8 (by kernel_rfl) (by kernel_rfl)) (by kernel_rfl) (by kernel_rfl)
theorem wS {W:World} (h:laidMetH Tryz.prog zo W):nZ W:=by
 rw [MakeChecks.laidMetH_plain _ _ _ (by kernel_rfl)] at h;obtain ⟨ps,⟨g0,t0,cs0,f0,p0,q0,hg0,ht0,hv0,hd0,_,_⟩,_,_⟩:=h;obtain rfl:=Option.some.inj (PI.symm.trans hg0);obtain rfl:=Option.some.inj (Px.symm.trans ht0);obtain ⟨xs,m1,rfl,hx1,hlen,hn3,hel⟩:=DataW.trod_array Tryz.underlying301 hd0;intro k hk;have hk1:=hel k hk;simp only [Prod.mk.injEq] at hx1;have hL:DataW.agg (rf.map fun z=>(DataW.lit (.int .u32 z):DataW Unit))=DataW.agg (xs.map fun x=>x.1):=hx1.1;injection hL with hL
 have c84:Tryz.prog.cellsOf 165=1:=by kernel_rfl
 rw [c84,Nat.mul_one] at hk1;obtain ⟨x,hx⟩:∃ x,xs[k]?=some x:=⟨_,List.getElem?_eq_getElem (by omega)⟩
 rw [hx] at hk1;obtain ⟨z,e1,e2,_⟩:=DataW.trod_int Tryz.underlying165 hk1
 have hx2:x.1=DataW.lit (.int .u32 (rf.getD k 0)):=by
  have h1:=congrArg (fun l=>l[k]?) hL;simp only [List.getElem?_map,hx,Option.map_some] at h1;have hk2:k<rf.length:=by show k<16;exact hk
  rw [List.getElem?_eq_getElem hk2,Option.map_some] at h1;injection h1 with h1
  rw [← h1,List.getD,List.getElem?_eq_getElem hk2];rfl
 have hz:z=rf.getD k 0:=by
  rw [e2] at hx2;injection hx2 with h1
  injection h1
 have hcell:=World.var?_cell hg0 hv0 k;rw [hcell]
 have h2:(cs0.toList.drop k)[0]?=some (.int .u32 z):=by
  have h3:=congrArg (fun l=>l[0]?) e1;simp only [List.getElem?_take] at h3;simpa using h3
 rw [List.getElem?_drop] at h2;rw [← hz];simpa using h2
end Go.Su

/- Steps. -/
import Derived.Test.YtacliaemfegopaaGreatDoorOP17
import Derived.ProofKit
import Derived.LaidMore
import Derived.OpenShut
import Derived.Stop.Joined
set_option linter.all false
set_option maxRecDepth 99999
set_option maxHeartbeats 0
open Go.SL
open Go.Proofs.Tryz
open List renaming getElem?_eq_getElem->D0
namespace Go.Proofs.Su
open Go.ChangeShapes Go.WideShapes Go.ChangeAt Go.WideMaps Go.WideElems Go.RowKit Go.SL Go.Proofs.Nn
theorem SN : prog.globalNamed "harrow/crc.half" = some 1 := by kernel_rfl
theorem TL:(prog.globals[1]?).map (·.type)=some 301:=by kernel_rfl
def sJ {H : Type} : List (String × DataW H) := [("harrow/crc.half", Go.Proofs.YtacliaemfegopaaGreatDoor.Rows.laid_harrow_crc_half)]
theorem Am (b:Os) (a:Array Value):laidMetH prog sJ ((World.doorLaid prog 400 b).forCall (fun _ _=>0) ⟨#[],a,[]⟩).memory:=
 laidMetH_of_parts3 (fuel:=8) (laidMet_of_run' 8 (by kernel_rfl) (by kernel_rfl)) (by kernel_rfl) (by kernel_rfl)
theorem qG {W:World} (h:laidMetH prog sJ W):oL W:=by
 rw [MakeChecks.laidMetH_plain _ _ _ (by kernel_rfl)] at h;obtain ⟨H,⟨C,t0,r,B,G,I,f,w,y,p,_,_⟩,_,_⟩:=h;obtain rfl:=Option.some.inj (SN.symm.trans f);obtain rfl:=Option.some.inj (TL.symm.trans w);obtain ⟨o,F,rfl,m,D,E,v⟩:=DataW.trod_array underlying301 p;intro k g;have c:=v k g;simp only [Prod.mk.injEq] at m;have b:DataW.agg (ti.map fun z=>(DataW.lit (.int .u32 z):DataW Unit))=DataW.agg (o.map fun x=>x.1):=m.1;injection b with b
 have q:prog.cellsOf 165=1:=by kernel_rfl
 rw [q,Nat.mul_one] at c;obtain ⟨x,j⟩:∃ x,o[k]?=some x:=⟨_,D0 (by omega)⟩
 rw [j] at c;obtain ⟨z,s,t,_⟩:=DataW.trod_int underlying165 c
 have n:x.1=DataW.lit (.int .u32 (ti.getD k 0)):=by
  have a:=congrArg (fun l=>l[k]?) b;simp only [List.getElem?_map,j,Option.map_some] at a;have i:k<ti.length:=by show k<16;exact g
  rw [D0 i,Option.map_some] at a;injection a with a
  rw [<- a,List.getD,D0 i];rfl
 have A:z=ti.getD k 0:=by
  rw [t] at n;injection n with a
  injection a
 have u:=World.var?_cell f y k;rw [u]
 have d:(r.toList.drop k)[0]?=some (.int .u32 z):=by
  have e:=congrArg (fun l=>l[0]?) s;simp only [List.getElem?_take] at e;simpa using e
 rw [List.getElem?_drop] at d;rw [<- A];simpa using d
end Go.Proofs.Su

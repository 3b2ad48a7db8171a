/- Steps. -/
import Derived.Test.YtiomanbgcfjblaaGreatDoorLP20
import Derived.ProofKit
import Derived.LaidMore
import Derived.OpenShut
import Derived.Stop.Joined
set_option linter.all false
set_option maxRecDepth 99999
set_option maxHeartbeats 0
open Go.SL
open Go.Proofs.Tryz
open List renaming getElem?_eq_getElem->A1
namespace Go.Proofs.Su
open ChangeShapes WideShapes ChangeAt WideMaps WideElems RowKit SL Proofs.Nn
def WY:prog.globalNamed "harrow/crc.half" = some 1:=Kr0
def Xg:(prog.globals[1]?).map (·.type)=some 376:=Kr0
def DH {H:Type} : List (String×DataW H):=[("harrow/crc.half",Go.Proofs.YtiomanbgcfjblaaGreatDoor.Rows.laid_harrow_crc_half)]
def No (b:Os) (a:Array Value):laidMetH prog DH ((World.doorLaid prog 400 b).forCall (fun _ _=>0) ⟨#[],a,[]⟩).memory:=
 laidMetH_of_parts3 (fuel:=8) (laidMet_of_run' 8 Kr0 Kr0) Kr0 Kr0
def zH {W:World} (h:laidMetH prog DH W):iZ W:=by
 rw [MakeChecks.laidMetH_plain _ _ _ Kr0] at h;obtain ⟨H,⟨C,t0,r,B,G,I,f,w,y,p,_,_⟩,_,_⟩:=h;obtain rfl:=Option.some.inj (WY.symm.trans f);obtain rfl:=Option.some.inj (Xg.symm.trans w);obtain ⟨o,F,rfl,m,D,E,v⟩:=DataW.trod_array underlying376 p;intro k g;have c:=v k g;simp only [Prod.mk.injEq] at m;have b:DataW.agg (ud.map fun z=>(DataW.lit (.int .u32 z):DataW Unit))=DataW.agg (o.map fun x=>x.1):=m.1;injection b with b
 have q:prog.cellsOf 170=1:=Kr0
 rw [q,Nat.mul_one] at c;obtain ⟨x,j⟩:∃ x,o[k]?=some x:=⟨_,A1 Om0⟩
 rw [j] at c;obtain ⟨z,s,t,_⟩:=DataW.trod_int underlying170 c
 have n:x.1=DataW.lit (.int .u32 (ud.getD k 0)):=by
  have a:=congrArg (fun l=>l[k]?) b;simp only [List.getElem?_map,j,Option.map_some] at a;have i:k<ud.length:=by show k<16;exact g
  rw [A1 i,Option.map_some] at a;injection a with a
  rw [<- a,List.getD,A1 i];rfl
 have A:z=ud.getD k 0:=by
  rw [t] at n;injection n with a
  injection a
 have u:=World.var?_cell f y k;rw [u]
 have d:(r.toList.drop k)[0]?=some (.int .u32 z):=by
  have e:=congrArg (fun l=>l[0]?) s;simp only [List.getElem?_take] at e;simpa using e
 rw [List.getElem?_drop] at d;rw [<- A];simpa using d
end Go.Proofs.Su

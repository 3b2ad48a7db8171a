/- Steps. -/
import Derived.Test.YtdickhgiahcnaaaGreatDoorNP17
import Derived.ProofKit
import Derived.LaidMore
import Derived.OpenShut
import Derived.Stop.Joined
set_option linter.all false
set_option maxRecDepth 99999
set_option maxHeartbeats 0
open Go.SL
open Go.Proofs.Tryz
open List renaming getElem?_eq_getElem->A3,getElem?_map->A2
namespace Go.Proofs.Su
open ChangeShapes WideShapes ChangeAt WideMaps WideElems RowKit SL Proofs.Nn
def Ve:prog.globalNamed "harrow/crc.half" = some 1:=Kr0
def U6:(prog.globals[1]?).map (·.type)=some 303:=Kr0
def BJ {H:Type} : List (String×DataW H):=[("harrow/crc.half",Go.Proofs.YtdickhgiahcnaaaGreatDoor.Rows.laid_harrow_crc_half)]
def KP (b:Os) (a:Array Value):laidMetH prog BJ ((World.doorLaid prog 400 b).forCall (fun _ _=>0) ⟨#[],a,[]⟩).memory:=
 laidMetH_of_parts3 (fuel:=8) (laidMet_of_run' 8 Kr0 Kr0) Kr0 Kr0
def zh {W:World} (h:laidMetH prog BJ W):pV W:=by
 rw [MakeChecks.laidMetH_plain _ _ _ Kr0] at h;obtain ⟨J,⟨D,t0,r,C,I,K,f,y,A,p,_,_⟩,_,_⟩:=h;obtain rfl:=Option.some.inj (Ve.symm.trans f);obtain rfl:=Option.some.inj (U6.symm.trans y);obtain ⟨o,G,rfl,m,E,F,v⟩:=DataW.trod_array underlying303 p;intro k g;have c:=v k g;simp only [Prod.mk.injEq] at m;have b:DataW.agg (tQ.map fun z=>(DataW.lit (.int .u32 z):DataW Unit))=DataW.agg (o.map fun x=>x.1):=m.1;injection b with b
 have q:prog.cellsOf 165=1:=Kr0
 rw [q,Nat.mul_one] at c;obtain ⟨x,j⟩:∃ x,o[k]?=some x:=⟨_,A3 Om0⟩
 rw [j] at c;obtain ⟨z,s,t,_⟩:=DataW.trod_int underlying165 c
 have n:x.1=DataW.lit (.int .u32 (tQ.getD k 0)):=by
  have a:=congrArg (fun l=>l[k]?) b;simp only [A2,j,Option.map_some] at a;have i:k<tQ.length:=by show k<16;exact g
  rw [A3 i,Option.map_some] at a;injection a with a
  rw [<- a,List.getD,A3 i];rfl
 have B:z=tQ.getD k 0:=by
  rw [t] at n;injection n with a
  injection a
 have u:=World.var?_cell f A k;rw [u]
 have d:(r.toList.drop k)[0]?=some (.int .u32 z):=by
  have e:=congrArg (fun l=>l[0]?) s;simp only [List.getElem?_take] at e;simpa using e
 rw [List.getElem?_drop] at d;rw [<- B];simpa using d
end Go.Proofs.Su
namespace Go.Proofs.Su
open RowKit SL ChangeShapes WideShapes ChangeAt Proofs.Nn Proofs.Ba
def uA (w:World) (a:Option Addr) (c b:Nat) (l:List UInt8):Prop:=
 (a=none/\c=0/\b=0/\l=[])\/∃ x,a=some x/\c<=b/\b<=maxLen/\l.length=c/\At w x (l.map SL.u8)
section
variable {H:Type} {enc:TypeId × Value->H} {w:World}
theorem MD {fuel:Nat} {a:Option Addr} {len cap:Nat} {x:DataW H × List MemPlace} (hf:DataW.trod enc prog w 0 (fun _=>true) true fuel 23 [.slice a len cap]=some x):∃ l,uA w a len cap l:=by
 rcases open_ints underlying23 underlying5 (by kernel_rfl) hf with ⟨hcs,_⟩|⟨x,l,c,zs,hcs,_,hl,hm,hz,_,hcell,hwz⟩
 .simp at hcs
  obtain ⟨rfl,rfl,rfl⟩:=hcs;exact ⟨[],.inl ⟨rfl,rfl,rfl,rfl⟩⟩
 .simp at hcs
  obtain ⟨rfl,rfl,rfl⟩:=hcs;have hz':zs.length=cap:=by simpa using hz
  refine ⟨(zs.take len).map UInt8.ofInt,.inr ⟨_,rfl,hl,hm,by simp;omega,fun j u hu=>?_⟩⟩;rw [A2,A2,List.getElem?_take] at hu
  split at hu
  .rename_i hj
   rw [hcell j (by omega)];rw [A3 (by omega)] at hu;have hw:=hwz _ (List.getElem_mem (show j<zs.length by omega));rw [List.getD,A3 (by omega)];generalize zs[j]=y at hu hw;simp only [Lit.wf,Bool.and_eq_true,decide_eq_true_eq] at hw;rw [<- hu];show some (Value.int .u8 y)=some (SL.u8 (UInt8.ofInt y))
   rw [<- Ai,IntKind.wrap_u8];congr 2;have hw2:0<=y/\y<=255:=hw;omega
  .cases hu
end
end Go.Proofs.Su

/- Steps. -/
import Derived.Test.YtebfaobobccikaaGreatDoorLP17
import Derived.ProofKit
import Derived.LaidMore
import Derived.OpenShut
import Derived.Stop.Joined
set_option linter.all false
set_option maxRecDepth 99999
set_option maxHeartbeats 0
open Go.SL
open Go.Proofs.Tryz
open List renaming getElem?_eq_getElem->D0,getElem?_map->F0
namespace Go.Proofs.Su
open ChangeShapes WideShapes ChangeAt WideMaps WideElems RowKit SL Proofs.Nn
theorem Ui:prog.globalNamed "harrow/crc.half" = some 1:=by kernel_rfl
theorem TE:(prog.globals[1]?).map (·.type)=some 301:=by kernel_rfl
def B0 {H:Type} : List (String×DataW H):=[("harrow/crc.half",Go.Proofs.YtebfaobobccikaaGreatDoor.Rows.laid_harrow_crc_half)]
theorem Jp (b:Os) (a:Array Value):laidMetH prog B0 ((World.doorLaid prog 400 b).forCall (fun _ _=>0) ⟨#[],a,[]⟩).memory:=
 laidMetH_of_parts3 (fuel:=8) (laidMet_of_run' 8 (by kernel_rfl) (by kernel_rfl)) (by kernel_rfl) (by kernel_rfl)
theorem y6 {W:World} (h:laidMetH prog B0 W):pM W:=by
 rw [MakeChecks.laidMetH_plain _ _ _ (by kernel_rfl)] at h;obtain ⟨J,⟨D,t0,r,C,I,K,f,y,A,p,_,_⟩,_,_⟩:=h;obtain rfl:=Option.some.inj (Ui.symm.trans f);obtain rfl:=Option.some.inj (TE.symm.trans y);obtain ⟨o,G,rfl,m,E,F,v⟩:=DataW.trod_array underlying301 p;intro k g;have c:=v k g;simp only [Prod.mk.injEq] at m;have b:DataW.agg (th.map fun z=>(DataW.lit (.int .u32 z):DataW Unit))=DataW.agg (o.map fun x=>x.1):=m.1;injection b with b
 have q:prog.cellsOf 165=1:=by kernel_rfl
 rw [q,Nat.mul_one] at c;obtain ⟨x,j⟩:∃ x,o[k]?=some x:=⟨_,D0 (by omega)⟩
 rw [j] at c;obtain ⟨z,s,t,_⟩:=DataW.trod_int underlying165 c
 have n:x.1=DataW.lit (.int .u32 (th.getD k 0)):=by
  have a:=congrArg (fun l=>l[k]?) b;simp only [F0,j,Option.map_some] at a;have i:k<th.length:=by show k<16;exact g
  rw [D0 i,Option.map_some] at a;injection a with a
  rw [<- a,List.getD,D0 i];rfl
 have B:z=th.getD k 0:=by
  rw [t] at n;injection n with a
  injection a
 have u:=World.var?_cell f A k;rw [u]
 have d:(r.toList.drop k)[0]?=some (.int .u32 z):=by
  have e:=congrArg (fun l=>l[0]?) s;simp only [List.getElem?_take] at e;simpa using e
 rw [List.getElem?_drop] at d;rw [<- B];simpa using d
end Go.Proofs.Su
namespace Go.Proofs.Su
open RowKit SL ChangeShapes WideShapes ChangeAt Proofs.Nn Proofs.Ba
def qQ (w:World) (a:Option Addr) (c b:Nat) (l:List UInt8):Prop:=
 (a=none/\c=0/\b=0/\l=[])\/∃ x,a=some x/\c<=b/\b<=maxLen/\l.length=c/\At w x (l.map SL.u8)
section
variable {H:Type} {enc:TypeId × Value->H} {w:World}
theorem Li {fuel:Nat} {a:Option Addr} {len cap:Nat} {x:DataW H × List MemPlace} (hf:DataW.trod enc prog w 0 (fun _=>true) true fuel 22 [.slice a len cap]=some x):∃ l,qQ w a len cap l:=by
 rcases open_ints underlying22 underlying5 (by kernel_rfl) hf with ⟨hcs,_⟩|⟨x,l,c,zs,hcs,_,hl,hm,hz,_,hcell,hwz⟩
 .simp at hcs
  obtain ⟨rfl,rfl,rfl⟩:=hcs;exact ⟨[],.inl ⟨rfl,rfl,rfl,rfl⟩⟩
 .simp at hcs
  obtain ⟨rfl,rfl,rfl⟩:=hcs;have hz':zs.length=cap:=by simpa using hz
  refine ⟨(zs.take len).map UInt8.ofInt,.inr ⟨_,rfl,hl,hm,by simp;omega,fun j u hu=>?_⟩⟩;rw [F0,F0,List.getElem?_take] at hu
  split at hu
  .rename_i hj
   rw [hcell j (by omega)];rw [D0 (by omega)] at hu;have hw:=hwz _ (List.getElem_mem (show j<zs.length by omega));rw [List.getD,D0 (by omega)];generalize zs[j]=y at hu hw;simp only [Lit.wf,Bool.and_eq_true,decide_eq_true_eq] at hw;rw [<- hu];show some (Value.int .u8 y)=some (SL.u8 (UInt8.ofInt y))
   rw [<- zF,IntKind.wrap_u8];congr 2;have hw2:0<=y/\y<=255:=hw;omega
  .cases hu
end
end Go.Proofs.Su

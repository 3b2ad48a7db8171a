/- Steps. -/
import Derived.Test.YtdickhgiahcnaaaGreatDoorNP20
import Derived.Deep.Slices
set_option linter.all false
set_option maxRecDepth 99999
set_option maxHeartbeats 0
open Go.SL
open Go.Proofs.Tryz
open List renaming take->A3
namespace Go.Proofs.Su
open RowKit SL ChangeShapes WideShapes ChangeAt Proofs.Nn
structure nB where
 kd:Int
 fd:Int
 n:Int
 pl:Int
 a:List UInt8
 b:List UInt8
 off:Int
 da:Option Addr
 dl:Nat
 dc:Nat
 dz:List UInt8
def nB.cells (x:nB):Array Value:=#[.int .i64 x.kd,.int .i64 x.fd,.int .i64 x.n,.int .i64 x.pl,.string (str x.a),.string (str x.b),.int .i64 x.off,.slice x.da x.dl x.dc]
structure qY (w:World) (x:nB):Prop where
 data:uA w x.da x.dl x.dc x.dz
 Xw:-9223372036854775808<=x.off
 Xx:x.off<=9223372036854775807
def zC (w:World) (a:Option Addr) (c d:Nat) (X:Nat->nB):Prop:=
 c=0\/∃ b off,a=some ⟨b,off,none⟩/\c<=d/\d<=maxLen/\∀ i,i<c->(∀ j,j<8->w.cell? ⟨b,off+i*8+j,none⟩=(X i).cells[j]?)/\qY w (X i)
section
variable {H:Type} {enc:TypeId × Value->H} {w:World}
def zx (s:ByteArray):∃ l,s=str l:=⟨s.data.toList,by unfold str;cases s;simp⟩
theorem MX {fuel:Nat} {cs:List Value} {x:DataW H × List MemPlace} (hlen:cs.length=8) (ht:DataW.trod enc prog w 0 (fun _=>true) true fuel 25 cs=some x):∃ s:nB,cs=s.cells.toList/\qY w s:=by
 have hC1:prog.cellsOf 23=1:=by kernel_rfl
 have hC2:prog.cellsOf 3=1:=by kernel_rfl
 have hC3:prog.cellsOf 9=1:=by kernel_rfl
 have hC4:prog.cellsOf 2=1:=by kernel_rfl
 obtain ⟨ys,n',_,hDx,_,hyl,hfl⟩:=DataW.trod_struct underlying25 ht
 match cs,hlen,hfl with
 | [c0,c1,c2,c3,c4,c5,c6,c7],_,hfl=>
  have f0:=hfl 0 _ rfl;have f1:=hfl 1 _ rfl;have f2:=hfl 2 _ rfl;have f3:=hfl 3 _ rfl;have f4:=hfl 4 _ rfl;have f5:=hfl 5 _ rfl;have f6:=hfl 6 _ rfl;have f7:=hfl 7 _ rfl;have hy8:ys.length=8:=hyl;rw [List.getElem?_eq_getElem (by omega)] at f0 f1 f2 f3 f4 f5 f6 f7;replace f0:DataW.trod enc prog w 0 (fun _=>true) true n' 3 (A3 (prog.cellsOf 3) [c0,c1,c2,c3,c4,c5,c6,c7])=some (ys[0]):=f0;replace f1:DataW.trod enc prog w 0 (fun _=>true) true n' 3 (A3 (prog.cellsOf 3) [c1,c2,c3,c4,c5,c6,c7])=some (ys[1]):=f1;replace f2:DataW.trod enc prog w 0 (fun _=>true) true n' 3 (A3 (prog.cellsOf 3) [c2,c3,c4,c5,c6,c7])=some (ys[2]):=f2;replace f3:DataW.trod enc prog w 0 (fun _=>true) true n' 3 (A3 (prog.cellsOf 3) [c3,c4,c5,c6,c7])=some (ys[3]):=f3;replace f4:DataW.trod enc prog w 0 (fun _=>true) true n' 9 (A3 (prog.cellsOf 9) [c4,c5,c6,c7])=some (ys[4]):=f4;replace f5:DataW.trod enc prog w 0 (fun _=>true) true n' 9 (A3 (prog.cellsOf 9) [c5,c6,c7])=some (ys[5]):=f5;replace f6:DataW.trod enc prog w 0 (fun _=>true) true n' 2 (A3 (prog.cellsOf 2) [c6,c7])=some (ys[6]):=f6;replace f7:DataW.trod enc prog w 0 (fun _=>true) true n' 23 (A3 (prog.cellsOf 23) [c7])=some (ys[7]):=f7;rw [hC1] at f7;rw [hC2] at f0 f1 f2 f3;rw [hC3] at f4 f5;rw [hC4] at f6;obtain ⟨v0,e0,_,_⟩:=DataW.trod_int underlying3 f0;obtain ⟨v1,e1,_,_⟩:=DataW.trod_int underlying3 f1;obtain ⟨v2,e2,_,_⟩:=DataW.trod_int underlying3 f2;obtain ⟨v3,e3,_,_⟩:=DataW.trod_int underlying3 f3;obtain ⟨v4,e4,_,_⟩:=DataW.trod_string underlying9 f4;obtain ⟨v5,e5,_,_⟩:=DataW.trod_string underlying9 f5;obtain ⟨v6,e6,_,hw6⟩:=DataW.trod_int underlying2 f6;obtain ⟨l4,rfl⟩:=zx v4;obtain ⟨l5,rfl⟩:=zx v5;simp only [List.take_succ_cons,List.take_zero,List.cons.injEq,and_true] at e0 e1 e2 e3 e4 e5 e6 f7
  obtain ⟨va,vl,vc,e7⟩:∃ a l c,c7 = .slice a l c:=by
   rcases open_ints underlying23 underlying5 (by kernel_rfl) f7 with ⟨hcs,_⟩|⟨x,l,c,zs,hcs,_⟩
   .simp at hcs;exact ⟨_,_,_,hcs⟩
   .simp at hcs;exact ⟨_,_,_,hcs⟩
  subst e0 e1 e2 e3 e4 e5 e6 e7;obtain ⟨lz,hz⟩:=MD f7;have hr:-9223372036854775808<=v6/\v6<=9223372036854775807:=by have:=hw6;simp [Lit.wf] at this;exact ⟨Int.le_trans (by decide) this.1,this.2⟩
  exact ⟨⟨v0,v1,v2,v3,l4,l5,v6,va,vl,vc,lz⟩,rfl,hz,hr.1,hr.2⟩
def Pb {y:Nat} {a:Option Addr} {d q:Nat} {x:DataW H × List MemPlace} (F:DataW.trod enc prog w 0 (fun _=>true) true y 22 [.slice a d q]=some x):∃ X,zC w a d q X:=by
 have A:prog.cellsOf 25=8:=Kr0
 have p:nB:=⟨0,0,0,0,[],[],0,none,0,0,[]⟩
 rcases Go.Deep.open_slice underlying22 F with ⟨e,_⟩|⟨g,l,c,m,n,D,Pl,e,_,I,J,K,Q,r⟩
 .simp at e
  obtain ⟨rfl,rfl,rfl⟩:=e;exact ⟨fun _=>p,.inl rfl⟩
 .simp at e
  obtain ⟨rfl,rfl,rfl⟩:=e;simp only [if_true] at K;rw [A] at r
  by_cases z:d=0
  .exact ⟨fun _=>p,.inl z⟩
  have u:∀ i,i<d->∃ s:nB,(∀ j,j<8->w.cell? ((g.add (i*8)).add j)=s.cells[j]?)/\qY w s:=by
   intro i f;obtain ⟨P,C,N⟩:=r i Om0;obtain ⟨_,E,B⟩:=World.cells?_some C;obtain ⟨s,L,G⟩:=MX E N;refine ⟨s,fun j t=>?_,G⟩;have:=B j Om0;rw [this,L];simp
  have M:∃ b off,g=⟨b,off,none⟩:=by
   obtain ⟨s,k,_⟩:=u 0 Om0;obtain ⟨b,off,O⟩:=g;have o:=k 0 Om0;have:O=none:=by simpa [Addr.add] using World.cell?_spot (o.trans (show _=some (Value.int .i64 s.kd) from rfl))
   exact ⟨b,off,by rw [this]⟩
  obtain ⟨b,off,rfl⟩:=M
  have v:∀ i,∃ s:nB,i<d->(∀ j,j<8->w.cell? ⟨b,off+i*8+j,none⟩=s.cells[j]?)/\qY w s:=by
   intro i
   by_cases f:i<d
   .obtain ⟨s,k,o⟩:=u i f
    refine ⟨s,fun _=>⟨fun j t=>?_,o⟩⟩;have:=k j t
    rwa [Addr.add_lit,Addr.add_lit] at this
   .exact ⟨p,fun h=>absurd h f⟩
  exact ⟨fun i=>Classical.choose (v i),.inr ⟨b,off,rfl,I,J,fun i f=>Classical.choose_spec (v i) f⟩⟩
end
end Go.Proofs.Su

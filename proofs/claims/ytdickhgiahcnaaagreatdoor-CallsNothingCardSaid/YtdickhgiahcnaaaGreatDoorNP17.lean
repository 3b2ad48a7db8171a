/- Steps. -/
import Derived.Test.YtdickhgiahcnaaaGreatDoorNP5
import Derived.Recover
import Derived.Lib.SlBytesConst
set_option linter.all false
set_option maxRecDepth 99999
set_option maxHeartbeats 0
open Go.SL
open Go.Value renaming int->Z
open Go.IntKind renaming i64->X'
open Go.Obj renaming cells->Y'
open Go.Proofs.Tryz renaming prog->Z'
namespace Go.SL
open RowKit
def pV.qz {w a:World} {P:ai} (h:pV w) (s:ag a (P*whole w)):pV a:=fun k b=>s.bV (h k b)
def sJ:List UInt8:=[72,65,82,82,79,87,32,49]
def sx (n P:Nat):List UInt8:=bY 508 (sJ++dD n 4++dD P 4)
def dg (n P:Nat):List UInt8:=sx n P++dD (Jm (sx n P)) 4
def pI (n P:Nat):(sx n P).length=508:=cu _ _
def jh (n P:Nat):(dg n P).length=512:=by unfold dg;rw [List.length_append,pI,bp]
end Go.SL
namespace Go.Proofs.Su
open RowKit SL Proofs.Ba Proofs.Fs
def zU {T:TypeId} {w:World} {g:Nat} {l:List UInt8} {c:Nat} {a:Nat × Nat} (h:w.heap[g]?=some (Y' (ed l) T a)):Rd w (.slice (some ⟨g,0,none⟩) l.length c) l:=by
 refine ⟨Si0,.inr ⟨_,_,rfl,?_⟩⟩;have:=xd (n:=l.length) h
 rwa [show (ed l).toList.take l.length=l.map u8 from by simp [ed,List.take_of_length_le]] at this
def AY (w:World) (n P:Nat) (z:nN n P=true) (hh:pV w):Calls Z' 116 #[OO n P] w (zg (dg n P) w):=by
 have hG:=eI.1 z;have j:=(ag.whole w).alloc (Y' #[Z X' (n:Int),Z X' (P:Int)] 117 (0,0));have u:=(aj.refl w).alloc (Y' #[Z X' (n:Int),Z X' (P:Int)] 117 (0,0));unfold OO
 go_in
 go_wp2_with fail
 generalize w.alloc (Y' #[Z X' (n:Int),Z X' (P:Int)] 117 (0,0))=w1 at j u ⊢;generalize w.heap.size=b at j ⊢;have x:=xl w1 n P;unfold OO at x
 (with_reducible apply x.mono)
 rintro e a ⟨rfl,W,O⟩;rw [if_pos z];have I:=W.cM j;have E:=u.trans O;clear x W O j u;have s:a.cell? ⟨b,0,none⟩=some (Z X' (n:Int)):=I.cell 0;obtain ⟨C,Y⟩:∃ C:Array Value,C=#[Z .u8 72,Z .u8 65,Z .u8 82,Z .u8 82,Z .u8 79,Z .u8 87,Z .u8 32,Z .u8 49]:=⟨_,rfl⟩
 have d:=I.alloc (Y' C 5 (8,9));have i:=E.alloc (Y' C 5 (8,9))
 have b0:(convert 23 23 (.slice (some ⟨a.heap.size,0,none⟩) 8 8)).run Z' (a.alloc (Y' C 5 (0,0))) = .ok (.slice (some ⟨a.heap.size,0,none⟩) 8 8) (a.alloc (Y' C 5 (8,9))):=by
  have:=Go.Lib.run_convert_bytes_const (P:=Z') a 23 5 C 8 8 Tryz.underlying23 Tryz.underlying5;have e:C.size=8:=by rw [Y];rfl
  rw [e] at this;exact this
 have N:(a.alloc (Y' C 5 (8,9))).cell? ⟨b,0,none⟩=some (Z X' (n:Int)):=d.right.cell 0;have o0:IntKind.u64.wrap (n:Int)=(n:Int):=by rw [IntKind.wrap_u64];omega
 have p0:IntKind.u64.wrap (P:Int)=(P:Int):=by rw [IntKind.wrap_u64];omega
 rw [Y] at b0 N d i;clear z s
 go_wp2_with fail
 clear N b0;generalize a.alloc (Y' #[Z .u8 72,Z .u8 65,Z .u8 82,Z .u8 82,Z .u8 79,Z .u8 87,Z .u8 32,Z .u8 49] 5 (8,9))=p at d i ⊢;generalize a.heap.size=mb at d ⊢;have j0:Rd p (.slice (some ⟨mb,0,none⟩) 8 8) sJ:=zU (c:=8) (l:=sJ) d.heap;have f0:Calls Z' 167 #[.slice (some ⟨mb,0,none⟩) 8 8,Z X' 4,Z .u64 (n:Int)] p (zg (sJ++dD n 4) p):=fp p _ sJ 4 (n:Int) j0 De0 De0 Om0 Om0
 (with_reducible apply f0.mono)
 rintro e q ⟨v4,rfl,h4,Q⟩;obtain ⟨m,k⟩:=Mn0 (sJ++dD n 4)
 have d0:m.length=12:=by rw [k,List.length_append,bp];rfl
 rw [<- k] at h4;have r:=h4.under d.right;have F:=i.trans Q;have g0:Calls Z' 167 #[v4,Z X' 4,Z .u64 (P:Int)] q (zg (m++dD P 4) q):=fp q v4 m 4 (P:Int) h4.pA Om0 De0 Om0 Om0;have t:q.cell? ⟨b,1,none⟩=some (Z X' (P:Int)):=r.ah.cell 1;have n0:=ae d0;have k0:=ae k;clear f0 h4 Q d i j0 d0 k E
 go_wp2_with fail
 (with_reducible apply g0.mono)
 rintro e D ⟨v5,rfl,h5,R⟩;obtain ⟨B,A⟩:=Mn0 (m++dD P 4)
 rw [<- A] at h5;have J:=h5.under r.right;have G:=F.trans R;have h0:Calls Z' 168 #[v5,Z X' 508] D (zg (bY 508 B) D):=oY D v5 B h5.pA 508 Om0;have l0:=ae A;clear g0 h5 R r F t A
 go_wp2_with fail
 (with_reducible apply h0.mono)
 rintro e h ⟨o,rfl,v,S⟩;have V:bY 508 B=sx n P:=by rw [l0.o,k0.o];rfl
 rw [V] at v;have g:=v.under J.right;have H:=G.trans S;have c0:pV h:=hh.qz (g.t00 ((bs 5 o (sx n P)*pt b (Y' #[Z X' (n:Int),Z X' (P:Int)] 117 (0,0)))*whole w));obtain ⟨f,l⟩:=Mn0 (sx n P)
 have e0:f.length=508:=by rw [l];exact pI n P
 rw [<- l] at g;have hs:=QH h o f g.pA Om0 c0;have L:=ae l;have M:=ae e0;clear h0 v S J G V c0 l e0
 go_wp2_with fail
 (with_reducible apply hs.mono)
 rintro e w7 ⟨rfl,rfl⟩;obtain ⟨c,y⟩:=Mn0 (Jm f)
 obtain ⟨s,t⟩:=E7 f;rw [<- y] at s t ⊢;have m0:IntKind.u64.wrap c=c:=by rw [IntKind.wrap_u64];omega
 have i0:Calls Z' 167 #[o,Z X' 4,Z .u64 c] h (zg (f++dD c 4) h):=fp h o f 4 c g.pA (by rw [M.o];decide) De0 Om0 Om0;have Hc:=ae y;clear hs y
 go_wp2_with fail
 (with_reducible apply i0.mono)
 rintro e w8 ⟨v8,rfl,X,T⟩;have K:=X.under g.right.right;have D8:=H.trans T;have U:f++dD c 4=dg n P:=by rw [Hc.o,L.o];rfl
 rw [U] at K;clear i0 X T g H U L M m0
 go_wp2_with fail
 go_ret
 exact ⟨_,rfl,K,D8⟩
end Go.Proofs.Su

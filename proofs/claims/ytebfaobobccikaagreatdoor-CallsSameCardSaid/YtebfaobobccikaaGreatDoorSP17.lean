/- Steps. -/
import Derived.Test.YtebfaobobccikaaGreatDoorSP5
import Derived.Recover
import Derived.Lib.SlBytesConst
set_option linter.all false
set_option maxRecDepth 99999
set_option maxHeartbeats 0
open Go.SL
open Go.Value renaming int->Z
open Go.Obj renaming cells->Y'
open Go.Proofs.Tryz renaming prog->Z'
namespace Go.SL
open RowKit
theorem oe.qk {w a:World} {P:ai} (h:oe w) (s:ag a (P*whole w)):oe a:=fun k b=>s.bJ (h k b)
def sZ:List UInt8:=[72,65,82,82,79,87,32,49]
def th (n P:Nat):List UInt8:=bW 508 (sZ++dH n 4++dH P 4)
def dp (n P:Nat):List UInt8:=th n P++dH (Iv (th n P)) 4
theorem qa (n P:Nat):(th n P).length=508:=cC _ _
theorem jx (n P:Nat):(dp n P).length=512:=by unfold dp;rw [List.length_append,qa,bu]
end Go.SL
namespace Go.Proofs.Su
open RowKit SL Proofs.Ba Proofs.Fs
theorem uR {T:TypeId} {w:World} {g:Nat} {l:List UInt8} {c:Nat} {a:Nat × Nat} (h:w.heap[g]?=some (Y' (eA l) T a)):Rd w (.slice (some ⟨g,0,none⟩) l.length c) l:=by
 refine ⟨by simp,.inr ⟨_,_,rfl,?_⟩⟩;have:=wz (n:=l.length) h
 rwa [show (eA l).toList.take l.length=l.map u8 from by simp [eA,List.take_of_length_le]] at this
theorem Dy (w:World) (n P:Nat) (D:nY n P=true) (hh:oe w):Calls Z' 122 #[OV n P] w (Au (dp n P) w):=by
 have hG:=eQ.1 D;have j:=(ag.whole w).alloc (Y' #[Z .i64 (n:Int),Z .i64 (P:Int)] 118 (0,0));have y:=(aj.refl w).alloc (Y' #[Z .i64 (n:Int),Z .i64 (P:Int)] 118 (0,0));unfold OV
 go_enter Tryz.func122,Tryz.ntmps122
 go_wp2_with fail
 generalize w.alloc (Y' #[Z .i64 (n:Int),Z .i64 (P:Int)] 118 (0,0))=w1 at j y ⊢;generalize w.heap.size=b at j ⊢;have A:=uX w1 n P;unfold OV at A
 (with_reducible refine A.mono ?_)
 rintro e a ⟨rfl,h2,S⟩;rw [if_pos D];have L:=h2.ei j;have H:=y.trans S;clear A h2 S j y;have v:a.cell? ⟨b,0,none⟩=some (Z .i64 (n:Int)):=L.cell 0;obtain ⟨C,hC⟩:∃ C:Array Value,C=#[Z .u8 72,Z .u8 65,Z .u8 82,Z .u8 82,Z .u8 79,Z .u8 87,Z .u8 32,Z .u8 49]:=⟨_,rfl⟩
 have d:=L.alloc (Y' C 5 (8,9));have i:=H.alloc (Y' C 5 (8,9))
 have b0:(convert 22 22 (.slice (some ⟨a.heap.size,0,none⟩) 8 8)).run Z' (a.alloc (Y' C 5 (0,0))) = .ok (.slice (some ⟨a.heap.size,0,none⟩) 8 8) (a.alloc (Y' C 5 (8,9))):=by
  have:=Go.Lib.run_convert_bytes_const (P:=Z') a 22 5 C 8 8 Tryz.underlying22 Tryz.underlying5;have e:C.size=8:=by rw [hC];rfl
  rw [e] at this;exact this
 have R:(a.alloc (Y' C 5 (8,9))).cell? ⟨b,0,none⟩=some (Z .i64 (n:Int)):=d.right.cell 0;have p0:IntKind.u64.wrap (n:Int)=(n:Int):=by rw [IntKind.wrap_u64];omega
 have q0:IntKind.u64.wrap (P:Int)=(P:Int):=by rw [IntKind.wrap_u64];omega
 rw [hC] at b0 R d i;clear D v
 go_wp2_with fail
 clear R b0;generalize a.alloc (Y' #[Z .u8 72,Z .u8 65,Z .u8 82,Z .u8 82,Z .u8 79,Z .u8 87,Z .u8 32,Z .u8 49] 5 (8,9))=s at d i ⊢;generalize a.heap.size=mb at d ⊢;have k0:Rd s (.slice (some ⟨mb,0,none⟩) 8 8) sZ:=uR (c:=8) (l:=sZ) d.heap;have f0:Calls Z' 169 #[.slice (some ⟨mb,0,none⟩) 8 8,Z .i64 4,Z .u64 (n:Int)] s (Au (sZ++dH n 4) s):=fD s _ sZ 4 (n:Int) k0 (by decide) (by decide) (by omega) (by omega)
 (with_reducible refine f0.mono ?_)
 rintro e t ⟨v4,rfl,k,T⟩;obtain ⟨q,o⟩:∃ l,l=sZ++dH n 4:=⟨_,rfl⟩
 have d0:q.length=12:=by rw [o,List.length_append,bu];rfl
 rw [<- o] at k;have u:=k.under d.right;have I:=i.trans T;have g0:Calls Z' 169 #[v4,Z .i64 4,Z .u64 (P:Int)] t (Au (q++dH P 4) t):=fD t v4 q 4 (P:Int) k.me (by omega) (by decide) (by omega) (by omega);have x:t.cell? ⟨b,1,none⟩=some (Z .i64 (P:Int)):=u.ah.cell 1;have o0:=ae d0;have l0:=ae o;clear f0 k T d i k0 d0 o H
 go_wp2_with fail
 (with_reducible refine g0.mono ?_)
 rintro e G ⟨v5,rfl,m,U⟩;obtain ⟨F,E⟩:∃ l,l=q++dH P 4:=⟨_,rfl⟩
 rw [<- E] at m;have M:=m.under u.right;have J:=I.trans U;have h0:Calls Z' 170 #[v5,Z .i64 508] G (Au (bW 508 F) G):=pN G v5 F m.me 508 (by omega);have m0:=ae E;clear g0 m U u I x E
 go_wp2_with fail
 (with_reducible refine h0.mono ?_)
 rintro e h ⟨r,rfl,z,V⟩;have Y:bW 508 F=th n P:=by rw [m0.out,l0.out];rfl
 rw [Y] at z;have g:=z.under M.right;have K:=J.trans V;have c0:oe h:=hh.qk (g.to (by ac_rfl:_=(bs 5 r (th n P)*pt b (Y' #[Z .i64 (n:Int),Z .i64 (P:Int)] 118 (0,0)))*whole w));obtain ⟨f,p⟩:∃ l,l=th n P:=⟨_,rfl⟩
 have e0:f.length=508:=by rw [p];exact qa n P
 rw [<- p] at g;have hs:=QX h r f g.me (by omega) c0;have O:=ae p;have Q:=ae e0;clear h0 z V M J Y c0 p e0
 go_wp2_with fail
 (with_reducible refine hs.mono ?_)
 rintro e w7 ⟨rfl,rfl⟩;obtain ⟨c,B⟩:∃ c,c=Iv f:=⟨_,rfl⟩
 obtain ⟨v,x⟩:=DW f;rw [<- B] at v x ⊢;have n0:IntKind.u64.wrap c=c:=by rw [IntKind.wrap_u64];omega
 have i0:Calls Z' 169 #[r,Z .i64 4,Z .u64 c] h (Au (f++dH c 4) h):=fD h r f 4 c g.me (by rw [Q.out];decide) (by decide) (by omega) (by omega);have Hc:=ae B;clear hs B
 go_wp2_with fail
 (with_reducible refine i0.mono ?_)
 rintro e w8 ⟨v8,rfl,h8,W⟩;have N:=h8.under g.right.right;have D8:=K.trans W;have X:f++dH c 4=dp n P:=by rw [Hc.out,O.out];rfl
 rw [X] at N;clear i0 h8 W g K X O Q n0
 go_wp2_with fail
 go_ret
 exact ⟨_,rfl,N,D8⟩
end Go.Proofs.Su

/- Steps. -/
import Derived.Test.YtebfaobobccikaaGreatDoorLP5
import Derived.Recover
import Derived.Lib.SlBytesConst
set_option linter.all false
set_option maxRecDepth 99999
set_option maxHeartbeats 0
open Go.SL
open Go.Value renaming int->Z
open Go.Obj renaming cells->Y'
open Go.Proofs.Tryz renaming prog->Z'
namespace Go.SL
open RowKit
theorem pM.pQ {w a:World} {P:ai} (h:pM w) (s:ag a (P*whole w)):pM a:=fun k b=>s.cF (h k b)
def se:List UInt8:=[72,65,82,82,79,87,32,49]
def rL (n P:Nat):List UInt8:=bW 508 (se++dx n 4++dx P 4)
def cY (n P:Nat):List UInt8:=rL n P++dx (Gl (rL n P)) 4
theorem oW (n P:Nat):(rL n P).length=508:=cm _ _
theorem jc (n P:Nat):(cY n P).length=512:=by unfold cY;rw [List.length_append,oW,bp]
end Go.SL
namespace Go.Proofs.Su
open RowKit SL Proofs.Ba Proofs.Fs
theorem rn {T:TypeId} {w:World} {g:Nat} {l:List UInt8} {c:Nat} {a:Nat × Nat} (h:w.heap[g]?=some (Y' (dP l) T a)):Rd w (.slice (some ⟨g,0,none⟩) l.length c) l:=by
 refine ⟨by simp,.inr ⟨_,_,rfl,?_⟩⟩;have:=uQ (n:=l.length) h
 rwa [show (dP l).toList.take l.length=l.map u8 from by simp [dP,List.take_of_length_le]] at this
theorem BU (w:World) (n P:Nat) (D:nO n P=true) (hh:pM w):Calls Z' 122 #[NA n P] w (zx (cY n P) w):=by
 have hG:=eC.1 D;have j:=(ag.whole w).alloc (Y' #[Z .i64 (n:Int),Z .i64 (P:Int)] 118 (0,0));have y:=(aj.refl w).alloc (Y' #[Z .i64 (n:Int),Z .i64 (P:Int)] 118 (0,0));unfold NA
 go_enter Tryz.func122,Tryz.ntmps122
 go_wp2_with fail
 generalize w.alloc (Y' #[Z .i64 (n:Int),Z .i64 (P:Int)] 118 (0,0))=w1 at j y ⊢;generalize w.heap.size=b at j ⊢;have A:=ue w1 n P;unfold NA at A
 (with_reducible refine A.mono ?_)
 rintro e a ⟨rfl,h2,S⟩;rw [if_pos D];have L:=h2.du j;have H:=y.trans S;clear A h2 S j y;have v:a.cell? ⟨b,0,none⟩=some (Z .i64 (n:Int)):=L.cell 0;obtain ⟨C,hC⟩:∃ C:Array Value,C=#[Z .u8 72,Z .u8 65,Z .u8 82,Z .u8 82,Z .u8 79,Z .u8 87,Z .u8 32,Z .u8 49]:=⟨_,rfl⟩
 have d:=L.alloc (Y' C 5 (8,9));have i:=H.alloc (Y' C 5 (8,9))
 have b0:(convert 22 22 (.slice (some ⟨a.heap.size,0,none⟩) 8 8)).run Z' (a.alloc (Y' C 5 (0,0))) = .ok (.slice (some ⟨a.heap.size,0,none⟩) 8 8) (a.alloc (Y' C 5 (8,9))):=by
  have:=Go.Lib.run_convert_bytes_const (P:=Z') a 22 5 C 8 8 Tryz.underlying22 Tryz.underlying5;have e:C.size=8:=by rw [hC];rfl
  rw [e] at this;exact this
 have R:(a.alloc (Y' C 5 (8,9))).cell? ⟨b,0,none⟩=some (Z .i64 (n:Int)):=d.right.cell 0;have o0:IntKind.u64.wrap (n:Int)=(n:Int):=by rw [IntKind.wrap_u64];omega
 have p0:IntKind.u64.wrap (P:Int)=(P:Int):=by rw [IntKind.wrap_u64];omega
 rw [hC] at b0 R d i;clear D v
 go_wp2_with fail
 clear R b0;generalize a.alloc (Y' #[Z .u8 72,Z .u8 65,Z .u8 82,Z .u8 82,Z .u8 79,Z .u8 87,Z .u8 32,Z .u8 49] 5 (8,9))=s at d i ⊢;generalize a.heap.size=mb at d ⊢;have j0:Rd s (.slice (some ⟨mb,0,none⟩) 8 8) se:=rn (c:=8) (l:=se) d.heap;have f0:Calls Z' 169 #[.slice (some ⟨mb,0,none⟩) 8 8,Z .i64 4,Z .u64 (n:Int)] s (zx (se++dx n 4) s):=eZ s _ se 4 (n:Int) j0 (by decide) (by decide) (by omega) (by omega)
 (with_reducible refine f0.mono ?_)
 rintro e t ⟨v4,rfl,k,T⟩;obtain ⟨q,o⟩:∃ l,l=se++dx n 4:=⟨_,rfl⟩
 have d0:q.length=12:=by rw [o,List.length_append,bp];rfl
 rw [<- o] at k;have u:=k.under d.right;have I:=i.trans T;have g0:Calls Z' 169 #[v4,Z .i64 4,Z .u64 (P:Int)] t (zx (q++dx P 4) t):=eZ t v4 q 4 (P:Int) k.ss (by omega) (by decide) (by omega) (by omega);have x:t.cell? ⟨b,1,none⟩=some (Z .i64 (P:Int)):=u.ah.cell 1;have n0:=ae d0;have k0:=ae o;clear f0 k T d i j0 d0 o H
 go_wp2_with fail
 (with_reducible refine g0.mono ?_)
 rintro e G ⟨v5,rfl,m,U⟩;obtain ⟨F,E⟩:∃ l,l=q++dx P 4:=⟨_,rfl⟩
 rw [<- E] at m;have M:=m.under u.right;have J:=I.trans U;have h0:Calls Z' 170 #[v5,Z .i64 508] G (zx (bW 508 F) G):=om G v5 F m.ss 508 (by omega);have l0:=ae E;clear g0 m U u I x E
 go_wp2_with fail
 (with_reducible refine h0.mono ?_)
 rintro e h ⟨r,rfl,z,V⟩;have Y:bW 508 F=rL n P:=by rw [l0.out,k0.out];rfl
 rw [Y] at z;have g:=z.under M.right;have K:=J.trans V;have c0:pM h:=hh.pQ (g.to (by ac_rfl:_=(bs 5 r (rL n P)*pt b (Y' #[Z .i64 (n:Int),Z .i64 (P:Int)] 118 (0,0)))*whole w));obtain ⟨f,p⟩:∃ l,l=rL n P:=⟨_,rfl⟩
 have e0:f.length=508:=by rw [p];exact oW n P
 rw [<- p] at g;have hs:=NT h r f g.ss (by omega) c0;have O:=ae p;have Q:=ae e0;clear h0 z V M J Y c0 p e0
 go_wp2_with fail
 (with_reducible refine hs.mono ?_)
 rintro e w7 ⟨rfl,rfl⟩;obtain ⟨c,B⟩:∃ c,c=Gl f:=⟨_,rfl⟩
 obtain ⟨v,x⟩:=Dg f;rw [<- B] at v x ⊢;have m0:IntKind.u64.wrap c=c:=by rw [IntKind.wrap_u64];omega
 have i0:Calls Z' 169 #[r,Z .i64 4,Z .u64 c] h (zx (f++dx c 4) h):=eZ h r f 4 c g.ss (by rw [Q.out];decide) (by decide) (by omega) (by omega);have Hc:=ae B;clear hs B
 go_wp2_with fail
 (with_reducible refine i0.mono ?_)
 rintro e w8 ⟨v8,rfl,h8,W⟩;have N:=h8.under g.right.right;have D8:=K.trans W;have X:f++dx c 4=cY n P:=by rw [Hc.out,O.out];rfl
 rw [X] at N;clear i0 h8 W g K X O Q m0
 go_wp2_with fail
 go_ret
 exact ⟨_,rfl,N,D8⟩
end Go.Proofs.Su

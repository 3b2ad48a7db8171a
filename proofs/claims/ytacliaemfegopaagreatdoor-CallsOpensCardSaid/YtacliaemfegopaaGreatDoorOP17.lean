/- Steps. -/
import Derived.Test.YtacliaemfegopaaGreatDoorOP5
import Derived.Recover
import Derived.Lib.SlBytesConst
set_option linter.all false
set_option maxRecDepth 99999
set_option maxHeartbeats 0
open Go.SL
open Go.Value renaming int->Z
open Go.Obj renaming cells->Y'
open Go.Proofs.Tryz renaming prog->Z'
namespace Go.SL
open Go.RowKit
theorem oL.pE {w a:World} {P:ai} (h:oL w) (s:ag a (P*whole w)):oL a:=fun k b=>s.cD (h k b)
def rH:List UInt8:=[72,65,82,82,79,87,32,49]
def sn (n P:Nat):List UInt8:=bT 508 (rH++du n 4++du P 4)
def cY (n P:Nat):List UInt8:=sn n P++du (GA (sn n P)) 4
theorem oN (n P:Nat):(sn n P).length=508:=bZ _ _
theorem iY (n P:Nat):(cY n P).length=512:=by unfold cY;rw [List.length_append,oN,bk]
end Go.SL
namespace Go.Proofs.Su
open Go.RowKit Go.SL Go.Proofs.Ba Go.Proofs.Fs
theorem ze {T:TypeId} {w:World} {g:Nat} {l:List UInt8} {c:Nat} {a:Nat × Nat} (h:w.heap[g]?=some (Y' (ea l) T a)):Rd w (.slice (some ⟨g,0,none⟩) l.length c) l:=by
 refine ⟨by simp,.inr ⟨_,_,rfl,?_⟩⟩;have:=uk (n:=l.length) h
 rwa [show (ea l).toList.take l.length=l.map u8 from by simp [ea,List.take_of_length_le]] at this
theorem B6 (w:World) (n P:Nat) (D:nE n P=true) (hh:oL w):Calls Z' 115 #[Nl n P] w (zx (cY n P) w):=by
 have hG:=eC.1 D;have j:=(ag.whole w).alloc (Y' #[Z .i64 (n:Int),Z .i64 (P:Int)] 119 (0,0));have y:=(aj.refl w).alloc (Y' #[Z .i64 (n:Int),Z .i64 (P:Int)] 119 (0,0));unfold Nl
 go_enter Tryz.func115,Tryz.ntmps115
 go_wp2_with fail
 generalize w.alloc (Y' #[Z .i64 (n:Int),Z .i64 (P:Int)] 119 (0,0))=w1 at j y ⊢;generalize w.heap.size=b at j ⊢;have A:=wb w1 n P;unfold Nl at A
 (with_reducible refine A.mono ?_)
 rintro e a ⟨rfl,h2,S⟩;rw [if_pos D];have L:=h2.dN j;have H:=y.trans S;clear A h2 S j y;have v:a.cell? ⟨b,0,none⟩=some (Z .i64 (n:Int)):=L.cell 0;obtain ⟨C,hC⟩:∃ C:Array Value,C=#[Z .u8 72,Z .u8 65,Z .u8 82,Z .u8 82,Z .u8 79,Z .u8 87,Z .u8 32,Z .u8 49]:=⟨_,rfl⟩
 have d:=L.alloc (Y' C 5 (8,9));have i:=H.alloc (Y' C 5 (8,9))
 have b0:(convert 37 37 (.slice (some ⟨a.heap.size,0,none⟩) 8 8)).run Z' (a.alloc (Y' C 5 (0,0))) = .ok (.slice (some ⟨a.heap.size,0,none⟩) 8 8) (a.alloc (Y' C 5 (8,9))):=by
  have:=Go.Lib.run_convert_bytes_const (P:=Z') a 37 5 C 8 8 Tryz.underlying37 Tryz.underlying5;have e:C.size=8:=by rw [hC];rfl
  rw [e] at this;exact this
 have R:(a.alloc (Y' C 5 (8,9))).cell? ⟨b,0,none⟩=some (Z .i64 (n:Int)):=d.right.cell 0;have p0:IntKind.u64.wrap (n:Int)=(n:Int):=by rw [IntKind.wrap_u64];omega
 have q0:IntKind.u64.wrap (P:Int)=(P:Int):=by rw [IntKind.wrap_u64];omega
 rw [hC] at b0 R d i;clear D v
 go_wp2_with fail
 clear R b0;generalize a.alloc (Y' #[Z .u8 72,Z .u8 65,Z .u8 82,Z .u8 82,Z .u8 79,Z .u8 87,Z .u8 32,Z .u8 49] 5 (8,9))=s at d i ⊢;generalize a.heap.size=mb at d ⊢;have k0:Rd s (.slice (some ⟨mb,0,none⟩) 8 8) rH:=ze (c:=8) (l:=rH) d.heap;have f0:Calls Z' 164 #[.slice (some ⟨mb,0,none⟩) 8 8,Z .i64 4,Z .u64 (n:Int)] s (zx (rH++du n 4) s):=fo s _ rH 4 (n:Int) k0 (by decide) (by decide) (by omega) (by omega)
 (with_reducible refine f0.mono ?_)
 rintro e t ⟨v4,rfl,k,T⟩;obtain ⟨q,o⟩:∃ l,l=rH++du n 4:=⟨_,rfl⟩
 have d0:q.length=12:=by rw [o,List.length_append,bk];rfl
 rw [<- o] at k;have u:=k.under d.right;have I:=i.trans T;have g0:Calls Z' 164 #[v4,Z .i64 4,Z .u64 (P:Int)] t (zx (q++du P 4) t):=fo t v4 q 4 (P:Int) k.rI (by omega) (by decide) (by omega) (by omega);have x:t.cell? ⟨b,1,none⟩=some (Z .i64 (P:Int)):=u.ah.cell 1;have o0:=ae d0;have l0:=ae o;clear f0 k T d i k0 d0 o H
 go_wp2_with fail
 (with_reducible refine g0.mono ?_)
 rintro e G ⟨v5,rfl,m,U⟩;obtain ⟨F,E⟩:∃ l,l=q++du P 4:=⟨_,rfl⟩
 rw [<- E] at m;have M:=m.under u.right;have J:=I.trans U;have h0:Calls Z' 165 #[v5,Z .i64 508] G (zx (bT 508 F) G):=nX G v5 F m.rI 508 (by omega);have m0:=ae E;clear g0 m U u I x E
 go_wp2_with fail
 (with_reducible refine h0.mono ?_)
 rintro e h ⟨r,rfl,z,V⟩;have Y:bT 508 F=sn n P:=by rw [m0.out,l0.out];rfl
 rw [Y] at z;have g:=z.under M.right;have K:=J.trans V;have c0:oL h:=hh.pE (g.to (by ac_rfl:_=(bs 5 r (sn n P)*pt b (Y' #[Z .i64 (n:Int),Z .i64 (P:Int)] 119 (0,0)))*whole w));obtain ⟨f,p⟩:∃ l,l=sn n P:=⟨_,rfl⟩
 have e0:f.length=508:=by rw [p];exact oN n P
 rw [<- p] at g;have hs:=Pc h r f g.rI (by omega) c0;have O:=ae p;have Q:=ae e0;clear h0 z V M J Y c0 p e0
 go_wp2_with fail
 (with_reducible refine hs.mono ?_)
 rintro e w7 ⟨rfl,rfl⟩;obtain ⟨c,B⟩:∃ c,c=GA f:=⟨_,rfl⟩
 obtain ⟨v,x⟩:=EA f;rw [<- B] at v x ⊢;have n0:IntKind.u64.wrap c=c:=by rw [IntKind.wrap_u64];omega
 have i0:Calls Z' 164 #[r,Z .i64 4,Z .u64 c] h (zx (f++du c 4) h):=fo h r f 4 c g.rI (by rw [Q.out];decide) (by decide) (by omega) (by omega);have Hc:=ae B;clear hs B
 go_wp2_with fail
 (with_reducible refine i0.mono ?_)
 rintro e w8 ⟨v8,rfl,h8,W⟩;have N:=h8.under g.right.right;have D8:=K.trans W;have X:f++du c 4=cY n P:=by rw [Hc.out,O.out];rfl
 rw [X] at N;clear i0 h8 W g K X O Q n0
 go_wp2_with fail
 go_ret
 exact ⟨_,rfl,N,D8⟩
end Go.Proofs.Su

/- Steps. -/
import Derived.Test.YtacliaemfegopaaGreatDoorOP3
import Derived.Deep.RegionLaw
set_option linter.all false
set_option maxRecDepth 99999
set_option maxHeartbeats 0
open Go.SL
open Go.Value renaming int->X,slice->Z
open Go.Obj renaming cells->X'
open Go renaming World->Z'
open Go.Proofs.Tryz renaming prog->Y'
open Option renaming some->W,none->Y
open Go.Proofs.Tryz
open List renaming setIfInBounds_toArray->D0
open Go.World renaming block_lt_of_cell?->F0
namespace Go.Proofs.Nn
open Go.RowKit Go.SL
variable {l:List UInt8} {S:Hp} {D:aB} {F:ai} {d:Nat} {w1:Z'}
def Qx (S:Hp) (d:Nat) (D:aB) (v:Value) (F:ai) (w:Z') (e:Ending) (a:Z'):Prop:=
 e = .returned v/\ag a (aT S d D*F)/\aj w a
theorem GO (x:Dx) (S:Hp) (d:Nat) (D:aB) (F:ai) (w:Z') (m:D.Ok) (h:ag w (gm x S d D*F)):PV x S d D F x.kv D.bB:=by
 obtain ⟨a,c,l⟩:=aD h.bF.2.aK;refine ⟨a,c,l,by have:=m.bB;omega,fun i p=>?_⟩;obtain ⟨g,y,b⟩:=qQ h.bF.2.aK (by omega);refine ⟨g,0,(Value.slice.inj (l.symm.trans b)).1,fun A e t q s=>?_⟩;have f:=s.bF.2.aK;rw [q] at f;obtain ⟨_,r⟩:=f.mZ;rcases r with ⟨k,z⟩|⟨u,v,j,n⟩
 .rw [show ({ x with Y:=e }:Dx).kv=x.kv from rfl,b] at k;cases k
 .rw [show ({ x with Y:=e }:Dx).kv=x.kv from rfl,b] at j
  have o:=(Value.slice.inj j).1;cases o
  have:=n i (X .i64 (D.bB.getD i 0)) (by simp [iD,List.getElem?_eq_getElem p])
  rwa [Addr.add_lit] at this
theorem nW (w:Z') (S:Hp) (d:Nat) (D:aB) (F:ai) (h:ag w (aT S d D*F)) (j:D.Ok) :
  Calls Y' 162 #[.pointer (W ⟨d,0,Y⟩)] w (Qx S d D.begun (X .i64 D.cM) F w):=by
 obtain ⟨x,g⟩:=h.xO;have m:w.cell? ⟨d,6,Y⟩=W (.bool D.down):=g.cX 6;have n:w.cell? ⟨d,7,Y⟩=W (.bool D.eP):=g.cX 7;have q:w.cell? ⟨d,8,Y⟩=W (X .i64 D.left):=g.cX 8;have r:w.cell? ⟨d,9,Y⟩=W x.kv:=g.cX 9;have u:=g.oH
 by_cases a:D.down=true
 .have c:D.cM=2:=by simp [aB.cM,aB.df,a]
  have f:D.begun=D:=by simp [aB.begun,aB.df,a]
  rw [c,f];rw [a] at m;clear c f a j
  go_enter func162,ntmps162
  go_wp2
  go_ret
  exact ⟨rfl,h,aj.refl w⟩
 .simp only [Bool.not_eq_true] at a
  rw [a] at m
  by_cases b:D.eP=true
  .rw [b] at n
   by_cases i:D.left=0
   .have c:D.cM=2:=by simp [aB.cM,aB.df,a,b,i,aB.fN]
    have f:D.begun=D.fN D.bB:=by simp [aB.begun,aB.df,a,b,i,aB.fN]
    rw [c,f];rw [i] at q;have o:=F2 w S d D x D.bB x.kv F g j (GO x S d D F w j g);clear c f a b i j g h
    go_enter func162,ntmps162
    go_wp2_with fail
    refine o.mono ?_;rintro e v ⟨rfl,k,t⟩;obtain ⟨A,p⟩:=k.xO;have z:v.cell? ⟨d,6,Y⟩=W (.bool true):=p.cX 6;clear o m n q r u p
    go_wp2
    go_ret
    exact ⟨rfl,k,t⟩
   .have c:D.cM=0:=by simp [aB.cM,aB.df,a,b,i]
    have f:D.begun={ D with left:=cy (D.left-1) }:=by simp [aB.begun,aB.df,a,b,i]
    rw [c,f];have l:=g.bF.1;have k:=g.bF.2.setCell 8 (X .i64 (cy (D.left-1)));have y:(D.left == 0)=false:=by simpa using i
    have s:=ae k;clear c f a b i j g h r k
    go_enter func162,ntmps162
    go_wp2
    go_ret
    refine ⟨rfl,ag.devOf (x:=x) (ag.iZ ⟨l.sec,l.tI,l.wait,l.mG⟩ ?_),(aj.refl w).setCell _ _⟩;exact s.out
  .simp only [Bool.not_eq_true] at b
   have c:D.cM=0:=by simp [aB.cM,aB.df,a,b]
   have f:D.begun=D:=by simp [aB.begun,aB.df,a,b]
   rw [c,f];rw [b] at n;clear c f a b j
   go_enter func162,ntmps162
   go_wp2
   go_ret
   exact ⟨rfl,h,aj.refl w⟩
theorem yP:(prog.info? 230).map (fun i=>(i.zero,i.size,i.bytes))=W (W (.agg #[X .i64 0,Z Y 0 0]),2,32):=by kernel_rfl
theorem IQ (T:TypeId) (g:Nat) (a:l.length=512):bs T (Z (W ⟨g,0,Y⟩) 512 512) l=sl T 1 (Z (W ⟨g,0,Y⟩) 512 512) 512 ((ea (bT 512 l)).toList.take (512*1)):=by
 have e:(ea (bT 512 l)).toList.take (512*1)=l.map u8:=by
  rw [j9 a];exact List.take_of_length_le (by rw [ea,List.toList_toArray,List.length_map,a];exact Nat.le_refl _)
 rw [e,bs,a]
theorem Cg {w1 h:Z'} {d g:Nat} {x:Dx} {a:Int} (Q:ag w1 (gm x S d D*(ak S*F))) (r:l.length=512) (U:D.wait.length<=1000000)
  (w:ag h (pt g (X' (ea (bT 512 l)) 5 (0,0))*whole w1)) :
  ∃ b s c e,(Builtin.append_ #[103,103] 103 #[x.wv,Z (W ⟨h.heap.size,0,Y⟩) 1 1]).run Y' (h.alloc (X' #[X .i64 a,Z (W ⟨g,0,Y⟩) 512 512] 230 (0,0))) = .ok (Z b s c) e /\
   e.cell? ⟨d,1,Y⟩=W x.wv/\(∀ o,e.frozen? ⟨d,o,Y⟩=false)/\aj h e /\
   ∃ i,Ext S i/\ag (e.setCell ⟨d,1,Y⟩ (Z b s c)) (aT i d { D with wait:=D.wait++[(a,l)] }*(ak i*F)):=by
 obtain ⟨V,M,f,O,J⟩:=info_parts yP;have A:=w.under Q;obtain ⟨k,B⟩:=(A.to (aF _ _ _)).bF;have T:x.Z.length=D.wait.length:=by rw [<- k.wait,List.length_map]
 have q:=B.alloc (X' #[X .i64 a,Z (W ⟨g,0,Y⟩) 512 512] 230 (0,0))
 have H:oJ (h.alloc (X' #[X .i64 a,Z (W ⟨g,0,Y⟩) 512 512] 230 (0,0))) 2 (Z (W ⟨h.heap.size,0,Y⟩) 1 1) 1 [X .i64 a,Z (W ⟨g,0,Y⟩) 512 512]:=
  ⟨rfl,.inr ⟨_,_,rfl,fun j b0 P=>by
   rw [Addr.add_lit,Nat.zero_add];exact (q.cell j).trans (by simpa using P)⟩⟩
 obtain ⟨v',e,N,p,t⟩:=ag.append (P:=Y') (ty:=103) underlying103 M f O J rfl (q.right.au) H (by simp [Value.oneCell']) (by unfold maxLen;omega) (by omega);have m:=p.yc;obtain ⟨b,c,rfl⟩:=aD p;refine ⟨_,_,_,e,N,(m.cell 1).trans rfl,m.frozen,((aj.refl h).alloc _).trans t,?_⟩;have C:=m.setCell 1 (Z b (x.Z.length+1) c);have E:=C.bV.bV
 have L:ag (e.setCell ⟨d,1,Y⟩ (Z b (x.Z.length+1) c)) (ak S*(bs 5 (Z (W ⟨g,0,Y⟩) 512 512) l*(pt d (X' ((x.cells D).setIfInBounds 1 (Z b (x.Z.length+1) c)) 107 (0,0))*(pt x.sg (X' (x.Y.map Prod.fst).toArray 37 (0,0))*(sl 230 2 (Z b (x.Z.length+1) c) (x.Z.length+1) (bP x.Z++[X .i64 a,Z (W ⟨g,0,Y⟩) 512 512])*(mp x.tm (gL D.mO)*(sl 3 1 x.kv D.bB.length (iD D.bB)*F))))))):=by
  have G:ag _ (pt g (X' (ea (bT 512 l)) 5 (0,0))*_):=E;have u:=ag.nB (sz:=1) (n:=512) (cap:=512) G (by omega) (by unfold maxLen;omega) (by simp [eO,bZ]);refine u.to ?_;rw [IQ _ g r]
  ac_rfl
 obtain ⟨i,n,I,v⟩:=ag.yI L (by rw [small,r];omega);refine ⟨i,n,?_⟩
 have K:({ x with wv:=Z b (x.Z.length+1) c,Z:=x.Z++[(a,Z (W ⟨g,0,Y⟩) 512 512,l)] }:Dx).Fit 5 i { D with wait:=D.wait++[(a,l)] }:=by
  refine ⟨k.sec,fun y R=>(k.tI y R).mono n,?_,fun z f=>?_⟩
  .show (x.Z++[_]).map _=_
   rw [List.map_append,k.wait];rfl
  .rcases List.mem_append.1 f with f|f
   .exact (k.mG z f).mono n
   .rw [List.mem_singleton.1 f];exact I
 refine ag.devOf (ag.iZ K (v.to ?_));simp only [Dx.cells,bP,List.flatMap_append,List.flatMap_cons,List.flatMap_nil,List.append_nil,List.length_append,List.length_cons,List.length_nil,D0,List.set_cons_zero,List.set_cons_succ]
 ac_rfl
theorem wH:∀ a w,(callFunc 217 a).run Y' w = .ok (.enter 217 a) w:=enters func217 (by kernel_rfl) rfl
def gK (S:Hp) (d:Nat) (D:aB) (v:Value) (F:ai) (w:Z') (e:Ending) (b:Z'):Prop:=
 ∃ a,Ext S a/\e = .returned v/\ag b (aT a d D*(ak a*F))/\aj w b
theorem gK.of {v:Value} {w:Z'} {e:Ending} (h:Qx S d D v (ak S*F) w e w1):gK S d D v F w e w1:=
 ⟨S,Ext.refl S,h.1,h.2.1,h.2.2⟩
theorem oa (w:Z') (S:Hp) (d:Nat) (D:aB) (a:Int) (v:Value) (l:List UInt8) (F:ai) (h:ag w (aT S d D*(ak S*F))) (k:D.Ok) (m:Rd w v l) (s:∀ J K,ag J (aT S d K*(ak S*F))->Rd J v l) (R:l.length<=9223372036854775807) :
  Calls Y' 161 #[.pointer (W ⟨d,0,Y⟩),X .i64 a,v] w (gK S d (D.write a l).2 (X .i64 (D.write a l).1) F w):=by
 obtain ⟨B,C,rfl⟩:=m.shape;have i:=lT w S d D a _ h
 by_cases c:D.has a
 .rw [show decide (D.has a)=true by simpa using c] at i
  by_cases g:l.length=512
  .have H:((l.length:Int) != 512)=false:=by simp [g]
   have j:=nW w S d D _ h k;rcases D.lL with f|f
   .have e:D.write a l=(0,{ D.begun with cw:=cy (D.begun.cw+1),wait:=D.begun.wait++[(a,l)] }):=by simp [aB.write,c,g,f]
    rw [e];rw [f] at j;have x:=k.up f;have M:=ae g;clear e f g m c k;generalize D.begun=b at j x ⊢
    go_enter func161,ntmps161
    go_wp2_with (go_at_call 216;refine i.mono ?_;rintro e y ⟨rfl,rfl⟩)
    refine j.mono ?_;rintro e o ⟨rfl,r,q⟩;obtain ⟨A,n⟩:=r.xO;have t:=n.bF.1;have k4:o.cell? ⟨d,4,Y⟩=W (X .i64 b.cw):=n.cX 4;have kf:=n.oH
    have u:ag (o.setCell ⟨d,4,Y⟩ (X .i64 (cy (b.cw+1)))) (gm A S d { b with cw:=cy (b.cw+1) }*(ak S*F)):=
     ag.iZ ⟨t.sec,t.tI,t.wait,t.mG⟩ (n.bF.2.setCell 4 (X .i64 (cy (b.cw+1))))
    have E:=q.setCell ⟨d,4,Y⟩ (X .i64 (cy (b.cw+1)));have T:b.wait.length<=1000000:=x.many;have I:Rd (o.setCell ⟨d,4,Y⟩ (X .i64 (cy (b.cw+1)))) (Z B l.length C) l:=s _ _ u.devOf;clear j i h n x r
    go_wp2_with fail
    generalize o.setCell ⟨d,4,Y⟩ (X .i64 (wrap64 (b.cw+1)))=p at u E I ⊢;have k1:p.cell? ⟨d,1,Y⟩=W A.wv:=u.cX 1;have U:Rd p.drew (Z B l.length C) l:=I;clear k4 kf q H
    go_region_law (first
     | (refine pd (kD p.drew _ l U R) wH rfl _ _ rfl (by rfl) ?_;rintro e z ⟨b0,rfl,G,O⟩;refine ⟨_,rfl,?_⟩;have q4:z.cell? ⟨d,1,Y⟩=W A.wv:=G.cD (W:=p.drew) k1;have ql:d<z.heap.size:=F0 z _ q4;obtain ⟨va,vn,vc,w5,V,q1,qf,P,N,L,Q⟩:=Cg (w1:=p.drew) (a:=a) (SL.ag.drew u) M.out T G)
     | (refine mz V rfl _ _ rfl rfl (by rfl) (by rfl) ?_))
    all_goals
     go_wp2
     go_ret
     exact ⟨N,L,rfl,Q,((E.drew.trans O).trans P).setCell _ _⟩
   .have e:D.write a l=(2,D.begun):=by simp [aB.write,c,g,f]
    rw [e];rw [f] at j;clear e f g m c k s
    go_enter func161,ntmps161
    go_wp2_with (first
     | (go_at_call 216;refine i.mono ?_;rintro e y ⟨rfl,rfl⟩)
     | (go_at_call 162;refine j.mono ?_;rintro e o ⟨rfl,r,q⟩))
    go_ret
    exact ⟨S,Ext.refl S,rfl,r,q⟩
  .have H:((l.length:Int) != 512)=true:=by simp;omega
   have e:D.write a l=(1,D):=by simp [aB.write,g]
   rw [e];clear e g m c k s
   go_enter func161,ntmps161
   go_wp2_with (go_at_call 216;refine i.mono ?_;rintro e y ⟨rfl,rfl⟩)
   go_ret
   exact ⟨S,Ext.refl S,rfl,h,aj.refl w⟩
 .rw [show decide (D.has a)=false by simpa using c] at i
  have e:D.write a l=(1,D):=by simp [aB.write,c]
  rw [e];clear e m c k s
  go_enter func161,ntmps161
  go_wp2_with (go_at_call 216;refine i.mono ?_;rintro e y ⟨rfl,rfl⟩)
  go_ret
  exact ⟨S,Ext.refl S,rfl,h,aj.refl w⟩
def Kc (x:Dx) (S:Hp) (d:Nat) (D:aB) (F:ai) (w:Z') (n:Nat) (u:Value) (wr:Z'):Prop:=
 ∃ (k:Nat) (a:List (Value × List UInt8)),k<=n/\u = X .i64 k/\ag wr (gm { x with Y:=a } S d (D.bQ (D.wait.take k))*F)/\aj w wr
theorem yT (D:aB) (l:List (Int × List UInt8)):(D.bQ l).bB=D.bB/\(D.bQ l).wait=D.wait/\(D.bQ l).sec.length=D.sec.length/\(D.bQ l).left=D.left:=by
 unfold aB.bQ
 induction l generalizing D with
 | nil=>exact ⟨rfl,rfl,rfl,rfl⟩
 | cons p l e=>
  obtain ⟨a,b,c,d⟩:=e (D.done p);exact ⟨a,b,c.trans (by simp [aB.done]),d⟩
theorem oC (w:Z') (S:Hp) (d:Nat) (D:aB) (F:ai) (h:ag w (aT S d D*F)) (z:D.Ok) :
  Calls Y' 114 #[.pointer (W ⟨d,0,Y⟩)] w (Qx S d D.flush.2 (X .i64 D.flush.1) F w):=by
 have n:=nW w S d D _ h z;rcases D.lL with i|i
 .have e:D.flush=(0,D.begun.aG):=by simp [aB.flush,i]
  rw [e];rw [i] at n;have l:=z.up i;clear e i z;generalize D.begun=b at n l ⊢
  go_enter func114,ntmps114
  go_wp2_with fail
  refine n.mono ?_;rintro e r ⟨rfl,q,o⟩;obtain ⟨c,v⟩:=q.xO;have j:=v.bF.1;have k5:r.cell? ⟨d,5,Y⟩=W (X .i64 b.cf):=v.cX 5;have kf:=v.oH
  have m:ag (r.setCell ⟨d,5,Y⟩ (X .i64 (cy (b.cf+1)))) (gm c S d { b with cf:=cy (b.cf+1) }*F):=
   ag.iZ ⟨j.sec,j.tI,j.wait,j.mG⟩ (v.bF.2.setCell 5 (X .i64 (cy (b.cf+1))))
  have C:=o.setCell ⟨d,5,Y⟩ (X .i64 (cy (b.cf+1)));have c0:({ b with cf:=cy (b.cf+1) }:aB).Ok:=⟨l.n,l.wait,l.many,l.bB⟩
  obtain ⟨L,wc,J⟩:=m.RJ;have x:(r.setCell ⟨d,5,Y⟩ (X .i64 (cy (b.cf+1)))).cell? ⟨d,1,Y⟩=W (Z L b.wait.length wc):=(m.cX 1).trans (by simp only [Dx.cells,J];rfl);have hn:(b.wait.length:Int)<=1000000:=by have:=l.many;omega
  have N:=ae J;clear n v l q h J
  go_wp2_with fail
  generalize r.setCell ⟨d,5,Y⟩ (X .i64 (wrap64 (b.cf+1)))=w3 at m C x ⊢;change ag w3 (gm c S d { b with cf:=cy (b.cf+1) }*F) at m;obtain ⟨a,A⟩:∃ a,a=({ b with cf:=cy (b.cf+1) }:aB):=⟨_,rfl⟩
  have I:b.wait=a.wait:=by rw [A]
  have hq:b.aG={ a.bQ a.wait with wait:=[] }:=by rw [A];rfl
  have Hq:=ae hq;rw [<- A] at m c0;rw [I] at x hn ⊢;have O:Hid (c.wv = Z L a.wait.length wc):=by rw [<- I];exact N.out
  clear A I k5 kf o hq N
  go_loopw [27] (fun u wr=>Kc c S d a F w a.wait.length u wr) (fun u _=>a.wait.length-(intOf u).toNat)
  case atStart=>exact ⟨0,c.Y,Nat.zero_le _,rfl,m,C⟩
  case round=>
   obtain ⟨k,P,m0,rfl,f,d0⟩:=hrel;clear x m C;obtain ⟨Q,y,H,R⟩:=yT a (a.wait.take k)
   by_cases n0:k<a.wait.length
   .have o0:(k:Int)<(a.wait.length:Int):=by omega
    have p0:c.Z.length=a.wait.length:=f.qZ.trans (by rw [y]);have K:k<c.Z.length:=by omega
    obtain ⟨g,i0⟩:∃ g,L=W ⟨g,0,Y⟩:=by
     have g0:0<c.Z.length:=by omega
     have:=qQ f.bF.2.au g0;obtain ⟨g,k0,hh⟩:=this;rw [O.out] at hh;exact ⟨_,(Value.slice.inj hh).1⟩
    subst i0
    have f0:wr.cell? ⟨g,k*2,Y⟩=W (X .i64 c.Z[k].1)/\wr.cell? ⟨g,k*2+1,Y⟩=W c.Z[k].2.1:=by
     have:=f.bF.2.au;simp only [O.out] at this;exact this.j3 K
    obtain ⟨T,U⟩:=f0
    have t:a.wait[k]?=W (c.Z[k].1,c.Z[k].2.2):=by
     rw [<- y,<- f.bF.1.wait];simp [K]
    have B:qP 5 S c.Z[k].2.1 c.Z[k].2.2:=f.bF.1.mG _ (List.getElem_mem K);obtain ⟨E,G,V⟩:=iQ B;rw [V] at U B
    have b0:(a.bQ (a.wait.take k)).has c.Z[k].1:=by
     have:=c0.wait _ (List.mem_of_getElem? t);unfold aB.has at this ⊢;rw [H];exact this
    generalize c.Z[k].1=s at T t b0;generalize c.Z[k].2.2=p at U t B;have e0:=ae t;clear t V Q y H R;have l0:g<wr.heap.size:=F0 wr _ T;have hA:=f.alloc (X' #[X .i64 s,Z E p.length G] 230 (0,0));have h0:=d0.alloc (X' #[X .i64 s,Z E p.length G] 230 (0,0))
    go_wp2_with (go_at_call 163;refine (zV _ S d _ _ (s,p) _ _ hA.right B b0).mono ?_;rintro e r ⟨rfl,q,o⟩)
    go_roundw
    case rel=>
     refine ⟨k+1,P.set s.toNat (Z E p.length G,p),by omega,by go_num,?_,h0.trans o⟩
     have e:a.bQ (a.wait.take (k+1))=(a.bQ (a.wait.take k)).done (s,p):=by
      rw [List.take_add_one,e0.out];simp [aB.bQ]
     rw [e];exact q
    case measure=>simp [intOf];omega
   .obtain rfl:k=a.wait.length:=by omega
    have x:=f.cX 1;have kf:=f.oH;simp only [Dx.cells] at x;have j:=f.bF.1;have M:=f.bF.2.setCell 1 (Z Y 0 0);rw [List.take_length] at M j;clear Q y H R
    go_wp2
    go_ret
    refine ⟨rfl,?_,d0.setCell _ _⟩;rw [Hq.out];have H3:=(M.ly).eV 230 2;refine ag.devOf (x:={ c with Y:=P,wv:=Z Y 0 0,Z:=[] }) (ag.iZ ⟨j.sec,j.tI,rfl,by simp⟩ ?_)
    exact H3.to (by
     simp only [Dx.cells,List.length_nil,bP,List.flatMap_nil,D0,List.set_cons_zero,List.set_cons_succ]
     ac_rfl)
 .have e:D.flush=(2,D.begun):=by simp [aB.flush,i]
  rw [e];rw [i] at n;clear e i z
  go_enter func114,ntmps114
  go_wp2_with (go_at_call 162;refine n.mono ?_;rintro e r ⟨rfl,q,o⟩)
  go_ret
  exact ⟨rfl,q,o⟩
end Go.Proofs.Nn

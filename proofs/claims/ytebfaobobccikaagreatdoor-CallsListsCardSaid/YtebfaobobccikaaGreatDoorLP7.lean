/- Steps. -/
import Derived.Test.YtebfaobobccikaaGreatDoorLP3
import Derived.Deep.RegionLaw
set_option linter.all false
set_option maxRecDepth 99999
set_option maxHeartbeats 0
open Go.SL
open Go.Value renaming int->X,slice->Z
open Go.Obj renaming cells->X'
open Go renaming World->Z'
open Go.Proofs.Tryz renaming prog->Y'
open Option renaming some->W,none->Y
open Go.Proofs.Tryz
open List renaming setIfInBounds_toArray->D0
open Go.World renaming block_lt_of_cell?->F0
namespace Go.Proofs.Nn
open RowKit SL
variable {l:List UInt8} {S:Hp} {D:aC} {F:ai} {d:Nat} {w1:Z'}
def Q4 (S:Hp) (d:Nat) (D:aC) (v:Value) (F:ai) (w:Z') (e:Ending) (a:Z'):Prop:=
 e = .returned v/\ag a (aS S d D*F)/\aj w a
theorem G9 (x:Dx) (S:Hp) (d:Nat) (D:aC) (F:ai) (w:Z') (m:D.Ok) (h:ag w (gu x S d D*F)):Qb x S d D F x.kv D.bB:=by
 obtain ⟨a,c,l⟩:=aE h.bF.2.aM;refine ⟨a,c,l,by have:=m.bB;omega,fun i p=>?_⟩;obtain ⟨g,y,b⟩:=pY h.bF.2.aM (by omega);refine ⟨g,0,(Value.slice.inj (l.symm.trans b)).1,fun A e t q s=>?_⟩;have f:=s.bF.2.aM;rw [q] at f;obtain ⟨_,r⟩:=f.oD;rcases r with ⟨k,z⟩|⟨u,v,j,n⟩
 .rw [show ({ x with Y:=e }:Dx).kv=x.kv from rfl,b] at k;cases k
 .rw [show ({ x with Y:=e }:Dx).kv=x.kv from rfl,b] at j
  have o:=(Value.slice.inj j).1;cases o
  have:=n i (X .i64 (D.bB.getD i 0)) (by simp [iJ,List.getElem?_eq_getElem p])
  rwa [Addr.add_lit] at this
theorem ow (w:Z') (S:Hp) (d:Nat) (D:aC) (F:ai) (h:ag w (aS S d D*F)) (j:D.Ok) :
  Calls Y' 167 #[.pointer (W ⟨d,0,Y⟩)] w (Q4 S d D.begun (X .i64 D.cP) F w):=by
 obtain ⟨x,g⟩:=h.xS;have m:w.cell? ⟨d,6,Y⟩=W (.bool D.down):=g.cX 6;have n:w.cell? ⟨d,7,Y⟩=W (.bool D.eV):=g.cX 7;have q:w.cell? ⟨d,8,Y⟩=W (X .i64 D.left):=g.cX 8;have r:w.cell? ⟨d,9,Y⟩=W x.kv:=g.cX 9;have u:=g.oe
 by_cases a:D.down=true
 .have c:D.cP=2:=by simp [aC.cP,aC.de,a]
  have f:D.begun=D:=by simp [aC.begun,aC.de,a]
  rw [c,f];rw [a] at m;clear c f a j
  go_enter func167,ntmps167
  go_wp2
  go_ret
  exact ⟨rfl,h,aj.refl w⟩
 .simp only [Bool.not_eq_true] at a
  rw [a] at m
  by_cases b:D.eV=true
  .rw [b] at n
   by_cases i:D.left=0
   .have c:D.cP=2:=by simp [aC.cP,aC.de,a,b,i,aC.fP]
    have f:D.begun=D.fP D.bB:=by simp [aC.begun,aC.de,a,b,i,aC.fP]
    rw [c,f];rw [i] at q;have o:=F4 w S d D x D.bB x.kv F g j (G9 x S d D F w j g);clear c f a b i j g h
    go_enter func167,ntmps167
    go_wp2_with fail
    refine o.mono ?_;rintro e v ⟨rfl,k,t⟩;obtain ⟨A,p⟩:=k.xS;have z:v.cell? ⟨d,6,Y⟩=W (.bool true):=p.cX 6;clear o m n q r u p
    go_wp2
    go_ret
    exact ⟨rfl,k,t⟩
   .have c:D.cP=0:=by simp [aC.cP,aC.de,a,b,i]
    have f:D.begun={ D with left:=cD (D.left-1) }:=by simp [aC.begun,aC.de,a,b,i]
    rw [c,f];have l:=g.bF.1;have k:=g.bF.2.setCell 8 (X .i64 (cD (D.left-1)));have y:(D.left == 0)=false:=by simpa using i
    have s:=ae k;clear c f a b i j g h r k
    go_enter func167,ntmps167
    go_wp2
    go_ret
    refine ⟨rfl,ag.devOf (x:=x) (ag.je ⟨l.sec,l.tE,l.wait,l.mF⟩ ?_),(aj.refl w).setCell _ _⟩;exact s.out
  .simp only [Bool.not_eq_true] at b
   have c:D.cP=0:=by simp [aC.cP,aC.de,a,b]
   have f:D.begun=D:=by simp [aC.begun,aC.de,a,b]
   rw [c,f];rw [b] at n;clear c f a b j
   go_enter func167,ntmps167
   go_wp2
   go_ret
   exact ⟨rfl,h,aj.refl w⟩
theorem yH:(prog.info? 229).map (fun i=>(i.zero,i.size,i.bytes))=W (W (.agg #[X .i64 0,Z Y 0 0]),2,32):=by kernel_rfl
theorem IG (T:TypeId) (g:Nat) (a:l.length=512):bs T (Z (W ⟨g,0,Y⟩) 512 512) l=sl T 1 (Z (W ⟨g,0,Y⟩) 512 512) 512 ((dP (bW 512 l)).toList.take (512*1)):=by
 have e:(dP (bW 512 l)).toList.take (512*1)=l.map u8:=by
  rw [jZ a];exact List.take_of_length_le (by rw [dP,List.toList_toArray,List.length_map,a];exact Nat.le_refl _)
 rw [e,bs,a]
theorem Bh {w1 h:Z'} {d g:Nat} {x:Dx} {a:Int} (Q:ag w1 (gu x S d D*(aq S*F))) (r:l.length=512) (U:D.wait.length<=1000000)
  (w:ag h (pt g (X' (dP (bW 512 l)) 5 (0,0))*whole w1)) :
  ∃ b s c e,(Builtin.append_ #[101,101] 101 #[x.wv,Z (W ⟨h.heap.size,0,Y⟩) 1 1]).run Y' (h.alloc (X' #[X .i64 a,Z (W ⟨g,0,Y⟩) 512 512] 229 (0,0))) = .ok (Z b s c) e /\
   e.cell? ⟨d,1,Y⟩=W x.wv/\(∀ o,e.frozen? ⟨d,o,Y⟩=false)/\aj h e /\
   ∃ i,Ext S i/\ag (e.setCell ⟨d,1,Y⟩ (Z b s c)) (aS i d { D with wait:=D.wait++[(a,l)] }*(aq i*F)):=by
 obtain ⟨V,M,f,O,J⟩:=info_parts yH;have A:=w.under Q;obtain ⟨k,B⟩:=(A.to (aG _ _ _)).bF;have T:x.Z.length=D.wait.length:=by rw [<- k.wait,List.length_map]
 have q:=B.alloc (X' #[X .i64 a,Z (W ⟨g,0,Y⟩) 512 512] 229 (0,0))
 have H:oG (h.alloc (X' #[X .i64 a,Z (W ⟨g,0,Y⟩) 512 512] 229 (0,0))) 2 (Z (W ⟨h.heap.size,0,Y⟩) 1 1) 1 [X .i64 a,Z (W ⟨g,0,Y⟩) 512 512]:=
  ⟨rfl,.inr ⟨_,_,rfl,fun j b0 P=>by
   rw [Addr.add_lit,Nat.zero_add];exact (q.cell j).trans (by simpa using P)⟩⟩
 obtain ⟨v',e,N,p,t⟩:=ag.append (P:=Y') (ty:=101) underlying101 M f O J rfl (q.right.aw) H (by simp [Value.oneCell']) (by unfold maxLen;omega) (by omega);have m:=p.yn;obtain ⟨b,c,rfl⟩:=aE p;refine ⟨_,_,_,e,N,(m.cell 1).trans rfl,m.frozen,((aj.refl h).alloc _).trans t,?_⟩;have C:=m.setCell 1 (Z b (x.Z.length+1) c);have E:=C.bZ.bZ
 have L:ag (e.setCell ⟨d,1,Y⟩ (Z b (x.Z.length+1) c)) (aq S*(bs 5 (Z (W ⟨g,0,Y⟩) 512 512) l*(pt d (X' ((x.cells D).setIfInBounds 1 (Z b (x.Z.length+1) c)) 106 (0,0))*(pt x.sg (X' (x.Y.map Prod.fst).toArray 22 (0,0))*(sl 229 2 (Z b (x.Z.length+1) c) (x.Z.length+1) (bR x.Z++[X .i64 a,Z (W ⟨g,0,Y⟩) 512 512])*(mp x.tm (gV D.mQ)*(sl 3 1 x.kv D.bB.length (iJ D.bB)*F))))))):=by
  have G:ag _ (pt g (X' (dP (bW 512 l)) 5 (0,0))*_):=E;have u:=ag.nj (sz:=1) (n:=512) (cap:=512) G (by omega) (by unfold maxLen;omega) (by simp [eO,cm]);refine u.to ?_;rw [IG _ g r]
  ac_rfl
 obtain ⟨i,n,I,v⟩:=ag.yS L (by rw [small,r];omega);refine ⟨i,n,?_⟩
 have K:({ x with wv:=Z b (x.Z.length+1) c,Z:=x.Z++[(a,Z (W ⟨g,0,Y⟩) 512 512,l)] }:Dx).Fit 5 i { D with wait:=D.wait++[(a,l)] }:=by
  refine ⟨k.sec,fun y R=>(k.tE y R).mono n,?_,fun z f=>?_⟩
  .show (x.Z++[_]).map _=_
   rw [List.map_append,k.wait];rfl
  .rcases List.mem_append.1 f with f|f
   .exact (k.mF z f).mono n
   .rw [List.mem_singleton.1 f];exact I
 refine ag.devOf (ag.je K (v.to ?_));simp only [Dx.cells,bR,List.flatMap_append,List.flatMap_cons,List.flatMap_nil,List.append_nil,List.length_append,List.length_cons,List.length_nil,D0,List.set_cons_zero,List.set_cons_succ]
 ac_rfl
theorem wK:∀ a w,(callFunc 219 a).run Y' w = .ok (.enter 219 a) w:=enters func219 (by kernel_rfl) rfl
def gS (S:Hp) (d:Nat) (D:aC) (v:Value) (F:ai) (w:Z') (e:Ending) (b:Z'):Prop:=
 ∃ a,Ext S a/\e = .returned v/\ag b (aS a d D*(aq a*F))/\aj w b
theorem gS.of {v:Value} {w:Z'} {e:Ending} (h:Q4 S d D v (aq S*F) w e w1):gS S d D v F w e w1:=
 ⟨S,Ext.refl S,h.1,h.2.1,h.2.2⟩
theorem oE (w:Z') (S:Hp) (d:Nat) (D:aC) (a:Int) (v:Value) (l:List UInt8) (F:ai) (h:ag w (aS S d D*(aq S*F))) (k:D.Ok) (m:Rd w v l) (s:∀ J K,ag J (aS S d K*(aq S*F))->Rd J v l) (R:l.length<=9223372036854775807) :
  Calls Y' 166 #[.pointer (W ⟨d,0,Y⟩),X .i64 a,v] w (gS S d (D.write a l).2 (X .i64 (D.write a l).1) F w):=by
 obtain ⟨B,C,rfl⟩:=m.shape;have i:=oj w S d D a _ h
 by_cases c:D.has a
 .rw [show decide (D.has a)=true by simpa using c] at i
  by_cases g:l.length=512
  .have H:((l.length:Int) != 512)=false:=by simp [g]
   have j:=ow w S d D _ h k;rcases D.lN with f|f
   .have e:D.write a l=(0,{ D.begun with cw:=cD (D.begun.cw+1),wait:=D.begun.wait++[(a,l)] }):=by simp [aC.write,c,g,f]
    rw [e];rw [f] at j;have x:=k.up f;have M:=ae g;clear e f g m c k;generalize D.begun=b at j x ⊢
    go_enter func166,ntmps166
    go_wp2_with (go_at_call 218;refine i.mono ?_;rintro e y ⟨rfl,rfl⟩)
    refine j.mono ?_;rintro e o ⟨rfl,r,q⟩;obtain ⟨A,n⟩:=r.xS;have t:=n.bF.1;have k4:o.cell? ⟨d,4,Y⟩=W (X .i64 b.cw):=n.cX 4;have kf:=n.oe
    have u:ag (o.setCell ⟨d,4,Y⟩ (X .i64 (cD (b.cw+1)))) (gu A S d { b with cw:=cD (b.cw+1) }*(aq S*F)):=
     ag.je ⟨t.sec,t.tE,t.wait,t.mF⟩ (n.bF.2.setCell 4 (X .i64 (cD (b.cw+1))))
    have E:=q.setCell ⟨d,4,Y⟩ (X .i64 (cD (b.cw+1)));have T:b.wait.length<=1000000:=x.many;have I:Rd (o.setCell ⟨d,4,Y⟩ (X .i64 (cD (b.cw+1)))) (Z B l.length C) l:=s _ _ u.devOf;clear j i h n x r
    go_wp2_with fail
    generalize o.setCell ⟨d,4,Y⟩ (X .i64 (wrap64 (b.cw+1)))=p at u E I ⊢;have k1:p.cell? ⟨d,1,Y⟩=W A.wv:=u.cX 1;have U:Rd p.drew (Z B l.length C) l:=I;clear k4 kf q H
    go_region_law (first
     | (refine oN (kI p.drew _ l U R) wK rfl _ _ rfl (by rfl) ?_;rintro e z ⟨b0,rfl,G,O⟩;refine ⟨_,rfl,?_⟩;have q4:z.cell? ⟨d,1,Y⟩=W A.wv:=G.cF (W:=p.drew) k1;have ql:d<z.heap.size:=F0 z _ q4;obtain ⟨va,vn,vc,w5,V,q1,qf,P,N,L,Q⟩:=Bh (w1:=p.drew) (a:=a) (SL.ag.drew u) M.out T G)
     | (refine mK V rfl _ _ rfl rfl (by rfl) (by rfl) ?_))
    all_goals
     go_wp2
     go_ret
     exact ⟨N,L,rfl,Q,((E.drew.trans O).trans P).setCell _ _⟩
   .have e:D.write a l=(2,D.begun):=by simp [aC.write,c,g,f]
    rw [e];rw [f] at j;clear e f g m c k s
    go_enter func166,ntmps166
    go_wp2_with (first
     | (go_at_call 218;refine i.mono ?_;rintro e y ⟨rfl,rfl⟩)
     | (go_at_call 167;refine j.mono ?_;rintro e o ⟨rfl,r,q⟩))
    go_ret
    exact ⟨S,Ext.refl S,rfl,r,q⟩
  .have H:((l.length:Int) != 512)=true:=by simp;omega
   have e:D.write a l=(1,D):=by simp [aC.write,g]
   rw [e];clear e g m c k s
   go_enter func166,ntmps166
   go_wp2_with (go_at_call 218;refine i.mono ?_;rintro e y ⟨rfl,rfl⟩)
   go_ret
   exact ⟨S,Ext.refl S,rfl,h,aj.refl w⟩
 .rw [show decide (D.has a)=false by simpa using c] at i
  have e:D.write a l=(1,D):=by simp [aC.write,c]
  rw [e];clear e m c k s
  go_enter func166,ntmps166
  go_wp2_with (go_at_call 218;refine i.mono ?_;rintro e y ⟨rfl,rfl⟩)
  go_ret
  exact ⟨S,Ext.refl S,rfl,h,aj.refl w⟩
def Kq (x:Dx) (S:Hp) (d:Nat) (D:aC) (F:ai) (w:Z') (n:Nat) (u:Value) (wr:Z'):Prop:=
 ∃ (k:Nat) (a:List (Value × List UInt8)),k<=n/\u = X .i64 k/\ag wr (gu { x with Y:=a } S d (D.bU (D.wait.take k))*F)/\aj w wr
theorem zA (D:aC) (l:List (Int × List UInt8)):(D.bU l).bB=D.bB/\(D.bU l).wait=D.wait/\(D.bU l).sec.length=D.sec.length/\(D.bU l).left=D.left:=by
 unfold aC.bU
 induction l generalizing D with
 | nil=>exact ⟨rfl,rfl,rfl,rfl⟩
 | cons p l e=>
  obtain ⟨a,b,c,d⟩:=e (D.done p);exact ⟨a,b,c.trans (by simp [aC.done]),d⟩
theorem nY (w:Z') (S:Hp) (d:Nat) (D:aC) (F:ai) (h:ag w (aS S d D*F)) (z:D.Ok) :
  Calls Y' 121 #[.pointer (W ⟨d,0,Y⟩)] w (Q4 S d D.flush.2 (X .i64 D.flush.1) F w):=by
 have n:=ow w S d D _ h z;rcases D.lN with i|i
 .have e:D.flush=(0,D.begun.aI):=by simp [aC.flush,i]
  rw [e];rw [i] at n;have l:=z.up i;clear e i z;generalize D.begun=b at n l ⊢
  go_enter func121,ntmps121
  go_wp2_with fail
  refine n.mono ?_;rintro e r ⟨rfl,q,o⟩;obtain ⟨c,v⟩:=q.xS;have j:=v.bF.1;have k5:r.cell? ⟨d,5,Y⟩=W (X .i64 b.cf):=v.cX 5;have kf:=v.oe
  have m:ag (r.setCell ⟨d,5,Y⟩ (X .i64 (cD (b.cf+1)))) (gu c S d { b with cf:=cD (b.cf+1) }*F):=
   ag.je ⟨j.sec,j.tE,j.wait,j.mF⟩ (v.bF.2.setCell 5 (X .i64 (cD (b.cf+1))))
  have C:=o.setCell ⟨d,5,Y⟩ (X .i64 (cD (b.cf+1)));have c0:({ b with cf:=cD (b.cf+1) }:aC).Ok:=⟨l.n,l.wait,l.many,l.bB⟩
  obtain ⟨L,wc,J⟩:=m.QA;have x:(r.setCell ⟨d,5,Y⟩ (X .i64 (cD (b.cf+1)))).cell? ⟨d,1,Y⟩=W (Z L b.wait.length wc):=(m.cX 1).trans (by simp only [Dx.cells,J];rfl);have hn:(b.wait.length:Int)<=1000000:=by have:=l.many;omega
  have N:=ae J;clear n v l q h J
  go_wp2_with fail
  generalize r.setCell ⟨d,5,Y⟩ (X .i64 (wrap64 (b.cf+1)))=w3 at m C x ⊢;change ag w3 (gu c S d { b with cf:=cD (b.cf+1) }*F) at m;obtain ⟨a,A⟩:∃ a,a=({ b with cf:=cD (b.cf+1) }:aC):=⟨_,rfl⟩
  have I:b.wait=a.wait:=by rw [A]
  have hq:b.aI={ a.bU a.wait with wait:=[] }:=by rw [A];rfl
  have Hq:=ae hq;rw [<- A] at m c0;rw [I] at x hn ⊢;have O:Hid (c.wv = Z L a.wait.length wc):=by rw [<- I];exact N.out
  clear A I k5 kf o hq N
  go_loopw [27] (fun u wr=>Kq c S d a F w a.wait.length u wr) (fun u _=>a.wait.length-(intOf u).toNat)
  case atStart=>exact ⟨0,c.Y,Nat.zero_le _,rfl,m,C⟩
  case round=>
   obtain ⟨k,P,l0,rfl,f,d0⟩:=hrel;clear x m C;obtain ⟨Q,y,H,R⟩:=zA a (a.wait.take k)
   by_cases m0:k<a.wait.length
   .have n0:(k:Int)<(a.wait.length:Int):=by omega
    have o0:c.Z.length=a.wait.length:=f.qj.trans (by rw [y]);have K:k<c.Z.length:=by omega
    obtain ⟨g,i0⟩:∃ g,L=W ⟨g,0,Y⟩:=by
     have g0:0<c.Z.length:=by omega
     have:=pY f.bF.2.aw g0;obtain ⟨g,j0,hh⟩:=this;rw [O.out] at hh;exact ⟨_,(Value.slice.inj hh).1⟩
    subst i0
    have f0:wr.cell? ⟨g,k*2,Y⟩=W (X .i64 c.Z[k].1)/\wr.cell? ⟨g,k*2+1,Y⟩=W c.Z[k].2.1:=by
     have:=f.bF.2.aw;simp only [O.out] at this;exact this.jX K
    obtain ⟨T,U⟩:=f0
    have t:a.wait[k]?=W (c.Z[k].1,c.Z[k].2.2):=by
     rw [<- y,<- f.bF.1.wait];simp [K]
    have B:ru 5 S c.Z[k].2.1 c.Z[k].2.2:=f.bF.1.mF _ (List.getElem_mem K);obtain ⟨E,G,V⟩:=iN B;rw [V] at U B
    have b0:(a.bU (a.wait.take k)).has c.Z[k].1:=by
     have:=c0.wait _ (List.mem_of_getElem? t);unfold aC.has at this ⊢;rw [H];exact this
    generalize c.Z[k].1=s at T t b0;generalize c.Z[k].2.2=p at U t B;have e0:=ae t;clear t V Q y H R;have k0:g<wr.heap.size:=F0 wr _ T;have hA:=f.alloc (X' #[X .i64 s,Z E p.length G] 229 (0,0));have h0:=d0.alloc (X' #[X .i64 s,Z E p.length G] 229 (0,0))
    go_wp2_with (go_at_call 168;refine (BW _ S d _ _ (s,p) _ _ hA.right B b0).mono ?_;rintro e r ⟨rfl,q,o⟩)
    go_roundw
    case rel=>
     refine ⟨k+1,P.set s.toNat (Z E p.length G,p),by omega,by go_num,?_,h0.trans o⟩
     have e:a.bU (a.wait.take (k+1))=(a.bU (a.wait.take k)).done (s,p):=by
      rw [List.take_add_one,e0.out];simp [aC.bU]
     rw [e];exact q
    case measure=>simp [intOf];omega
   .obtain rfl:k=a.wait.length:=by omega
    have x:=f.cX 1;have kf:=f.oe;simp only [Dx.cells] at x;have j:=f.bF.1;have M:=f.bF.2.setCell 1 (Z Y 0 0);rw [List.take_length] at M j;clear Q y H R
    go_wp2
    go_ret
    refine ⟨rfl,?_,d0.setCell _ _⟩;rw [Hq.out];have H3:=(M.lF).eQ 229 2;refine ag.devOf (x:={ c with Y:=P,wv:=Z Y 0 0,Z:=[] }) (ag.je ⟨j.sec,j.tE,rfl,by simp⟩ ?_)
    exact H3.to (by
     simp only [Dx.cells,List.length_nil,bR,List.flatMap_nil,D0,List.set_cons_zero,List.set_cons_succ]
     ac_rfl)
 .have e:D.flush=(2,D.begun):=by simp [aC.flush,i]
  rw [e];rw [i] at n;clear e i z
  go_enter func121,ntmps121
  go_wp2_with (go_at_call 167;refine n.mono ?_;rintro e r ⟨rfl,q,o⟩)
  go_ret
  exact ⟨rfl,q,o⟩
end Go.Proofs.Nn

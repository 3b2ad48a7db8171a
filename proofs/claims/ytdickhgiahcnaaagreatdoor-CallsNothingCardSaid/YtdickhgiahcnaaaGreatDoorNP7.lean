/- Steps. -/
import Derived.Test.YtdickhgiahcnaaaGreatDoorNP3
import Derived.Deep.RegionLaw
set_option linter.all false
set_option maxRecDepth 99999
set_option maxHeartbeats 0
open Go.SL
open Go.Value renaming int->X,slice->Z
open Go.IntKind renaming i64->V
open Go.Obj renaming cells->X'
open Go renaming World->Z'
open Go.Proofs.Tryz renaming prog->Y'
open Option renaming some->W,none->Y
open List renaming setIfInBounds_toArray->A3
open Go.World renaming block_lt_of_cell?->A2
namespace Go.Proofs.Nn
open RowKit SL
variable {l:List UInt8} {S:Hp} {D:aB} {F:ai} {d:Nat} {w1:Z'}
def RF (S:Hp) (d:Nat) (D:aB) (v:Value) (F:ai) (w:Z') (e:Ending) (a:Z'):Prop:=
 e = .returned v/\ag a (aR S d D*F)/\aj w a
def IK (x:Dx) (S:Hp) (d:Nat) (D:aB) (F:ai) (w:Z') (k:D.Ok) (h:ag w (gB x S d D*F)):QU x S d D F x.kv D.bF:=by
 obtain ⟨a,c,hv⟩:=aC h.bJ.2.aJ;refine ⟨a,c,hv,by have:=k.bF;omega,fun i n=>?_⟩;obtain ⟨g,u,b⟩:=qU h.bJ.2.aJ Om0;refine ⟨g,0,(Value.slice.inj (hv.symm.trans b)).1,fun y e r o q=>?_⟩;have h5:=q.bJ.2.aJ;rw [o] at h5;obtain ⟨_,p⟩:=h5.oa;rcases p with ⟨j,v⟩|⟨s,t,f,l⟩
 .rw [show ({ x with Y:=e }:Dx).kv=x.kv from rfl,b] at j;cases j
 .rw [show ({ x with Y:=e }:Dx).kv=x.kv from rfl,b] at f
  have m:=(Value.slice.inj f).1;cases m
  have:=l i (X V (D.bF.getD i 0)) (by simp [iL,List.getElem?_eq_getElem n])
  rwa [Addr.add_lit] at this
def ph (w:Z') (S:Hp) (d:Nat) (D:aB) (F:ai) (h:ag w (aR S d D*F)) (j:D.Ok) :
  Calls Y' 165 #[.pointer (W ⟨d,0,Y⟩)] w (RF S d D.begun (X V D.cT) F w):=by
 obtain ⟨x,g⟩:=h.xf;have m:w.cell? ⟨d,6,Y⟩=W (.bool D.down):=g.cQ 6;have n:w.cell? ⟨d,7,Y⟩=W (.bool D.fi):=g.cQ 7;have q:w.cell? ⟨d,8,Y⟩=W (X V D.left):=g.cQ 8;have r:w.cell? ⟨d,9,Y⟩=W x.kv:=g.cQ 9;have u:=g.oL
 by_cases a:D.down=true
 .have c:D.cT=2:=by simp [aB.cT,aB.di,a]
  have f:D.begun=D:=by simp [aB.begun,aB.di,a]
  rw [c,f];rw [a] at m;clear c f a j
  go_in
  go_wp2
  go_ret
  exact ⟨rfl,h,aj.refl w⟩
 .simp only [Bool.not_eq_true] at a
  rw [a] at m
  by_cases b:D.fi=true
  .rw [b] at n
   by_cases i:D.left=0
   .have c:D.cT=2:=by simp [aB.cT,aB.di,a,b,i,aB.fU]
    have f:D.begun=D.fU D.bF:=by simp [aB.begun,aB.di,a,b,i,aB.fU]
    rw [c,f];rw [i] at q;have o:=JU w S d D x D.bF x.kv F g j (IK x S d D F w j g);clear c f a b i j g h
    go_in
    go_wp2_with fail
    apply o.mono;rintro e v ⟨rfl,k,t⟩;obtain ⟨A,p⟩:=k.xf;have z:v.cell? ⟨d,6,Y⟩=W (.bool true):=p.cQ 6;clear o m n q r u p
    go_wp2
    go_ret
    exact ⟨rfl,k,t⟩
   .have c:D.cT=0:=by simp [aB.cT,aB.di,a,b,i]
    have f:D.begun={ D with left:=cE (D.left-1) }:=by simp [aB.begun,aB.di,a,b,i]
    rw [c,f];have l:=g.bJ.1;have k:=g.bJ.2.setCell 8 (X V (cE (D.left-1)));have y:(D.left == 0)=false:=by simpa using i
    have s:=ae k;clear c f a b i j g h r k
    go_in
    go_wp2
    go_ret
    refine ⟨rfl,ag.devOf (x:=x) (ag.jg ⟨l.sec,l.um,l.wait,l.ng⟩ ?_),(aj.refl w).setCell _ _⟩;exact s.o
  .simp only [Bool.not_eq_true] at b
   have c:D.cT=0:=by simp [aB.cT,aB.di,a,b]
   have f:D.begun=D:=by simp [aB.begun,aB.di,a,b]
   rw [c,f];rw [b] at n;clear c f a b j
   go_in
   go_wp2
   go_ret
   exact ⟨rfl,h,aj.refl w⟩
def Ap:(Tryz.prog.info? 230).map (fun i=>(i.zero,i.size,i.bytes))=W (W (.agg #[X V 0,Z Y 0 0]),2,32):=Kr0
def GJ (T:TypeId) (g:Nat) (a:l.length=512):bs T (Z (W ⟨g,0,Y⟩) 512 512) l=sl T 1 (Z (W ⟨g,0,Y⟩) 512 512) 512 ((ed (bY 512 l)).toList.take (512*1)):=by
 have e:(ed (bY 512 l)).toList.take (512*1)=l.map u8:=by
  rw [kD a];exact List.take_of_length_le (by rw [ed,List.toList_toArray,List.length_map,a];exact Nat.le_refl _)
 rw [e,bs,a]
def BC {w1 h:Z'} {d g:Nat} {x:Dx} {a:Int} (P:ag w1 (gB x S d D*(al S*F))) (q:l.length=512) (R:D.wait.length<=1000000)
  (w:ag h (pt g (X' (ed (bY 512 l)) 5 (0,0))*whole w1)) :
  ∃ b r c e,(Builtin.append_ #[86,86] 86 #[x.wv,Z (W ⟨h.heap.size,0,Y⟩) 1 1]).run Y' (h.alloc (X' #[X V a,Z (W ⟨g,0,Y⟩) 512 512] 230 (0,0))) = .ok (Z b r c) e /\
   e.cell? ⟨d,1,Y⟩=W x.wv/\(∀ o,e.frozen? ⟨d,o,Y⟩=false)/\aj h e /\
   ∃ i,Ext S i/\ag (e.setCell ⟨d,1,Y⟩ (Z b r c)) (aR i d { D with wait:=D.wait++[(a,l)] }*(al i*F)):=by
 obtain ⟨T,L,f,N,I⟩:=info_parts Ap;have A:=w.under P;obtain ⟨k,h4⟩:=(A.to (aD _ _ _)).bJ;have Q:x.Z.length=D.wait.length:=by rw [<- k.wait,List.length_map]
 have p:=h4.alloc (X' #[X V a,Z (W ⟨g,0,Y⟩) 512 512] 230 (0,0))
 have G:pC (h.alloc (X' #[X V a,Z (W ⟨g,0,Y⟩) 512 512] 230 (0,0))) 2 (Z (W ⟨h.heap.size,0,Y⟩) 1 1) 1 [X V a,Z (W ⟨g,0,Y⟩) 512 512]:=
  ⟨rfl,.inr ⟨_,_,rfl,fun j u O=>by
   rw [Addr.add_lit,Nat.zero_add];exact (p.cell j).trans (by simpa using O)⟩⟩
 obtain ⟨U,e,M,h5,s⟩:=ag.append (P:=Y') (ty:=86) Tryz.underlying86 L f N I rfl (p.right.au) G (by simp [Value.oneCell']) (by unfold maxLen;omega) Om0;have m:=h5.yW;obtain ⟨b,c,rfl⟩:=aC h5;refine ⟨_,_,_,e,M,(m.cell 1).trans rfl,m.frozen,((aj.refl h).alloc _).trans s,?_⟩;have B:=m.setCell 1 (Z b (x.Z.length+1) c);have C:=B.fh.fh
 have K:ag (e.setCell ⟨d,1,Y⟩ (Z b (x.Z.length+1) c)) (al S*(bs 5 (Z (W ⟨g,0,Y⟩) 512 512) l*(pt d (X' ((x.cells D).setIfInBounds 1 (Z b (x.Z.length+1) c)) 90 (0,0))*(pt x.sg (X' (x.Y.map Prod.fst).toArray 23 (0,0))*(sl 230 2 (Z b (x.Z.length+1) c) (x.Z.length+1) (bT x.Z++[X V a,Z (W ⟨g,0,Y⟩) 512 512])*(mp x.tm (gU D.nz)*(sl 3 1 x.kv D.bF.length (iL D.bF)*F))))))):=by
  have E:ag _ (pt g (X' (ed (bY 512 l)) 5 (0,0))*_):=C;have t:=ag.nM (sz:=1) (n:=512) (cap:=512) E Om0 (by unfold maxLen;omega) (by simp [fj,cu]);refine t.to ?_;rw [GJ _ g q]
  ac_rfl
 obtain ⟨i,n,H,v⟩:=ag.z8 K (by rw [small,q];omega);refine ⟨i,n,?_⟩
 have J:({ x with wv:=Z b (x.Z.length+1) c,Z:=x.Z++[(a,Z (W ⟨g,0,Y⟩) 512 512,l)] }:Dx).Fit 5 i { D with wait:=D.wait++[(a,l)] }:=by
  refine ⟨k.sec,fun y hy=>(k.um y hy).mono n,?_,fun z f=>?_⟩
  .show (x.Z++[_]).map _=_
   rw [List.map_append,k.wait];rfl
  .rcases List.mem_append.1 f with f|f
   .exact (k.ng z f).mono n
   .rw [List.mem_singleton.1 f];exact H
 refine ag.devOf (ag.jg J (v.to ?_));simp only [Dx.cells,bT,List.flatMap_append,List.flatMap_cons,List.flatMap_nil,List.append_nil,List.length_append,List.length_cons,List.length_nil,A3,List.set_cons_zero,List.set_cons_succ]
 ac_rfl
def xt:∀ a w,(callFunc 217 a).run Y' w = .ok (.enter 217 a) w:=enters Tryz.func217 Kr0 rfl
def gE (S:Hp) (d:Nat) (D:aB) (v:Value) (F:ai) (w:Z') (e:Ending) (b:Z'):Prop:=
 ∃ a,Ext S a/\e = .returned v/\ag b (aR a d D*(al a*F))/\aj w b
def gE.of {v:Value} {w:Z'} {e:Ending} (h:RF S d D v (al S*F) w e w1):gE S d D v F w e w1:=
 ⟨S,Ext.refl S,h.1,h.2.1,h.2.2⟩
def pk (w:Z') (S:Hp) (d:Nat) (D:aB) (a:Int) (v:Value) (l:List UInt8) (F:ai) (h:ag w (aR S d D*(al S*F))) (k:D.Ok) (m:Rd w v l) (s:∀ I J,ag I (aR S d J*(al S*F))->Rd I v l) (P:l.length<=9223372036854775807) :
  Calls Y' 164 #[.pointer (W ⟨d,0,Y⟩),X V a,v] w (gE S d (D.write a l).2 (X V (D.write a l).1) F w):=by
 obtain ⟨B,C,rfl⟩:=m.shape;have i:=mP w S d D a _ h
 by_cases c:D.has a
 .rw [show decide (D.has a)=true by simpa using c] at i
  by_cases g:l.length=512
  .have G:((l.length:Int) != 512)=false:=by simp [g]
   have j:=ph w S d D _ h k;rcases D.mW with f|f
   .have e:D.write a l=(0,{ D.begun with cw:=cE (D.begun.cw+1),wait:=D.begun.wait++[(a,l)] }):=by simp [aB.write,c,g,f]
    rw [e];rw [f] at j;have x:=k.up f;have L:=ae g;clear e f g m c k;generalize D.begun=b at j x ⊢
    go_in
    go_wp2_with (go_at_call 216;apply i.mono;rintro e y ⟨rfl,rfl⟩)
    apply j.mono;rintro e o ⟨rfl,r,q⟩;obtain ⟨A,n⟩:=r.xf;have t:=n.bJ.1;have k4:o.cell? ⟨d,4,Y⟩=W (X V b.cw):=n.cQ 4;have kf:=n.oL
    have u:ag (o.setCell ⟨d,4,Y⟩ (X V (cE (b.cw+1)))) (gB A S d { b with cw:=cE (b.cw+1) }*(al S*F)):=
     ag.jg ⟨t.sec,t.um,t.wait,t.ng⟩ (n.bJ.2.setCell 4 (X V (cE (b.cw+1))))
    have E:=q.setCell ⟨d,4,Y⟩ (X V (cE (b.cw+1)));have Q:b.wait.length<=1000000:=x.many;have H:Rd (o.setCell ⟨d,4,Y⟩ (X V (cE (b.cw+1)))) (Z B l.length C) l:=s _ _ u.devOf;clear j i h n x r
    go_wp2_with fail
    generalize o.setCell ⟨d,4,Y⟩ (X V (wrap64 (b.cw+1)))=p at u E H ⊢;have U:p.cell? ⟨d,1,Y⟩=W A.wv:=u.cQ 1;have R:Rd p.drew (Z B l.length C) l:=H;clear k4 kf q G
    go_region_law (first
     | (refine pQ (la p.drew _ l R P) xt rfl _ _ rfl Rf0 ?_;rintro e z ⟨b0,rfl,h4,N⟩;refine ⟨_,rfl,?_⟩;have q4:z.cell? ⟨d,1,Y⟩=W A.wv:=h4.bV (W:=p.drew) U;have ql:d<z.heap.size:=A2 z _ q4;obtain ⟨va,vn,vc,w5,T,q1,qf,O,M,K,h5⟩:=BC (w1:=p.drew) (a:=a) (SL.ag.drew u) L.o Q h4)
     | (refine mZ T rfl _ _ rfl rfl Rf0 Rf0 ?_))
    all_goals
     go_wp2
     go_ret
     exact ⟨M,K,rfl,h5,((E.drew.trans N).trans O).setCell _ _⟩
   .have e:D.write a l=(2,D.begun):=by simp [aB.write,c,g,f]
    rw [e];rw [f] at j;clear e f g m c k s
    go_in
    go_wp2_with (first
     | (go_at_call 216;apply i.mono;rintro e y ⟨rfl,rfl⟩)
     | (go_at_call 165;apply j.mono;rintro e o ⟨rfl,r,q⟩))
    go_ret
    exact ⟨S,Ext.refl S,rfl,r,q⟩
  .have G:((l.length:Int) != 512)=true:=by simp;omega
   have e:D.write a l=(1,D):=by simp [aB.write,g]
   rw [e];clear e g m c k s
   go_in
   go_wp2_with (go_at_call 216;apply i.mono;rintro e y ⟨rfl,rfl⟩)
   go_ret
   exact ⟨S,Ext.refl S,rfl,h,aj.refl w⟩
 .rw [show decide (D.has a)=false by simpa using c] at i
  have e:D.write a l=(1,D):=by simp [aB.write,c]
  rw [e];clear e m c k s
  go_in
  go_wp2_with (go_at_call 216;apply i.mono;rintro e y ⟨rfl,rfl⟩)
  go_ret
  exact ⟨S,Ext.refl S,rfl,h,aj.refl w⟩
def KA (x:Dx) (S:Hp) (d:Nat) (D:aB) (F:ai) (w:Z') (n:Nat) (u:Value) (wr:Z'):Prop:=
 ∃ (k:Nat) (a:List (Value × List UInt8)),k<=n/\u = X V k/\ag wr (gB { x with Y:=a } S d (D.bU (D.wait.take k))*F)/\aj w wr
def zN (D:aB) (l:List (Int × List UInt8)):(D.bU l).bF=D.bF/\(D.bU l).wait=D.wait/\(D.bU l).sec.length=D.sec.length/\(D.bU l).left=D.left:=by
 unfold aB.bU
 induction l generalizing D with
 | nil=>exact ⟨rfl,rfl,rfl,rfl⟩
 | cons p l d=>
  obtain ⟨a,b,c,h4⟩:=d (D.done p);exact ⟨a,b,c.trans (by simp [aB.done]),h4⟩
def ov (w:Z') (S:Hp) (d:Nat) (D:aB) (F:ai) (h:ag w (aR S d D*F)) (A:D.Ok) :
  Calls Y' 115 #[.pointer (W ⟨d,0,Y⟩)] w (RF S d D.flush.2 (X V D.flush.1) F w):=by
 have o:=ph w S d D _ h A;rcases D.mW with j|j
 .have e:D.flush=(0,D.begun.aH):=by simp [aB.flush,j]
  rw [e];rw [j] at o;have m:=A.up j;clear e j A;generalize D.begun=b at o m ⊢
  go_in
  go_wp2_with fail
  apply o.mono;rintro e s ⟨rfl,r,p⟩;obtain ⟨f,x⟩:=r.xf;have l:=x.bJ.1;have k5:s.cell? ⟨d,5,Y⟩=W (X V b.cf):=x.cQ 5;have kf:=x.oL
  have n:ag (s.setCell ⟨d,5,Y⟩ (X V (cE (b.cf+1)))) (gB f S d { b with cf:=cE (b.cf+1) }*F):=
   ag.jg ⟨l.sec,l.um,l.wait,l.ng⟩ (x.bJ.2.setCell 5 (X V (cE (b.cf+1))))
  have E:=p.setCell ⟨d,5,Y⟩ (X V (cE (b.cf+1)));have e0:({ b with cf:=cE (b.cf+1) }:aB).Ok:=⟨m.n,m.wait,m.many,m.bF⟩
  obtain ⟨M,wc,K⟩:=n.RT;have y:(s.setCell ⟨d,5,Y⟩ (X V (cE (b.cf+1)))).cell? ⟨d,1,Y⟩=W (Z M b.wait.length wc):=(n.cQ 1).trans (by simp only [Dx.cells,K];rfl);have hn:(b.wait.length:Int)<=1000000:=by have:=m.many;omega
  have O:=ae K;clear o x m r h K
  go_wp2_with fail
  generalize s.setCell ⟨d,5,Y⟩ (X V (wrap64 (b.cf+1)))=w3 at n E y ⊢;change ag w3 (gB f S d { b with cf:=cE (b.cf+1) }*F) at n;obtain ⟨a,B⟩:=Mn0 (({ b with cf:=cE (b.cf+1) }:aB))
  have J:b.wait=a.wait:=by rw [B]
  have hq:b.aH={ a.bU a.wait with wait:=[] }:=by rw [B];rfl
  have Hq:=ae hq;rw [<- B] at n e0;rw [J] at y hn ⊢;have P:Hid (f.wv = Z M a.wait.length wc):=by rw [<- J];exact O.o
  clear B J k5 kf p hq O
  go_loopw [27] (fun u wr=>KA f S d a F w a.wait.length u wr) (fun u _=>a.wait.length-(intOf u).toNat)
  case atStart=>exact ⟨0,f.Y,Nat.zero_le _,rfl,n,E⟩
  case round=>
   obtain ⟨k,Q,m0,rfl,i,f0⟩:=hrel;clear y n E;obtain ⟨R,z,I,T⟩:=zN a (a.wait.take k)
   by_cases n0:k<a.wait.length
   .have o0:(k:Int)<(a.wait.length:Int):=Om0
    have p0:f.Z.length=a.wait.length:=i.rE.trans (by rw [z]);have L:k<f.Z.length:=Om0
    obtain ⟨g,k0⟩:∃ g,M=W ⟨g,0,Y⟩:=by
     have i0:0<f.Z.length:=Om0
     have:=qU i.bJ.2.au i0;obtain ⟨g,c,hh⟩:=this;rw [P.o] at hh;exact ⟨_,(Value.slice.inj hh).1⟩
    subst k0
    have h0:wr.cell? ⟨g,k*2,Y⟩=W (X V f.Z[k].1)/\wr.cell? ⟨g,k*2+1,Y⟩=W f.Z[k].2.1:=by
     have:=i.bJ.2.au;simp only [P.o] at this;exact this.kH L
    obtain ⟨U,b0⟩:=h0
    have v:a.wait[k]?=W (f.Z[k].1,f.Z[k].2.2):=by
     rw [<- z,<- i.bJ.1.wait];simp [L]
    have C:rC 5 S f.Z[k].2.1 f.Z[k].2.2:=i.bJ.1.ng _ (List.getElem_mem L);obtain ⟨G,H,c0⟩:=iY C;rw [c0] at b0 C
    have d0:(a.bU (a.wait.take k)).has f.Z[k].1:=by
     have:=e0.wait _ (List.mem_of_getElem? v);unfold aB.has at this ⊢;rw [I];exact this
    generalize f.Z[k].1=t at U v d0;generalize f.Z[k].2.2=q at b0 v C;have g0:=ae v;clear v c0 R z I T;have l0:g<wr.heap.size:=A2 wr _ U;have hA:=i.alloc (X' #[X V t,Z G q.length H] 230 (0,0));have j0:=f0.alloc (X' #[X V t,Z G q.length H] 230 (0,0))
    go_wp2_with (go_at_call 166;apply (AW _ S d _ _ (t,q) _ _ hA.right C d0).mono;rintro e s ⟨rfl,r,p⟩)
    go_roundw
    case rel=>
     refine ⟨k+1,Q.set t.toNat (Z G q.length H,q),Om0,by go_num,?_,j0.trans p⟩
     have e:a.bU (a.wait.take (k+1))=(a.bU (a.wait.take k)).done (t,q):=by
      rw [List.take_add_one,g0.o];simp [aB.bU]
     rw [e];exact r
    case measure=>simp [intOf];omega
   .obtain rfl:k=a.wait.length:=Om0
    have y:=i.cQ 1;have kf:=i.oL;simp only [Dx.cells] at y;have l:=i.bJ.1;have N:=i.bJ.2.setCell 1 (Z Y 0 0);rw [List.take_length] at N l;clear R z I T
    go_wp2
    go_ret
    refine ⟨rfl,?_,f0.setCell _ _⟩;rw [Hq.o];have H3:=(N.lS).eU 230 2;refine ag.devOf (x:={ f with Y:=Q,wv:=Z Y 0 0,Z:=[] }) (ag.jg ⟨l.sec,l.um,rfl,Si0⟩ ?_)
    exact H3.to (by
     simp only [Dx.cells,List.length_nil,bT,List.flatMap_nil,A3,List.set_cons_zero,List.set_cons_succ]
     ac_rfl)
 .have e:D.flush=(2,D.begun):=by simp [aB.flush,j]
  rw [e];rw [j] at o;clear e j A
  go_in
  go_wp2_with (go_at_call 165;apply o.mono;rintro e s ⟨rfl,r,p⟩)
  go_ret
  exact ⟨rfl,r,p⟩
end Go.Proofs.Nn

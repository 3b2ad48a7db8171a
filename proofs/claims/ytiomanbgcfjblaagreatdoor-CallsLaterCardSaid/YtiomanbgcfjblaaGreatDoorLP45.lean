/- Steps. -/
import Derived.Test.YtiomanbgcfjblaaGreatDoorLP44
import Derived.Test.YtiomanbgcfjblaaGreatDoorLP29
set_option linter.all false
set_option maxRecDepth 99999
set_option maxHeartbeats 0
open Go.SL
open Go.Value renaming int->Z,slice->G,pointer->X',string->N,tuple->H
open Go.IntKind renaming i64->V,u8->C
open Go.Obj renaming cells->W
open Go.Ending renaming returned->M
open Go renaming World->Q,Value->V'
open Go.Proofs.Tryz renaming prog->Y
open Option renaming some->U,none->I
open Bool renaming true->A,false->Z'
open Go.SL renaming Om0->W',De0->Y'
open Go.Proofs.Tryz
open Go.World renaming size_alloc->B3
open UInt8 renaming ofNat->E5
open Nat renaming le_succ->E4,le_refl->G3
open List renaming map_cons->E3,setIfInBounds_toArray->H9
namespace Go.Proofs.Cl
open RowKit SL Proofs.Nn Proofs.Ba Proofs.Su Proofs.Fs
attribute [local go_sem] Oper.semAt_some
structure Lq (n P E B:Nat) (J:Jr) (D:aw) (has:Has):Prop where
 sj:Sj n P B (bh n P) J D has
 ep:J.ep<=(E:Int)
 sec:D.sec.length=P+1
def Lq.nS {n P E B:Nat} {J:Jr} {D:aw} {has:Has} {L:Bl} (hP:5*n+240<=2*P) (h:Lq n P E B J D has) (o:B<=1000000) (r:Batch (n:Int) L):∃ i g,dJ J D A L=(0,i,g)/\Lq n P E (B+1) i g (kR has L):=by
 obtain ⟨j,l⟩:=h.sj.nS hP o r;exact ⟨_,_,j,l,h.ep,(aF D).2.2.2.trans h.sec⟩
def Qj (n P E:Nat) (hP:5*n+240<=2*P):Dk n:=
 ⟨Lq n P E,fun h=>h.sj.jt.inv,fun h=>h.sj.jt.jn,fun h r=>⟨h.sj.cr r,h.ep,h.sec⟩,fun h g _ i=>h.nS hP g i,fun h _=>⟨h.sj.ay.more (E4 _),h.ep,(aF _).2.2.2.trans h.sec⟩⟩
def sL:Has:=fun _=>I
def zA {n:Nat} (j:2<=n):Tidy n eJ:=by
 have g:∀ id L,eJ id=U (.dir L)->L=[]:=by
  intro id L h;unfold eJ at h
  split at h
  .injection h with h;injection h with h;exact h.symm
  .cases h
 refine ⟨⟨[],rfl⟩,fun id L h=>?_,fun id f h=>?_,fun id=>?_,fun id h=>?_⟩
 .rw [g _ _ h];exact sn.nil
 .unfold eJ at h
  split at h
  .injection h with h;cases h
  .cases h
 .have e:refs n eJ id=0:=by
   unfold refs
   have:∀ l:List Nat,(l.map fun d=>(fq (eJ d)).countP fun e=>e.nd == id).sum=0:=by
    intro l
    induction l with
    | nil=>rfl
    | cons a l i=>
     rw [E3,List.sum_cons,i];have:fq (eJ a)=[]:=by unfold eJ;split <;> rfl
     rw [this];rfl
   exact this _
  rw [e];unfold eJ
  split
  .rename_i h;subst h;rfl
  .rfl
 .unfold eJ;rw [if_neg W']
def PX:gJ eJ=fun id=>if id=1 then U (kO 2) else I:=by
 funext id;unfold gJ eJ
 split
 .show U (xM.dir []).af=_
  have:=Ih (kd:=2) (.inr rfl);rw [show nx 2 = .dir [] from rfl] at this;rw [this]
 .rfl
section
variable {t:Pl} {q:Dk t.n} {w:Q} {F:ai} {J:Jr} {D:aw} {m:Nat}
def UK (t:Pl) (q:Dk t.n) (m:Nat) (F:ai) (w:Q) (e:Ending) (w':Q):Prop:=
 ∃ s,e = M (H #[])/\ak w w'/\s.B<=3/\s.D.wait=[]/\mx t q s eJ (t.n-2)/\ah w' (eL t s m []*F)
def Se (h4:4<=t.n) (hn:t.n<=3840) (hq:q.Q 1 J D sL) (h:ah w (pt t.f (il t (.map (U m)))*(mp m (nr [])*(oO t ⟨J,D,sL,1⟩*F)))) :
  Calls Y 39 #[ax t.f,.func (.func 83) #[] #[]] w fun e w'=>∃ s,e = M (Z V 0)/\ak w w'/\s.B<=2/\mx t q s eJ (t.n-2)/\ah w' (eL t s m []*F):=by
 have hG:Go.SL.Good t.n (eH sL) (IJ J D) ⟨0,[],[],(J,D)⟩:=⟨rfl,IJ.start J D,fun h0 l _ h=>absurd h (by simp [aA]),fun h0 l _ h=>absurd h (by simp [aA]),fun p hp=>absurd hp Si0⟩
 obtain ⟨o,he,hA⟩:=F6 (yB hq) W' h4 hn hG
 have g0:o.W.length<=24:=by
  have:=(C7 (ask:=Ut)).run he;simp at this;omega
 rw [<- PX] at hA;obtain ⟨S,hS⟩:=qD (h.t00 (oO t ⟨J,D,sL,1⟩*(pt t.f (il t (.map (U m)))*(mp m (nr [])*F))));have hi:=q.inv hq
 have d0:(o.W.map Prod.fst).Nodup->o.W≠[]->∃ r i g,o.s=(J,{ D with cr:=r })/\q.Q 1 J { D with cr:=r } sL/\Batch (t.n:Int) (iI o.W)/\dJ J { D with cr:=r } A (iI o.W)=(0,i,g)/\q.Q 2 i g (kR sL (iI o.W)):=by
  intro b0 y;obtain ⟨u,r,z⟩:=hA.gL.inv;have hb:=yy hA b0 g0 (List.length_pos_iff.2 y);obtain ⟨i,g,e3,e4⟩:=q.nS (q.cr hq r) Y' hb;exact ⟨r,i,g,Prod.ext u z,q.cr hq r,hb,e3,e4⟩
 refine (DV t w S J D (.map (U m)) 83 #[] emp (mp m (nr [])*F) (fun c j G'=>c=0/\j=o/\G'=emp) hi.ok hi.pH (enters func83 Kr0 rfl) (Gn h4 hn he) ?_ (hS.to (by rw [cy];ac_rfl))).mono ?_
 .rintro c j G' ⟨rfl,rfl,rfl⟩-b0 y
  obtain ⟨r,i,g,u,z,e3,e4,-⟩:=d0 b0 y;refine ⟨sL,i,g,?_,?_,e3,?_⟩
  .rw [u];exact q.inv z
  .rw [u];exact q.jn z
  .rw [u];exact e4
 .rintro e w' ⟨c,j,G',S',i,g,⟨rfl,rfl,rfl⟩,b0,rfl,d,hs,e0,f0⟩
  by_cases y:j.W=[]
  .obtain ⟨u,r,z⟩:=hA.gL.inv
   have e:=f0 (.inr y);rw [e] at u z;have hr:Ds.Rd ⟨J,D,sL,1⟩ ⟨i,g,sL,1⟩:=⟨u,⟨r,z⟩,rfl,rfl⟩
   refine ⟨⟨i,g,sL,1⟩,rfl,d,E4 1,⟨SF.rd (s:=⟨J,D,sL,1⟩) ⟨hq,uh hA y⟩ hr,zA W',h4,hn⟩,?_⟩;exact (kY (s:=⟨i,g,sL,1⟩) (hs.to (by rw [cy];ac_rfl))).to (by unfold eL;ac_rfl:oO t ⟨i,g,sL,1⟩*(pt t.f (il t (.map (U m)))*(mp m (nr [])*F))=_)
  obtain ⟨r',J2,D2,f1,f2,f3,f4,f5⟩:=d0 b0 y;have c0:=e0 rfl y;rw [f1] at c0;have c0:dJ J { D with cr:=r' } A (iI j.W)=(0,i,g):=c0;rw [c0] at f4;simp only [Prod.mk.injEq,true_and] at f4;obtain ⟨rfl,rfl⟩:=f4;refine ⟨⟨i,g,kR sL (iI j.W),2⟩,rfl,d,G3 2,⟨⟨f5,wG hA b0⟩,zA W',h4,hn⟩,?_⟩;exact (kY (s:=⟨i,g,kR sL (iI j.W),2⟩) (hs.to (by rw [cy];ac_rfl))).to (by unfold eL;ac_rfl:oO t ⟨i,g,kR sL (iI j.W),2⟩*(pt t.f (il t (.map (U m)))*(mp m (nr [])*F))=_)
def Lb (h4:4<=t.n) (hn:t.n<=3840) (hq:q.Q 1 J D sL) (h:ah w (pt t.f (il t (.map (U m)))*(mp m (nr [])*(oO t ⟨J,D,sL,1⟩*F)))) :
  Calls Y 82 #[ax t.f] w (UK t q m F w):=by
 refine aK fun d0 l=>?_;have e0:=oq Y;have hd:=ae (Se h4 hn hq h);have o:=ae dK;clear h hq h4 hn
 go_in
 go_wp2_with fail
 apply hd.o.mono;rintro e w2 ⟨s,rfl,r,z,g,y⟩;have b0:=ae (zU g W' y);have i:=ae r;have j:=ae z;clear hd r g y z
 go_wp2_with fail
 apply (o.o _).mono;rintro e w3 ⟨rfl,rfl⟩
 go_wp2_with fail
 apply b0.o.mono;rintro e w4 ⟨rfl,u,g,h4⟩;have c0:=ae (l.o (M (H #[])) _ ⟨_,rfl,i.o.trans u,(show s.B+1<=3 by have:=j.o;omega),rfl,g,h4⟩);clear b0 u g h4 l i j
 go_wp2_with fail
 apply (o.o _).mono;rintro e w5 ⟨rfl,rfl⟩
 exact Zy c0.o
def NH (j:FuncId) (fc:Array V') (i:ai) (X:Nat->ai):Prop:=
 ∀ (w:Q) (g:ai),ah w (i*g)->Calls Y j fc w fun e w'=>∃ s,e = M (H #[ax s,Z V 0])/\ak w w'/\ah w' (X s*g)
def MS (l:FuncId) (j:Array V') (X:Nat->ai) (i:Nat->Nat->Nat->ai):Prop:=
 ∀ (s f m:Nat) (w:Q) (g:ai),ah w (pt f (W #[ax s,.map (U m)] 106 (0,0))*(mp m []*(X s*g)))->Calls Y l (#[ax f]++j) w fun e w'=>e = M (H #[])/\ak w w'/\ah w' (i s f m*g)
def Uu (g:Nat->Nat->Nat->ai) (F:ai) (w:Q) (e:Ending) (w':Q):Prop:=
 ∃ s f m,e = M (H #[ax f,Z V 0])/\ak w w'/\ah w' (g s f m*F)
def Kw (w:Q):(Instr.makeMap 104 I).run Y w = .ok (.map (U w.heap.size)) (w.alloc (.map #[] 0)):=by
 simp [Instr.makeMap,run_underlying underlying104]
def ow {dv:Nat} {u y:FuncId} {fc gc:Array V'} {c0:ai} {X:Nat->ai} {d0:Nat->Nat->Nat->ai} (q0:∀ (r:Array V') (w:Q),(callFunc u r).run Y w = .ok (.enter u r) w) (r0:∀ (r:Array V') (w:Q),(callFunc y r).run Y w = .ok (.enter y r) w)
  (hF:NH u fc c0 X) (hT:MS y gc X d0) (h:ah w (c0*F)):Calls Y 59 #[ax dv,.func (.func u) #[] fc,.func (.func y) #[] gc] w (Uu d0 F w):=by
 refine aK fun p0 HQ=>?_;have u0:=oq Y;have H0:=(h.alloc (W #[X' I] 28 (0,0))).alloc (W #[Z V 0] 31 (0,0));have D0:=((ak.refl w).alloc (W #[X' I] 28 (0,0))).alloc (W #[Z V 0] 31 (0,0));rw [B3] at H0;have HF:=ae hF;have HT:=ae hT;clear h hF hT
 go_enter_defers func59,ntmps59
 go_wp2_with fail
 generalize (w.alloc (W #[X' I] 28 (0,0))).alloc (W #[Z V 0] 31 (0,0))=w1 at *;generalize w.heap.size+1=i at *;generalize w.heap.size=fb at *;have h0:=ae (HF.o w1 _ (H0.t00 (c0*(pt i (W #[Z V 0] 31 (0,0))*(pt fb (W #[X' I] 28 (0,0))*F)))));have D1:=ae D0;clear H0 D0 HF
 go_wp2_with fail
 apply h0.o.mono;rintro e w2 ⟨s,rfl,d2,h2⟩;have z:=h2.t00 (pt i (W #[Z V 0] 31 (0,0))*(pt fb (W #[X' I] 28 (0,0))*(X s*F)));have e0:w2.cell? ⟨i,0,I⟩=U (Z V 0):=z.cell 0;have ef:w2.frozen? ⟨i,0,I⟩=Z':=z.frozen 0;have h4:=z.setCell 0 (Z V 0);have D4:=ae ((D1.o.trans d2).setCell ⟨i,0,I⟩ (Z V 0));have o:=ae (h4.t00 (pt fb (W #[X' I] 28 (0,0))*(pt i (W #[Z V 0] 31 (0,0))*(X s*F))));have l0:=ae dK;have g0:=ae Kw;clear h0 D1 d2 h2 z h4
 go_wp2_with fail
 apply (l0.o _).mono;rintro e w3 ⟨rfl,rfl⟩;generalize w2.setCell ⟨i,0,I⟩ (Z V 0)=g at *;have f0:g.cell? ⟨fb,0,I⟩=U (X' I):=o.o.cell 0;have n0:g.frozen? ⟨fb,0,I⟩=Z':=o.o.frozen 0;have s0:fb<g.heap.size:=o.o.lt;have o0:=g0.o;have H5:=((((o.o.setCell 0 (ax (g.heap.size+1))).alloc (.map #[] 0)).xw isMap_empty).alloc (W #[ax s,.map (U g.heap.size)] 106 (0,0)))
 have D5:=(((D4.o.setCell ⟨fb,0,I⟩ (ax (g.heap.size+1))).alloc (.map #[] 0)).alloc (W #[ax s,.map (U g.heap.size)] 106 (0,0)))
 have k0:(g.setCell ⟨fb,0,I⟩ (ax (g.heap.size+1))).heap.size=g.heap.size:=World.size_setCell ..;rw [B3,k0] at H5;have D6:=ae D5;have ht:=ae (HT.o s (g.heap.size+1) g.heap.size _ _ (H5.to (by show _=pt (g.heap.size+1) (W #[ax s,.map (U g.heap.size)] 106 (0,0))*(mp g.heap.size []*(X s*(pt fb (W #[ax (g.heap.size+1)] 28 (0,0))*(pt i (W #[Z V 0] 31 (0,0))*F))));simp only [H9,List.set_cons_zero];ac_rfl)));generalize i0:g.heap.size+1=j at ht D6;have m0:=ae i0;clear H5 D5 o D4 g0 e0 ef i0 k0
 go_wp2_with fail
 rw [m0.o];apply ht.o.mono;rintro e w6 ⟨rfl,d6,h6⟩;have l:=h6.t00 (pt fb (W #[ax j] 28 (0,0))*(pt i (W #[Z V 0] 31 (0,0))*(d0 s j g.heap.size*F)));have a0:w6.cell? ⟨fb,0,I⟩=U (ax j):=l.cell 0;have a1:w6.frozen? ⟨fb,0,I⟩=Z':=l.frozen 0;have b0:(w6.setCell ⟨fb,0,I⟩ (ax j)).cell? ⟨i,0,I⟩=U (Z V 0):=(l.setCell 0 (ax j)).aj.cell 0;have b1:(w6.setCell ⟨fb,0,I⟩ (ax j)).frozen? ⟨i,0,I⟩=Z':=(l.setCell 0 (ax j)).aj.frozen 0;have h8:=(l.setCell 0 (ax j)).aj.setCell 0 (Z V 0);have H8:=ae h8;have D8:=ae (((D6.o.trans d6).setCell ⟨fb,0,I⟩ (ax j)).setCell ⟨i,0,I⟩ (Z V 0));clear ht h6 l h8 D6 d6 f0 n0 o0 HT
 go_wp2_with fail
 have h9:=H8.o;simp only [H9,List.set_cons_zero] at h9;exact Ja rfl rfl (h9.aj.cell 0) (h9.cell 0) (HQ.o _ _ ⟨s,j,g.heap.size,rfl,D8.o,h9.right.right⟩)
end
end Go.Proofs.Cl
namespace Go.Proofs.Cl
open RowKit SL Proofs.Nn Proofs.Ba Proofs.Su Proofs.Fs
def ns (t:Pl) (q:Dk t.n) (m:Nat) (T:Tr) (k B:Nat) (O:po):ai:=ex fun s:Ds=>fact (mx t q s T k/\s.B<=B)*eL t s m O
section
variable {t:Pl} {q:Dk t.n} {s:Ds} {T:Tr} {k m B:Nat} {O:po} {w:Q} {F:ai} {p p1 p2:List UInt8} {R:Int->Tr->Nat->Prop} {e:Ending} {w':Q}
def iO (h:ah w (ns t q m T k B O*F)):∃ s,mx t q s T k/\s.B<=B/\ah w (eL t s m O*F):=by
 obtain ⟨s,g⟩:=ah.aq.1 h;obtain ⟨⟨i,j⟩,h4⟩:=ah.ao.1 (g.to (ar _ _ _));exact ⟨s,i,j,h4⟩
def gy (i:mx t q s T k) (g:s.B<=B) (h:ah w (eL t s m O*F)):ah w (ns t q m T k B O*F):=
 ah.aq.2 ⟨s,(ah.ao.2 ⟨⟨i,g⟩,h⟩:ah w (fact _*_)).to (ar _ _ _).symm⟩
def mx.go {g:Ds} {wr:Bool} (i:s.Go t.n wr g):g.B<=s.B+1:=by
 rcases i with h|⟨_,r,L,_,_,_,h⟩
 .rw [h.B];omega
 .omega
def Vv (t:Pl) (q:Dk t.n) (m:Nat) (T:Tr) (k B:Nat) (O:po) (R:Int->Tr->Nat->Prop) (F:ai) (w:Q) (e:Ending) (w':Q):Prop:=
 ak w w'/\∃ c,e = M (Z V c)/\((c≠0/\(∃ T' k',R c T' k')/\ah w' (ns t q m T k B O*F))\/(c=0/\∃ T' k',R 0 T' k'/\ah w' (ns t q m T' k' (B+1) O*F)))
def T3 (u:mx t q s T k) (l:s.B<=B) (h:VA t q m s O R F w e w'):Vv t q m T k B O R F w e w':=by
 obtain ⟨c,T',k',s',i,r,d,hr,g⟩:=h;refine ⟨d,c,r,?_⟩;rcases hr with ⟨o,j⟩|⟨rfl,y,z⟩
 .exact .inl ⟨o,⟨T',k',i⟩,gy (u.rd j) (by rw [j.B];exact l) g⟩
 .exact .inr ⟨rfl,T',k',i,gy y (by have:=mx.go z;omega) g⟩
def Vv.ok (h:Vv t q m T k B O R F w e w') (j:∀ c T' k',R c T' k'->c=0):∃ T' k',R 0 T' k'/\e = M (Z V 0)/\ak w w'/\ah w' (ns t q m T' k' (B+1) O*F):=by
 obtain ⟨d,c,rfl,⟨l,⟨T',k',g⟩,_⟩|⟨rfl,T',k',g,i⟩⟩:=h
 .exact absurd (j _ _ _ g) l
 .exact ⟨T',k',g,rfl,d,i⟩
def NF (r:B<=1000000) (l:gF T k p=0) (h:ah w (ns t q m T k B O*F)):Calls Y 15 #[ax t.f,N (str p)] w (Vv t q m T k B O (n7 t.n T k 1 p) F w):=by
 obtain ⟨s,g,i,j⟩:=iO h;exact (vz g W' l j).mono fun e w' o=>T3 g i o
def QQ (r:B<=1000000) (l:gF T k p=0) (h:ah w (ns t q m T k B O*F)):Calls Y 27 #[ax t.f,N (str p)] w (Vv t q m T k B O (n7 t.n T k 2 p) F w):=by
 obtain ⟨s,g,i,j⟩:=iO h;exact (Kr g W' l j).mono fun e w' o=>T3 g i o
def UI (r:B<=1000000) (l:iG T k p1 p2=0) (h:ah w (ns t q m T k B O*F)):Calls Y 29 #[ax t.f,N (str p1),N (str p2)] w (Vv t q m T k B O (Cq T k p1 p2) F w):=by
 obtain ⟨s,g,i,j⟩:=iO h;exact (Me g W' l j).mono fun e w' o=>T3 g i o
def IB (X:ai) (v:V') (F:ai) (w:Q) (e:Ending) (w':Q):Prop:=e = M v/\ak w w'/\ah w' (X*F)
def Vh (y:B<=1000000) (h:ah w (ns t q m T k B O*F)):Calls Y 9 #[ax t.f,N (str p)] w (IB (ns t q m T k B O) (H #[Vy (if (bL T p).1=0 then qM (T (bL T p).2) else (0,0,0)),Z V (bL T p).1]) F w):=by
 obtain ⟨s,g,i,j⟩:=iO h;apply (wV g W' j).mono;rintro e w' ⟨u,rfl,d,o,l,h4⟩;have r:s.Rd u:=by rcases o with h|⟨h,_⟩;exact h;cases h
 exact ⟨rfl,d,gy l (by rw [r.B];exact i) h4⟩
def Tn (t:Pl) (q:Dk t.n) (m:Nat) (T:Tr) (k B:Nat) (O:po) (p:List UInt8) (F:ai) (w:Q) (e:Ending) (w':Q):Prop:=
 ak w w'/\((gI T O p≠0/\e = M (H #[Z V 0,Z V (gI T O p)])/\ah w' (ns t q m T k B O*F)) \/
  (gI T O p=0/\∃ fd:Nat,(∀ j:Nat,j<fd->(aA O (j:Int)).isSome=A)/\aA O (fd:Int)=I/\e = M (H #[Z V (fd:Int),Z V 0])/\ah w' (ns t q m T k B (lX O fd ((bL T p).2,0))*F)))
def Vk (y:B<=1000000) (u:O.length<=1000) (h:ah w (ns t q m T k B O*F)):Calls Y 16 #[ax t.f,N (str p)] w (Tn t q m T k B O p F w):=by
 obtain ⟨s,i,l,r⟩:=iO h;apply (kE i W' u r).mono;rintro e w' ⟨z,d,g,⟨j,rfl,h4⟩|⟨j,fd,a1,o,rfl,h4⟩⟩
 .exact ⟨d,.inl ⟨j,rfl,gy (i.rd g) (by rw [g.B];exact l) h4⟩⟩
 .exact ⟨d,.inr ⟨j,fd,a1,o,rfl,gy (i.rd g) (by rw [g.B];exact l) h4⟩⟩
def Xk (c:Int) (l:List UInt8) (X g:ai) (F:ai) (w:Q) (e:Ending) (w':Q):Prop:=
 ak w w'/\((c≠0/\e = M (H #[G I 0 0,Z V c])/\ah w' (X*F))\/(c=0/\∃ u,e = M (H #[u,Z V 0])/\ah w' (bs 5 u l*(g*F))))
def U9 {a c:Int} (z:B<=1000000) (r:iE T p a c=0) (h:ah w (ns t q m T k B O*F)):Calls Y 11 #[ax t.f,N (str p),Z V a,Z V c] w (Xk (iE T p a c) (nY T p a c) (ns t q m T k B O) (ns t q m T k B O) F w):=by
 obtain ⟨s,i,l,o⟩:=iO h;apply (OZ i W' r o).mono;rintro e w' ⟨y,d,g,⟨j,rfl,h4⟩|⟨j,u,rfl,h4⟩⟩
 .exact ⟨d,.inl ⟨j,rfl,gy (i.rd g) (by rw [g.B];exact l) h4⟩⟩
 .exact ⟨d,.inr ⟨j,u,rfl,(gy (i.rd g) (by rw [g.B];exact l) (h4.t00 (eL t y m O*(bs 5 u (nY T p a c)*F)))).u00⟩⟩
def XP (c:Int) (L:List aM) (X:ai) (F:ai) (w:Q) (e:Ending) (w':Q):Prop:=
 ak w w'/\((c≠0/\e = M (H #[G I 0 0,Z V c])/\ah w' (X*F))\/(c=0/\∃ u g,g.Perm L/\kP Cr g/\e = M (H #[u,Z V 0])/\ah w' (fu u (g.map aM.nm)*(X*F))))
def JW (hB:B<=1000000) (z:nv T p=0) (b0:(fq (T (bL T p).2)).length<=DJ) (h:ah w (ns t q m T k B O*F)):Calls Y 10 #[ax t.f,N (str p)] w (XP (nv T p) (fq (T (bL T p).2)) (ns t q m T k B O) F w):=by
 obtain ⟨s,i,o,y⟩:=iO h;apply (Cp i W' z b0 y).mono;rintro e w' ⟨s',d,g,⟨j,rfl,h4⟩|⟨j,u,l,a1,r,rfl,h4⟩⟩
 .exact ⟨d,.inl ⟨j,rfl,gy (i.rd g) (by rw [g.B];exact o) h4⟩⟩
 .exact ⟨d,.inr ⟨j,u,l,a1,r,rfl,(gy (i.rd g) (by rw [g.B];exact o) (h4.t00 (eL t s' m O*(fu u (l.map aM.nm)*F)))).u00⟩⟩
def EB (t:Pl) (q:Dk t.n) (m:Nat) (T:Tr) (k B:Nat) (O:po) (fd:Int) (o:Nat × Nat) (R:Int->Tr->Nat->Prop) (F:ai) (w:Q) (e:Ending) (w':Q):Prop:=
 ak w w'/\∃ c,e = M (Z V c)/\((c≠0/\(∃ T' k',R c T' k')/\ah w' (ns t q m T k B O*F))\/(c=0/\∃ T' k',R 0 T' k'/\ah w' (ns t q m T' k' (B+1) (lX O fd o)*F)))
def QC {f:AF} {fd:Int} {id at' vc:Nat} {va:Option Addr} {l:List UInt8} {D:ai} (hB:B<=1000000) (d0:kK k at' f l=0) (hy:aA O fd=U (id,at')) (z:T id=U (.file f)) (ha:at'<=122880) (e0:l.length<=1000000000) (b0:l.length<=vc) (y:∀ g P,ah g (D*P)->Rd g (G va l.length vc) l) (h:ah w (ns t q m T k B O*(D*F))) :
  Calls Y 28 #[ax t.f,Z V fd,G va l.length vc] w (EB t q m T k B O fd (id,at'+l.length) (ik T k id at' f l) (D*F) w):=by
 obtain ⟨s,i,r,u⟩:=iO h;apply (Ke i W' d0 hy z ha e0 b0 y u).mono;rintro e w' ⟨c,T',k',s',j,rfl,d,hr⟩;refine ⟨d,c,rfl,?_⟩;rcases hr with ⟨hc,o,h4⟩|⟨rfl,c0,hg,h4⟩
 .exact .inl ⟨hc,⟨T',k',j⟩,gy (i.rd o) (by rw [o.B];exact r) h4⟩
 .exact .inr ⟨rfl,T',k',j,gy c0 (by have:=mx.go hg;omega) h4⟩
end
end Go.Proofs.Cl
namespace Go.Proofs.Cl
open RowKit SL Proofs.Nn Proofs.Ba Proofs.Su Proofs.Fs
attribute [local go_sem] Oper.semAt_some
def Mi (d n P:Nat) (w0:Q) (s:Nat):ai:=ex fun z:Nat × Hp × aw=>fact (Lq n P 1 1 (J0 P n) z.2.2 Cl.sL)*(dz s z.1 d n P (J0 P n)*(aD z.2.1 d z.2.2*(al z.2.1*whole w0)))
def jy (a d:Nat):ai:=pt a (W #[ax d] 27 (0,0))
section
variable {d n P:Nat} {w0:Q} {S:Hp} {D:aw} {cd cb:Nat}
def Vc {g:aw} (i:D.sec.length=P+1) (h:XJ n P D g):Lq n P 1 1 (J0 P n) g Cl.sL:=⟨h.sj,Int.le_refl 1,h.sec.trans i⟩
def Dw (hh:iZ w0) (b0:D.Ok) (r:D.Calm) (z:D.wait.length<=1000) (y:gG n P=A) (i:D.sec.length=P+1) :
  NH 80 #[ax cd,ax cb] ((jy cd d*aU cb (n:Int))*(aD S d D*(al S*whole w0))) (Mi d n P w0):=by
 intro w g h;refine aK fun f0 j=>?_;have u:=ae (KE w S d n P D _ (h.t00 (aD S d D*(al S*((jy cd d*aU cb (n:Int))*(whole w0*g))))) b0 r z y i fun w' X hx=>hh.nu (hx.t00 ((X*((jy cd d*aU cb (n:Int))*g))*whole w0)));have k0:w.cell? ⟨cd,0,I⟩=U (ax d):=(h.to (by unfold jy;ac_rfl:_=pt cd (W #[ax d] 27 (0,0))*(aU cb (n:Int)*((aD S d D*(al S*whole w0))*g)))).cell 0;have k1:w.cell? ⟨cb,0,I⟩=U (Z V (n:Int)):=(h.to (by unfold aU;ac_rfl:_=pt cb (W #[Z V (n:Int)] 3 (0,0))*(jy cd d*((aD S d D*(al S*whole w0))*g)))).cell 0;have hP:=i;have HP:=ae i;clear h b0 r z y i hP
 go_in
 go_wp2_with fail
 apply u.o.mono;rintro e w3 hq;obtain ⟨s,e0,S3,D3,g0,rfl,o,l,c0⟩:=hq;have h4:ah w3 (Mi d n P w0 s*((jy cd d*aU cb (n:Int))*g)):=ah.aq.2 ⟨(e0,S3,D3),(ah.ao.2 ⟨Vc HP.o c0,o⟩:ah w3 (fact _*_)).u00⟩;have d0:=ae (j.o _ _ ⟨s,rfl,l,(h4.t00 ((jy cd d*aU cb (n:Int))*(Mi d n P w0 s*g))).right⟩);clear u c0 o h4 l j k0 k1
 exact Zz d0.o
def ME (d n P E:Nat) (hP:5*n+240<=2*P) (w0:Q) (T:Tr) (k B:Nat) (s f m:Nat):ai:=ex fun z:Nat × Ds=>fact (mx ⟨f,s,z.1,d,n,P⟩ (Qj n P E hP) z.2 T k/\z.2.B<=B/\z.2.D.wait=[])*(eL ⟨f,s,z.1,d,n,P⟩ z.2 m []*whole w0)
def Du (hP:5*n+240<=2*P) (h4:4<=n) (z:n<=3840):MS 82 #[] (Mi d n P w0) (ME d n P 1 hP w0 eJ (n-2) 3):=by
 intro s f m w g h;obtain ⟨⟨j,S,D⟩,l⟩:=ah.aq.1 (h.t00 (Mi d n P w0 s*(pt f (W #[ax s,.map (U m)] 106 (0,0))*(mp m []*g))));obtain ⟨hq,o⟩:=ah.ao.1 (l.to (ar _ _ _));have r:ah w (oO ⟨f,s,j,d,n,P⟩ ⟨J0 P n,D,Cl.sL,1⟩*(pt f (W #[ax s,.map (U m)] 106 (0,0))*(mp m []*(whole w0*g)))):=kY (t:=⟨f,s,j,d,n,P⟩) (s:=⟨J0 P n,D,Cl.sL,1⟩) (S:=S) (o.u00);refine (Lb (t:=⟨f,s,j,d,n,P⟩) (q:=Qj n P 1 hP) (J:=J0 P n) (D:=D) (m:=m) (F:=whole w0*g) h4 z hq (r.to (by unfold il;show _=_*(mp m []*_);ac_rfl))).mono ?_;rintro e w' ⟨s2,rfl,i,u,hw,y,h5⟩;exact ⟨rfl,i,ah.aq.2 ⟨(j,s2),(ah.ao.2 ⟨(⟨y,u,hw⟩:_/\_/\_),h5⟩:ah w' (fact _*_)).u00⟩⟩
def Ip (d n P E:Nat) (T:Tr) (k B:Nat) (v:Nat->V') (w0:Q) (g:ai) (w:Q) (e:Ending) (w':Q):Prop:=
 ∃ (hP:5*n+240<=2*P) (s f m:Nat),e = M (v f)/\ak w w'/\ah w' (ME d n P E hP w0 T k B s f m*g)
def BM (w:Q) (hh:iZ w0) (z:D.Ok) (u:D.Calm) (y:D.wait.length<=1000) (i:gG n P=A) (hs:D.sec.length=P+1) (h:ah w (aD S d D*(al S*whole w0))) :
  Calls Y 35 #[ax d,Z V (n:Int)] w (Ip d n P 1 eJ (n-2) 3 (fun f=>H #[ax f,Z V 0]) w0 emp w):=by
 refine aK fun d0 l=>?_;have e0:=oq Y;have hG:=dN.1 i;have hP:5*n+240<=2*P:=W'
 have b0:=fun (w1:Q) (cd cb:Nat) h1=>ow (dv:=d) (w:=w1) (F:=emp) (enters func80 Kr0 rfl) (enters func82 Kr0 rfl) (Dw (d:=d) (n:=n) (P:=P) (cd:=cd) (cb:=cb) (S:=S) hh z u y i hs) (Du (d:=d) (w0:=w0) hP W' W') h1;have g:=(h.alloc (W #[ax d] 27 (0,0))).alloc (W #[Z V (n:Int)] 3 (0,0));have j:=ae (((ak.refl w).alloc (W #[ax d] 27 (0,0))).alloc (W #[Z V (n:Int)] 3 (0,0)));rw [B3] at g;have k0:=ae (b0 _ _ _ ((g.to (by unfold jy aU;ac_rfl:_=(jy w.heap.size d*aU (w.heap.size+1) (n:Int))*(aD S d D*(al S*whole w0)))).kp));clear b0 g h z u y i hs hG
 go_in
 go_wp2_with fail
 apply k0.o.mono;rintro e w2 ⟨s,f,m,rfl,o,r⟩;have c0:=ae (l.o _ _ ⟨hP,s,f,m,rfl,j.o.trans o,r⟩);clear k0 o r l j
 exact Zz c0.o
end
def BR (w:Q) (hh:iZ w) (n:Nat) (h4:4<=n) (e0:n<=40) :
  Calls Y 7 #[Z V (n:Int)] w fun e w'=>∃ (d P:Nat),P<=221/\gG n P=A/\Ip d n P 1 eJ (n-2) 3 (fun f=>H #[ax d,ax f]) w emp w e w':=by
 refine aK fun h0 l=>?_;obtain ⟨P,hP⟩:∃ P:Nat,P=(5*n+241)/2:=⟨_,rfl⟩
 have g:=JH w n;rw [EK h4 W',<- hP] at g;have b0:P<=221:=W'
 have hw:(P:Int)+1=((P+1:Nat):Int):=W'
 have r:=ae hw;have g0:IntKind.i64.wrap ((P:Int)+1)=(P:Int)+1:=by rw [IntKind.wrap_i64];omega
 have d0:=AY (P+1) W' W' w;have hg:gG n P=A:=dN.2 ⟨W',W',W',W',W'⟩;have o:=ae hg;have Hh:=ae hh;have j:=ae b0;clear hP b0 hg hh h4 e0 hw
 go_in
 go_wp2_with fail
 (with_reducible apply g.mono)
 rintro e w1 ⟨rfl,rfl⟩
 go_wp2_with fail
 rw [r.o]
 (with_reducible apply d0.mono)
 rintro e w1 ⟨d,rfl,z,u⟩;have c0:=ae (BM (S:=Yf) (D:=aw.fresh (P+1)) (d:=d) (n:=n) (P:=P) w1 Hh.o (PA (P+1) (by have:=j.o;omega)) ⟨rfl,rfl⟩ (by show (0:Nat)<=_;omega) o.o (by rw [TA]) (((z Yf).zY).u00));have i:=ae u;clear g d0 z u r g0
 go_wp2_with fail
 apply c0.o.mono;rintro e w2 ⟨hP,s,f,m,rfl,y,h2⟩;have f0:=ae (l.o _ _ ⟨d,P,j.o,o.o,hP,s,f,m,rfl,i.o.trans y,h2⟩);clear c0 y h2 l i
 exact Zz f0.o
def qB {w0 w:Q} {d n P E B k s f m:Nat} {T:Tr} {g:ai} {hP:5*n+240<=2*P} (h:ah w (ME d n P E hP w0 T k B s f m*g)):∃ j ds,mx ⟨f,s,j,d,n,P⟩ (Qj n P E hP) ds T k/\ds.B<=B/\ds.D.wait=[]/\ah w (eL ⟨f,s,j,d,n,P⟩ ds m []*(whole w0*g)):=by
 obtain ⟨⟨j,ds⟩,i⟩:=ah.aq.1 h;obtain ⟨⟨a,b,c⟩,l⟩:=ah.ao.1 (i.to (ar _ _ _));exact ⟨j,ds,a,b,c,l.to (ar _ _ _)⟩
def NI (w:Q) (r:iZ w) (n:Nat) (h4:4<=n) (o:n<=40) :
  Calls Y 7 #[Z V (n:Int)] w fun e w'=>∃ d,∃ (t:Pl) (q:Dk t.n) (m:Nat),t.n=n/\t.d=d/\e = M (H #[ax d,ax t.f])/\ak w w'/\ah w' (ns t q m eJ (n-2) 3 []*whole w):=by
 apply (BR w r n h4 o).mono;rintro e w' ⟨d,P,-,-,hP,s,f,m,rfl,g,i⟩;obtain ⟨j,ds,l,h4,-,h5⟩:=qB i;rw [show (whole w*emp:ai)=whole w from l7 _] at h5;exact ⟨d,⟨f,s,j,d,n,P⟩,Qj n P 1 hP,m,rfl,rfl,rfl,g,gy l h4 h5⟩
structure LX (n P E B:Nat) (J:Jr) (D:aw) (has:Has) (T:Tr) (k:Nat):Prop where
 Vw:uy n P B (bh n P) J D has
 ep:TZ P D E
 sec:D.sec.length=P+1
 has:Go.SL.Has n ⟨eH has,eH has 0⟩ (gJ T) k
 ty:Tidy n T
 Ym:gG n P=true
def OI {n k:Nat} {a b:Has} {g:Nat->Option AF} (h:MT a b) (j:Go.SL.Has n ⟨eH b,eH b 0⟩ g k):Go.SL.Has n ⟨eH a,eH a 0⟩ g k:=by
 have e:eH a=eH b:=by
  funext i;exact h _
 rw [e];exact j
section
variable {d n P E B k cd:Nat} {w0:Q} {S:Hp} {J:Jr} {D:aw} {has:Has} {T:Tr}
def Lr (d n P E B:Nat) (T:Tr) (k:Nat) (w0:Q) (s:Nat):ai:=ex fun z:Nat × Hp × Ds=>
 fact (Lq n P E z.2.2.B z.2.2.J z.2.2.D z.2.2.has/\Go.SL.Has n ⟨eH z.2.2.has,eH z.2.2.has 0⟩ (gJ T) k/\z.2.2.B<=B/\z.2.2.D.wait=[])*(dz s z.1 d n P z.2.2.J*(aD z.2.1 d z.2.2.D*(al z.2.1*whole w0)))
def QX {w:Q} {s j:Nat} {ds:Ds} {g:ai} (a:Lq n P E ds.B ds.J ds.D ds.has) (b:Go.SL.Has n ⟨eH ds.has,eH ds.has 0⟩ (gJ T) k) (c:ds.B<=B) (e:ds.D.wait=[]) (h:ah w (dz s j d n P ds.J*(aD S d ds.D*(al S*(whole w0*g))))):ah w (Lr d n P E B T k w0 s*g):=by
 refine ah.aq.2 ⟨(j,S,ds),?_⟩;show ah w (fact (Lq n P E ds.B ds.J ds.D ds.has/\Go.SL.Has n ⟨eH ds.has,eH ds.has 0⟩ (gJ T) k/\ds.B<=B/\ds.D.wait=[])*(dz s j d n P ds.J*(aD S d ds.D*(al S*whole w0)))*g)
 rw [ar];exact ah.ao.2 ⟨⟨a,b,c,e⟩,h.u00⟩
def Fe (hh:iZ w0) (g:LX n P E B J D has T k) (hB:B<=999990) (hE:E<=11) :
  NH 60 #[ax cd] (jy cd d*(aD S d D*(al S*whole w0))) (Lr d n P (E+1) (B+2) T k w0):=by
 intro w j h;refine aK fun d0 o=>?_;have y:=ae (JL w S d n P B E J D has ((jy cd d*j)*whole w0) (h.u00) g.Vw hB g.Ym g.sec g.ep hE fun w' X hx=>hh.nu (hx.t00 ((X*(jy cd d*j))*whole w0)));have k0:w.cell? ⟨cd,0,I⟩=U (ax d):=(h.to (by unfold jy;ac_rfl:_=pt cd (W #[ax d] 27 (0,0))*((aD S d D*(al S*whole w0))*j))).cell 0;have l:=ae g;clear h g
 go_in
 go_wp2_with fail
 apply y.o.mono;rintro e w3 ⟨s,e0,S',J',z,b0,hX,rfl,u,r,i⟩;have h4:ah w3 (Lr d n P (E+1) (B+2) T k w0 s*(jy cd d*j)):=QX (ds:=⟨J',z,b0,B+2⟩) ⟨i.sj,i.ep,i.sec.trans l.o.sec⟩ (OI i.same l.o.has) (G3 _) i.xT (u.u00);have c0:=ae (o.o _ _ ⟨s,rfl,r,(h4.t00 (jy cd d*(Lr d n P (E+1) (B+2) T k w0 s*j))).right⟩);clear y u h4 r o k0 i
 exact Zz c0.o
def Fi (hP:5*n+240<=2*P) (h5:4<=n) (y:n<=3840) (z:Tidy n T):MS 62 #[] (Lr d n P E B T k w0) (ME d n P E hP w0 T k B):=by
 intro s f m w g h;obtain ⟨⟨j,S,ds⟩,i⟩:=ah.aq.1 (h.t00 (Lr d n P E B T k w0 s*(pt f (W #[ax s,.map (U m)] 106 (0,0))*(mp m []*g))));obtain ⟨⟨a,b,c,u⟩,l⟩:=ah.ao.1 (i.to (ar _ _ _));have o:ah w (oO ⟨f,s,j,d,n,P⟩ ds*(pt f (W #[ax s,.map (U m)] 106 (0,0))*(mp m []*(whole w0*g)))):=kY (t:=⟨f,s,j,d,n,P⟩) (s:=ds) (S:=S) (l.u00)
 have h4:ah w (ME d n P E hP w0 T k B s f m*g):=by
  refine ah.aq.2 ⟨(j,ds),?_⟩;show ah w (fact (mx ⟨f,s,j,d,n,P⟩ (Qj n P E hP) ds T k/\ds.B<=B/\ds.D.wait=[])*(eL ⟨f,s,j,d,n,P⟩ ds m []*whole w0)*g)
  rw [ar];exact ah.ao.2 ⟨⟨⟨⟨a,b⟩,z,h5,y⟩,c,u⟩,o.to (by unfold eL il;show oO _ _*(_*(mp m []*_))=(_*(oO _ _*mp m []))*_*_;ac_rfl)⟩
 have r:=ae h4;clear h i l o h4
 go_in
 go_wp2_with fail
 go_end0
 exact ⟨rfl,ak.refl w,r.o⟩
def DU (w:Q) (g:ai) (hh:iZ w0) (i:LX n P E B J D has T k) (y:B<=999990) (z:E<=11) (h:ah w (aD S d D*(al S*(whole w0*g)))) :
  Calls Y 21 #[ax d] w (Ip d n P (E+1) T k (B+2) (fun f=>H #[ax f,Z V 0]) w0 g w):=by
 refine aK fun d0 o=>?_;have e0:=oq Y;have hG:=dN.1 i.Ym;have hP:5*n+240<=2*P:=W'
 have b0:=fun (w1:Q) (cd:Nat) h1=>ow (dv:=d) (w:=w1) (F:=g) (enters func60 Kr0 rfl) (enters func62 Kr0 rfl) (Fe (d:=d) (n:=n) (P:=P) (cd:=cd) (S:=S) hh i y z) (Fi (d:=d) (w0:=w0) hP W' W' i.ty) h1;have l:=h.alloc (W #[ax d] 27 (0,0));have j:=ae ((ak.refl w).alloc (W #[ax d] 27 (0,0)));have k0:=ae (b0 _ _ (l.to (by unfold jy;ac_rfl:_=(jy w.heap.size d*(aD S d D*(al S*whole w0)))*g)));clear b0 l h i hG y z hh
 go_in
 go_wp2_with fail
 apply k0.o.mono;rintro e w2 ⟨s,f,m,rfl,r,u⟩;have c0:=ae (o.o _ _ ⟨hP,s,f,m,rfl,j.o.trans r,u⟩);clear k0 r u o j
 exact Zz c0.o
end
section
variable {d n P E B k:Nat} {w0 w:Q} {S:Hp} {J:Jr} {D:aw} {has:Has} {T:Tr} {K:List Int} {F:ai}
def GC (h:Lq n P E B J D has) (g:D.wait=[]) (r:Go.SL.Has n ⟨eH has,eH has 0⟩ (gJ T) k) (u:Tidy n T) (o:gG n P=A):LX n P E B J (aw.again D K) has T k:=by
 have e:=zC (K:=K) h.sj.jt.inv.calm g;refine ⟨h.sj.Vw.xT g,?_,?_,r,u,o⟩
 .rw [e]
  have i:bq P ({ D with eO:=Z',left:=0,aH:=[] }:aw)=bq P D:=jT fun _ _=>rfl;unfold TZ;rw [i];exact fun p t j l=>Int.le_trans (h.sj.Mj p t j l) h.ep
 .rw [e];exact h.sec
def NO {s s':Ds} {hP:5*n+240<=2*P} (h:Lq n P E s.B s.J s.D s.has) (hw:s.D.wait=[]) (o:s.B<=1000000) (b0:s.Go n A s') (hh:Go.SL.Has n ⟨eH s.has,eH s.has 0⟩ (gJ T) k) (z:Tidy n T) (u:gG n P=A):∃ J has,LX n P E (s.B+1) J (aw.again s'.D []) has T k:=by
 rcases b0 with ⟨h1,⟨r,l⟩,h3,h4⟩|⟨-,r,L,j,g,h3,h4⟩
 .rw [l]
  have:=GC (K:=[]) ⟨h.sj.cr r,h.ep,h.sec⟩ hw hh z u;exact ⟨_,_,this.Vw.more (E4 _),this.ep,this.sec,this.has,z,u⟩
 .have i:=h.sj.cr r
  obtain ⟨e1,-⟩:=i.nS hP o j;rw [e1] at g;have hD:s'.D=kS s.J { s.D with cr:=r } s.has L:=by injection g with _ g;injection g with _ g;exact g.symm
  rw [hD];have y:=OJ s.J { s.D with cr:=r } s.has L;have c0:0<(L++aS s.J s.has L).length:=by rw [List.length_append];have:=j.n0;omega
  refine ⟨_,_,M6 y i hP o j c0 Si0,fun p t h1 l=>Int.le_trans (GY y i hP o j p t h1 l) h.ep,?_,hh,z,u⟩;exact (Bz y i.jt.inv).2.trans h.sec
def VH (d n P E B:Nat) (K:List Int) (T:Tr) (k:Nat) (w0:Q):ai:=ex fun z:Hp × Jr × aw × Has=>fact (z.2.2.1.Ok/\LX n P E B z.2.1 (aw.again z.2.2.1 K) z.2.2.2 T k)*(aD z.1 d z.2.2.1*(al z.1*whole w0))
def Yh (d n P E B:Nat) (T:Tr) (k:Nat) (w0:Q):ai:=ex fun z:Hp × Jr × aw × Has=>fact (z.2.2.1.down=A/\LX n P E B z.2.1 { z.2.2.1 with down:=Z' } z.2.2.2 T k)*(aD z.1 d z.2.2.1*(al z.1*whole w0))
def Yn (d n P E B:Nat) (T:Tr) (k:Nat) (w0:Q):ai:=ex fun z:Hp × Jr × aw × Has=>fact (LX n P E B z.2.1 z.2.2.1 z.2.2.2 T k)*(aD z.1 d z.2.2.1*(al z.1*whole w0))
def PB (g:D.Ok) (i:LX n P E B J (aw.again D K) has T k) (h:ah w (aD S d D*(al S*(whole w0*F)))):ah w (VH d n P E B K T k w0*F):=by
 refine ah.aq.2 ⟨(S,J,D,has),?_⟩;show ah w (fact (D.Ok/\LX n P E B J (aw.again D K) has T k)*(aD S d D*(al S*whole w0))*F)
 rw [ar];exact ah.ao.2 ⟨⟨g,i⟩,h.u00⟩
def Wc (v:V') (X F:ai) (w:Q) (e:Ending) (w':Q):Prop:=e = M v/\ak w w'/\ah w' (X*F)
def Bt (h:ah w (VH d n P E B [] T k w0*F)):Calls Y 19 #[ax d,G I 0 0] w (Wc (H #[]) (Yh d n P E B T k w0) F w):=by
 obtain ⟨⟨S,J,D,has⟩,j⟩:=ah.aq.1 h;obtain ⟨⟨l,o⟩,h4⟩:=ah.ao.1 (j.to (ar _ _ _));have h5:ah w (aD S d D*(al S*(whole w0*F))):=h4.u00;obtain ⟨x,y⟩:=h5.tQ;apply (yK w S d D x [] (G I 0 0) _ y l ⟨I,0,rfl,Y',fun i u=>by simp at u⟩).mono;rintro e w' ⟨rfl,r,g⟩;refine ⟨rfl,g,ah.aq.2 ⟨(S,J,D.fY [],has),?_⟩⟩;show ah w' (fact ((D.fY []).down=A/\LX n P E B J { D.fY [] with down:=Z' } has T k)*(aD S d (D.fY [])*(al S*whole w0))*F)
 rw [ar];exact ah.ao.2 ⟨⟨rfl,o⟩,r.u00⟩
def Da (h:ah w (Yh d n P E B T k w0*F)):Calls Y 20 #[ax d] w (Wc (Z V 0) (Yn d n P E B T k w0) F w):=by
 obtain ⟨⟨S,J,D,has⟩,o⟩:=ah.aq.1 h;obtain ⟨⟨g,r⟩,h4⟩:=ah.ao.1 (o.to (ar _ _ _));have g:D.down=A:=g;apply (Go.Proofs.Nn.ow w S d D (al S*(whole w0*F)) (h4.u00)).mono;rintro e w' ⟨rfl,i,j⟩;have l:aw.start D=(0,{ D with down:=Z' }):=if_pos g;rw [l] at i ⊢;refine ⟨rfl,j,ah.aq.2 ⟨(S,J,{ D with down:=Z' },has),?_⟩⟩;show ah w' (fact (LX n P E B J { D with down:=Z' } has T k)*(aD S d { D with down:=Z' }*(al S*whole w0))*F)
 rw [ar];exact ah.ao.2 ⟨r,i.u00⟩
def DI (o:iZ w0) (j:B<=999990) (l:E<=11) (h:ah w (Yn d n P E B T k w0*F)):Calls Y 21 #[ax d] w (Ip d n P (E+1) T k (B+2) (fun f=>H #[ax f,Z V 0]) w0 F w):=by
 obtain ⟨⟨S,J,D,has⟩,g⟩:=ah.aq.1 h;obtain ⟨i,h4⟩:=ah.ao.1 (g.to (ar _ _ _));exact DU w F o i j l (h4.u00)
end
section
variable {t:Pl} {q:Dk t.n} {s:Ds} {T:Tr} {k m:Nat} {O:po} {w:Q} {F:ai} {fd:Int}
def Lg (y:mx t q s T k) (u:s.B<=1000000) (hy:(aA O fd).isSome=A) (h:ah w (eL t s m O*F)):Calls Y 17 #[ax t.f,Z V fd] w (Ti t q m s T k O F w):=by
 refine aK fun c0 i=>?_;have g:=ae (mS (fd:=fd) (h.to (by unfold eL gN;ac_rfl:_=gN t m O*(oO t s*F))));rw [hy] at g;have z:=ae fun (w1:Q) (h1:ah w1 (eL t s m O*F))=>zU y u h1;clear h y u
 go_in
 go_wp2_with fail
 apply g.o.mono;rintro e w2 ⟨rfl,j,o⟩;have k2:=ae (z.o w2 (o.to (by unfold eL gN;ac_rfl)));clear g o z
 go_wp2_with fail
 apply k2.o.mono;rintro e w3 ⟨rfl,l,r,h4⟩;have b0:=ae (i.o _ _ ⟨rfl,j.trans l,r,h4⟩);clear k2 j l r h4 i
 exact Zz b0.o
end
end Go.Proofs.Cl
namespace Go.SL
open RowKit Proofs.Cl
def QR (a b:List UInt8):str a++str b=str (a++b):=by
 unfold str;apply ByteArray.ext;simp
section
variable {T T':Tr} {d id x k:Nat} {nm:List UInt8} {kd:Int} {L R X:List aM} {f:AF} {p:List UInt8} {ps qs:List (List UInt8)}
def Si:Qh T d id nm kd d=U (.dir (fq (T d)++[⟨id,nm⟩])):=bR _ _ _
def Q2 (h:id≠d):Qh T d id nm kd id=U (nx kd):=(aQ _ _ h).trans (bR _ _ _)
def Q8 (h:x≠d) (g:x≠id):Qh T d id nm kd x=T x:=(aQ _ _ h).trans (aQ _ _ g)
def lW {i:Nat} (h:T x=U (.dir R)) (g:kZ R nm=U i):aV T x [nm]=(0,(R.getD i aM.no).nd):=by
 have e:fg (T x) nm=(0,(R.getD i aM.no).nd):=by rw [h,mw g]
 rw [oz (by rw [e]),e,JK]
def PI {i j:Nat} {g:List UInt8} (h:T x=U (.dir R)) (o:kZ R nm=U i) (l:T (R.getD i aM.no).nd=U (.dir X)) (r:kZ X g=U j):aV T x [nm,g]=(0,(X.getD j aM.no).nd):=by
 have e:fg (T x) nm=(0,(R.getD i aM.no).nd):=by rw [h,mw o]
 rw [oz (by rw [e]),e];exact lW l r
def y7 (i:ps≠[]) (l:aV T 1 ps.dropLast=(0,d)) (g:T d=U (.dir L)) (j:kZ L (cS ps)=I):fM T ps=0:=by
 unfold fM;rw [if_neg i,l,if_neg Si0,g,pZ j];rfl
def ru (g:aV T 1 ps.dropLast=(0,d)):fU T ps=d:=by unfold fU;rw [g]
def uN (g:kZ L nm=I) (j:L.length<3840) (i:cE (L.length+1)<=k+cE L.length):lL k L nm=0:=by
 unfold lL;rw [g,if_neg Y',if_neg W',if_neg W']
def wK (r:aW p=U ps) (o:ps≠[]) (j:aV T 1 ps.dropLast=(0,d)) (g:T d=U (.dir L)) (i:kZ L (cS ps)=I) (l:L.length<3840) (u:1+cE (L.length+1)<=k+cE L.length) (y:0<k):gF T k p=0:=by
 have e:fq (T d)=L:=by rw [g];rfl
 unfold gF;rw [r];simp only;rw [y7 o j g i,if_neg Si0,ru j,e,rO,if_neg (show ¬ 122880<=32*L.length by omega),if_neg Si0,if_neg (show ¬ k=0 by omega)];exact uN i l W'
structure Made (n:Nat) (T T':Tr) (d id:Nat) (nm:List UInt8) (kd:Int) (L:List aM):Prop where
 no:T id=none
 pos:0<id
 lt:id<n
 dir:T' d=some (.dir (L++[⟨id,nm⟩]))
 new:T' id=some (nx kd)
 nu:∀ x,x≠d->x≠id->T' x=T x
def A2 {n k':Nat} {c:Int} (hs:aW p=U ps) (hw:aV T 1 ps.dropLast=(0,d)) (l:T d=U (.dir L)) (h:n7 n T k kd p c T' k') (hc:c=0):(∃ id,Made n T T' d id (cS ps) kd L)/\k'=VG k L:=by
 obtain ⟨-,j⟩:=h;obtain ⟨qs,r,id,o,g,e3,i,u,y,rfl,rfl⟩:=j hc;obtain rfl:ps=qs:=by rw [hs] at o;exact Option.some.inj o
 rw [ru hw] at g ⊢;obtain rfl:L=r:=by rw [l] at g;injection g with g;injection g
 have b0:id≠d:=by rintro rfl;rw [l] at i;cases i
 refine ⟨⟨id,i,u,y,?_,Q2 b0,fun x z j=>Q8 z j⟩,rfl⟩;rw [Si,l];rfl
end
section
variable {T T1 T2 T4 T5:Tr} {a b k k':Nat} {c:Int}
abbrev pD:List UInt8:=[47,100]
abbrev Oz:List UInt8:=[47,100,47,97]
abbrev pB:List UInt8:=[47,98]
abbrev YG:List UInt8:=[47,100,47,101]
abbrev qT:List UInt8:=[104,101,108,108,111]
def mM:aW pD=U [[100]]:=Y'
def nM:aW Oz=U [[100],[97]]:=Y'
def zJ:aW pB=U [[98]]:=Y'
def NA:aW YG=U [[100],[101]]:=Y'
def EJ:aW [47]=U []:=Y'
def CY (a:Nat) (nm:List UInt8):kZ [⟨a,nm⟩] nm=U 0:=by simp [kZ]
structure XB (n:Nat) (T:Tr) (a:Nat):Prop where
 ne:a≠1
 root:T 1=some (.dir [⟨a,[100]⟩])
 da:T a=some (.dir [])
 nu:∀ x,x≠1->x≠a->T x=none
def SK:gF eJ 18 pD=0:=wK mM Si0 (d:=1) (L:=[]) rfl rfl rfl Si0 Y' Y'
def U4 {n:Nat} (h:n7 n eJ 18 2 pD c T1 k') (j:c=0):(∃ a,XB n T1 a)/\k'=16:=by
 obtain ⟨⟨a,m⟩,l⟩:=A2 (d:=1) (L:=[]) mM rfl rfl h j;have ne:a≠1:=by intro e;have:=m.no;rw [e] at this;cases this
 refine ⟨⟨a,ne,m.dir,m.new,fun x g i=>(m.nu x g i).trans (if_neg g)⟩,by rw [l];decide⟩
structure Qf (n:Nat) (T:Tr) (a b:Nat) (R:List aM) (f:AF):Prop where
 a1:a≠1
 b1:b≠1
 ba:b≠a
 root:T 1=some (.dir R)
 da:T a=some (.dir [⟨b,[97]⟩])
 fb:T b=some (.file f)
def SA {n:Nat} (h:XB n T1 a):gF T1 16 Oz=0:=wK nM Si0 (lW h.root (CY a _)) h.da rfl Si0 Y' Y'
def UG {n:Nat} (g:XB n T1 a) (h:n7 n T1 16 1 Oz c T2 k') (i:c=0):(∃ b,Qf n T2 a b [⟨a,[100]⟩] (kO 1))/\k'=14:=by
 obtain ⟨⟨b,m⟩,j⟩:=A2 (d:=a) (L:=[]) nM (lW g.root (CY a _)) g.da h i;have ne:b≠1:=by intro e;have:=m.no;rw [e,g.root] at this;cases this
 have l:b≠a:=by intro e;have:=m.no;rw [e,g.da] at this;cases this
 exact ⟨⟨b,g.ne,ne,l,by rw [m.nu 1 (Ne.symm g.ne) (Ne.symm ne)];exact g.root,m.dir,m.new⟩,by rw [j];decide⟩
def wW {n:Nat} {f:AF} (h:Qf n T a b [⟨a,[100]⟩] f):aV T 1 [[100],[97]]=(0,b):=PI h.root (CY a _) h.da (CY b _)
def yp {n:Nat} {f:AF} (h:Qf n T a b [⟨a,[100]⟩] f):bL T Oz=(0,b):=(eR nM).trans (wW h)
def C8 {n:Nat} {f:AF} (h:Qf n T a b [⟨a,[100]⟩] f):(bL T Oz).1=0/\T (bL T Oz).2=U (.file f):=by rw [yp h];exact ⟨rfl,h.fb⟩
def xH:AF:=(kO 1).wr 0 qT
def SJ:kK 14 0 (kO 1) qT=0:=by decide +kernel
def U2 {n:Nat} (g:Qf n T a b [⟨a,[100]⟩] (kO 1)) (h:ik T 14 b 0 (kO 1) qT c T4 k') (o:c=0):Qf n T4 a b [⟨a,[100]⟩] xH/\k'=13:=by
 obtain ⟨-,l⟩:=h;rcases l o with ⟨e,_⟩|⟨_,i,j⟩
 .cases e
 .rw [i,j]
  refine ⟨⟨g.a1,g.b1,g.ba,(aQ _ _ (Ne.symm g.b1)).trans g.root,(aQ _ _ (Ne.symm g.ba)).trans g.da,bR _ _ _⟩,by decide +kernel⟩
def SY {n:Nat} (h:Qf n T a b [⟨a,[100]⟩] xH):iG T 13 Oz pB=0:=by
 have g:fM T [[98]]=0:=y7 (d:=1) Si0 rfl h.root (by simp [kZ,cS]);unfold iG;rw [nM,zJ];simp only;rw [wW h,if_neg Si0,h.fb];simp only;rw [g,if_neg Si0,if_neg Y',ru (d:=1) rfl,h.root];exact uN (by simp [kZ,cS,fq]) (by simp [fq]) (by simp [fq];decide)
def Gx:AF:={ xH with lk:=2 }
def Um {n:Nat} (h4:Qf n T4 a b [⟨a,[100]⟩] xH) (h:Cq T4 13 Oz pB c T5 k') (u:c=0):Qf n T5 a b [⟨a,[100]⟩,⟨b,[98]⟩] Gx/\k'=13:=by
 obtain ⟨-,r⟩:=h;obtain ⟨ps,qs,id,f,L,l,o,j,g,i,y,rfl,rfl⟩:=r u;obtain rfl:=Option.some.inj (nM.symm.trans l);obtain rfl:=Option.some.inj (zJ.symm.trans o);rw [wW h4] at j;obtain rfl:b=id:=(Prod.mk.inj j).2;rw [ru (d:=1) rfl,h4.root] at i;obtain rfl:[⟨a,[100]⟩]=L:=by injection i with i;injection i
 obtain rfl:xH=f:=by rw [h4.fb] at g;injection g with g;injection g
 rw [ru (d:=1) rfl];refine ⟨⟨h4.a1,h4.b1,h4.ba,(aQ _ _ (Ne.symm h4.b1)).trans (bR _ _ _),?_,bR _ _ _⟩,(show 13+cE 1-cE 2=13 by decide)⟩;exact (aQ _ _ (Ne.symm h4.ba)).trans ((aQ _ _ h4.a1).trans h4.da)
section
variable {n:Nat} (h:Qf n T a b [⟨a,[100]⟩,⟨b,[98]⟩] Gx)
include h
def Oh:bL T pB=(0,b):=(eR zJ).trans (lW (i:=1) h.root (by simp [kZ,List.findIdx?_cons]))
def WN:bL T pD=(0,a):=(eR mM).trans (lW (i:=0) h.root (by simp [kZ,List.findIdx?_cons]))
def vq:(bL T pB).1=0/\qM (T (bL T pB).2)=(1,2,5):=by
 rw [Oh h];dsimp only;rw [h.fb];exact ⟨rfl,rfl⟩
def zj:iE T pB 1 3=0:=by
 unfold iE;rw [if_pos Y',Oh h,if_neg Si0,h.fb]
def PD:nY T pB 1 3=[101,108,108]:=by
 unfold nY;rw [Oh h];dsimp only;rw [h.fb];decide
def uP:nv T [47]=0/\fq (T (bL T [47]).2)=[⟨a,[100]⟩,⟨b,[98]⟩]:=by
 have e:bL T [47]=(0,1):=eR EJ;unfold nv;rw [e];dsimp only;rw [if_neg Si0,h.root];exact ⟨rfl,rfl⟩
omit h in
def KC {j:List aM} (r:j.Perm [⟨a,[100]⟩,⟨b,[98]⟩]) (z:kP Cr j):j.map aM.nm=[[98],[100]]:=by
 have u:=r.length_eq
 match j,u with
 | [x,y],_=>
  have l:=r.map aM.nm;simp only [E3,List.map_nil] at l ⊢
  have o:x.nm≠y.nm:=by
   have:=l.nodup_iff.2 (by decide:[([100]:List UInt8),[98]].Nodup);simpa using this
  have hx:x.nm=[100]\/x.nm=[98]:=by simpa using l.mem_iff.1 (List.mem_cons_self (a:=x.nm) (l:=[y.nm]))
  have hy:y.nm=[100]\/y.nm=[98]:=by simpa using l.mem_iff.1 (show y.nm ∈ [x.nm,y.nm] by simp)
  rcases hx with g|g <;> rcases hy with i|i
  .exact absurd (g.trans i.symm) o
  .have:=(List.pairwise_cons.1 z).1 y Si0
   unfold Cr at this;rw [g,i] at this;exact absurd this Y'
  .rw [g,i]
  .exact absurd (g.trans i.symm) o
end
end
end Go.SL
namespace Go.Proofs.Cl
open RowKit SL Proofs.Nn Proofs.Ba Proofs.Su Proofs.Fs
attribute [local go_sem] Oper.semAt_some
section
variable {n:Nat} {x:Fx n} {b v pc qc fc k id:Nat} {T:Tr} {w:Q} {F:ai} {p p1 p2:List UInt8} {ps qs:List (List UInt8)} {L:List aM} {c:Int}
def FK {X g:ai} {e:Ending} {w':Q} (i:c≠0) (j:e = .panicked (pF c)) (d:ak w w') (h:ah w' g):Qd c X g w e w':=⟨d,.inr ⟨i,j,h⟩⟩
def Ce {X:ai} (z:Tidy n T) (j:aW p=U ps) (i:aV T 1 ps=(0,id)) (hy:T id=U (.dir L)) (h:ah w (vA x b v T k*(aB pc p*F))) :
  Calls Y 73 #[ax v,ax pc,ax fc] w (Qd 8 X (vA x b v T k*(aB pc p*F)) w):=by
 refine aK fun f0 HQ=>?_;have cp:w.cell? ⟨pc,0,I⟩=U (N (str p)):=h.aj.cell 0;have l:=ae h;obtain ⟨e0,y⟩:=dG j;have u:=ae (ei (w:=w) j);have HT:=ae z;have HL:=ae y;have HW:=ae i;have HY:=ae hy;clear h z j e0 y i hy
 go_in
 go_wp2_with fail
 apply u.o.mono;rintro e w2 ⟨b0,rfl,d2,r⟩;have g:=(r.under l.o).t00 (vA x b v T k*(fu b0 ps*(aB pc p*F)));have i:=gq HT.o HL.o jr g;rw [HW.o] at i;have o:=ae i;clear cp u r g l i
 go_wp2_with fail
 apply o.o.mono;rintro e w3 ⟨⟨-,rfl⟩|⟨hc,-⟩,d3,g⟩
 .have c0:=ae (oA HY.o g)
  obtain ⟨ua,uc,rfl⟩:=eZ (g.t00 (fu b0 ps*(vA x b v T k*(aB pc p*F))));clear g o
  go_wp2_with fail
  apply c0.o.mono;rintro e w7 (⟨d0,_⟩|⟨-,rfl,d7,h7⟩)
  .exact absurd d0 (by show ¬ (2:Int)=1;decide)
  .exact ⟨rfl,HQ.o _ _ (FK Y' rfl ((d2.trans d3).trans d7) (h7.to (aE _ _ _)).right)⟩
 .exact absurd rfl hc
def CC {X:ai} (ht:Tidy n T) (y:aW p=U ps) (i0:ps≠[]) (j:aV T 1 ps=(0,id)) (hy:T id=U (.dir L)) (hL:L≠[]) (h:ah w (vA x b v T k*(aB pc p*F))) :
  Calls Y 77 #[ax v,ax pc] w (Qd 11 X (vA x b v T k*(aB pc p*F)) w):=by
 refine aK fun x0 HQ=>?_;have cp:w.cell? ⟨pc,0,I⟩=U (N (str p)):=h.aj.cell 0;have b0:=ae h;obtain ⟨s0,hl⟩:=dG y;have hk:=ae (ei (w:=w) y);have r:¬ (ps.length:Int)=0:=by have:=List.length_pos_iff.2 i0;omega
 have u:(0:Int)<((iJ 1 L).sz:Int):=by have:=List.length_pos_iff.2 hL;show (0:Int)<((32*L.length:Nat):Int);omega
 have HT:=ae ht;have HL:=ae hl;have HW:=ae j;have HY:=ae hy;have c0:=ae r;have d0:=ae u;clear h ht y s0 hl j hy i0 hL r u
 go_in
 go_wp2_with fail
 apply hk.o.mono;rintro e w2 ⟨l0,rfl,d2,h2⟩;have i:=(h2.under b0.o).t00 (vA x b v T k*(fu l0 ps*(aB pc p*F)));have j:=gq HT.o HL.o jr i;rw [HW.o] at j;have Hw:=ae j;clear cp hk h2 i b0 j
 go_wp2_with fail
 apply Hw.o.mono;rintro e w3 ⟨⟨-,rfl⟩|⟨hc,-⟩,d3,i⟩
 .have h0:=ae (mq HY.o i)
  obtain ⟨ua,uc,rfl⟩:=eZ (i.t00 (fu l0 ps*(vA x b v T k*(aB pc p*F))));clear i Hw
  go_wp2_with fail
  apply h0.o.mono;rintro e g ⟨z,rfl,m0,o0,u0,p0,d7,h7⟩;obtain ⟨hX,k0,g0⟩:=qC m0;have o:=h7.alloc (W pE 75 (0,0));have Hz:=ae o.heap;have l:=o.setRow (cs':=ints z.l);have n0:((g.alloc (W pE 75 (0,0))).setRow g.heap.size (ints z.l)).cell? ⟨g.heap.size,0,I⟩=U (Z V 2):=by rw [show (2:Int)=z.kd from o0.symm];exact l.cell 0
  have n2:((g.alloc (W pE 75 (0,0))).setRow g.heap.size (ints z.l)).cell? ⟨g.heap.size,2,I⟩=U (Z V ((iJ 1 L).sz:Int)):=by rw [show ((iJ 1 L).sz:Int)=z.sz from p0.symm];exact l.cell 2
  have HE:=ae (l.t00 ((fu (G ua ps.length uc) ps*pt g.heap.size (W (ints z.l) 75 (0,0)))*(vA x b v T k*(aB pc p*F)))).right;have D7:=ae ((((d2.trans d3).trans d7).alloc (W pE 75 (0,0))).setRow g.heap.size (ints z.l));have f0:=ae k0;have e0:=ae g0;have HX:=ae hX;have N0:=ae n0;have N2:=ae n2;clear h0 o l hX k0 g0 n0 n2 d7 h7 m0 o0 u0 p0;unfold pE at *
  go_upto_region 3 with (refine wpList_store_row (by exact rfl) 75 (.tmp 5) (.tmp 13) (by exact rfl) g.heap.size (ints z.l) (by exact rfl) (by exact rfl) 75 _ (by with_reducible exact Hz.o) e0.o (by rw [HX.o];rfl) f0.o ?_)
  have n0:=N0.o;have n2:=N2.o;have r:=c0.o;have u:=d0.o;have q0:=ae fun w=>eo w 11 Y';have r0:=ae (HQ.o _ _ (FK (X:=X) (c:=11) Y' rfl D7.o HE.o));clear Hz f0 e0 HX N0 N2 c0 d0 D7 HE;generalize ((iJ 1 L).sz:Int)=sz at *;generalize ps.length=ln at *
  go_wp2_with fail
  apply (q0.o _).mono;rintro e w9 ⟨rfl,rfl⟩;exact ⟨rfl,r0.o⟩
 .exact absurd rfl hc
def Ae {X:ai} (ht:Tidy n T) (y:aW p1=U ps) (z:aW p2=U qs) (u:ps≠[]) (j:aV T 1 ps=(0,id)) (hy:T id=U (.dir L)) (hb:nF ps qs=A) (h:ah w (vA x b v T k*(aB pc p1*(aB qc p2*F)))) :
  Calls Y 78 #[ax v,ax pc,ax qc] w (Qd 11 X (vA x b v T k*(aB pc p1*(aB qc p2*F))) w):=by
 refine aK fun F0 HQ=>?_;have k0:w.cell? ⟨pc,0,I⟩=U (N (str p1))/\w.cell? ⟨qc,0,I⟩=U (N (str p2)):=⟨h.aj.cell 0,h.au.cell 0⟩
 have b0:=ae h;obtain ⟨r0,hl⟩:=dG y;obtain ⟨s0,f0⟩:=dG z;have hk:=ae (ei (w:=w.drew) y);have e0:=ae fun w'=>ei (w:=w') z;have o:¬ (ps.length:Int)=0:=by have:=List.length_pos_iff.2 u;omega
 have HT:=ae ht;have HL:=ae hl;have l0:=ae f0;have HW:=ae j;have HY:=ae hy;have c0:=ae o;have m0:=ae u;have HB:=ae hb;clear h ht y z r0 s0 hl f0 j hy u o hb
 go_in
 go_wp2_with fail
 go_region_held3 (fun w'=>w'.cell? ⟨pc,0,I⟩=U (N (str p1))/\w'.cell? ⟨qc,0,I⟩=U (N (str p2)))
  (first|exact k0|exact k1|exact k2|go_keep)
  (first
   | (go_at_call 43;(with_reducible apply (e0.o _).mono);rintro e w5 ⟨u2,rfl,d5,l⟩;have g:=l.under h5;have k2:w5.cell? ⟨pc,0,I⟩=U (N (str p1))/\w5.cell? ⟨qc,0,I⟩=U (N (str p2)):=⟨g.aC.cell 0,g.aI.cell 0⟩)
   | (go_at_call 43;(with_reducible apply hk.o.mono);rintro e w4 ⟨u0,rfl,d4,h4⟩;have h5:=h4.under b0.o.drew;have k1:w4.cell? ⟨pc,0,I⟩=U (N (str p1))/\w4.cell? ⟨qc,0,I⟩=U (N (str p2)):=⟨h5.au.cell 0,h5.aC.cell 0⟩))
 rename_i n0;have i:=g.t00 (vA x b v T k*(fu u0 ps*(fu u2 qs*(aB pc p1*(aB qc p2*F)))));obtain ⟨ua,uc,rfl⟩:=eZ i.aj;obtain ⟨va,vc,rfl⟩:=eZ i.au;have j:=gq HT.o HL.o jr i;rw [HW.o] at j;have Hw:=ae j;have D5:=ae (((ak.refl w).drew.trans d4).trans d5);have o:=c0.o;clear n0 k0 k1 k2 h4 h5 l g i d4 d5 hk e0 b0 j c0
 go_wp2_with fail
 apply Hw.o.mono;rintro e w6 ⟨⟨-,rfl⟩|⟨hc,-⟩,d6,l⟩
 .have g:=l.t00 (fu (G ua ps.length uc) ps*(fu (G va qs.length vc) qs*(vA x b v T k*(aB pc p1*(aB qc p2*F)))))
  have r:=Lo m0.o HL.o l0.o g;rw [HB.o] at r;have d0:=ae r;have ND:=ae fun (w':Q) (h':ah w' (vA x b v T k*(fu (G ua ps.length uc) ps*(fu (G va qs.length vc) qs*(aB pc p1*(aB qc p2*F))))))=>mq HY.o h';have D6:=ae (D5.o.trans d6);clear l g r Hw d6 D5 o
  go_wp2_with fail
  apply d0.o.mono;rintro e w8 ⟨rfl,d8,i⟩;have hn:=ae (ND.o w8 (i.u00));have D8:=ae (D6.o.trans d8);clear d0 i d8 ND D6
  go_wp2_with fail
  apply hn.o.mono;rintro e w9 ⟨i0,rfl,g0,h0,x0,D0,d9,h9⟩;obtain ⟨q0,-,-⟩:=BI g0 w9;rw [show i0.kd=2 from h0] at q0;have o0:=ae (HQ.o _ _ (FK (X:=X) (c:=11) Y' rfl (D8.o.trans d9) (h9.t00 ((fu (G ua ps.length uc) ps*fu (G va qs.length vc) qs)*(vA x b v T k*(aB pc p1*(aB qc p2*F))))).right));have p0:=ae fun w=>eo w 11 Y';generalize ints i0.l=yl at *;clear hn g0 h0 x0 D0 d9 h9 D8
  go_wp2_with fail
  apply (p0.o _).mono;rintro e G0 ⟨rfl,rfl⟩;exact ⟨rfl,o0.o⟩
 .exact absurd rfl hc
end
section
variable {t:Pl} {q:Dk t.n} {s:Ds} {T:Tr} {k m B id:Nat} {O:po} {w:Q} {F:ai} {p p1 p2:List UInt8} {ps qs:List (List UInt8)} {L:List aM}
def refused {c:Int} {fs:ai} {g:Q} {j:ai} {v:V'} {f:FuncId} (u:c≠0) (y:mx t q s T k) (r:s.B<=B)
  (h:Calls Y f #[ax t.f,v] g fun e w'=>∃ i,e = M (Z V c)/\ak g w'/\s.Rd i/\ah w' (eL t i m O*((if c=0 then emp else j)*F))) :
  Calls Y f #[ax t.f,v] g fun e w'=>e = M (Z V c)/\ak g w'/\ah w' (j*(ns t q m T k B O*F)):=by
 apply h.mono;rintro e w' ⟨i,rfl,d,o,l⟩;rw [if_neg u] at l;exact ⟨rfl,d,(gy (y.rd o) (by rw [o.B];exact r) l).to (aE _ _ _)⟩
def Ly (hB:B<=1000000) (z:aW p=U ps) (hw:aV T 1 ps=(0,id)) (hy:T id=U (.dir L)) (h:ah w (ns t q m T k B O*F)) :
  Calls Y 30 #[ax t.f,N (str p)] w (IB (ns t q m T k B O) (Z V 8) F w):=by
 refine aK fun e0 l=>?_;obtain ⟨s,i,g,u⟩:=iO h;have j:=(u.alloc (W #[ax t.f] 28 (0,0))).alloc (W #[N (str p)] 9 (0,0));simp only [B3] at j;have r:=ae (((ak.refl w).alloc (W #[ax t.f] 28 (0,0))).alloc (W #[N (str p)] 9 (0,0)))
 have y:=ae (refused (c:=8) (B:=B) (fs:=emp) Y' i g (mW i W' 73 #[ax (w.heap.size+1),ax w.heap.size] (aB (w.heap.size+1) p) 8 emp (aB (w.heap.size+1) p) (enters func73 Kr0 rfl)
  (fun x v b w1 d0 c0=>Ce i.ty z hw hy c0) ((j.to (by unfold aB;ac_rfl:_=pt w.heap.size (W #[ax t.f] 28 (0,0))*(eL t s m O*(aB (w.heap.size+1) p*F)))).right)))
 clear h j i g u z hw hy hB
 go_in
 go_wp2_with fail
 apply y.o.mono;rintro e w2 ⟨rfl,o,g⟩;have b0:=ae (l.o _ _ ⟨rfl,r.o.trans o,g.right⟩);clear y r o g l
 exact Zz b0.o
def IS (hB:B<=1000000) (hs:aW p=U ps) (b0:ps≠[]) (hw:aV T 1 ps=(0,id)) (hy:T id=U (.dir L)) (y:L≠[]) (h:ah w (ns t q m T k B O*F)) :
  Calls Y 31 #[ax t.f,N (str p)] w (IB (ns t q m T k B O) (Z V 11) F w):=by
 refine aK fun f0 j=>?_;obtain ⟨s,i,g,r⟩:=iO h;have u:=r.alloc (W #[N (str p)] 9 (0,0));have o:=ae ((ak.refl w).alloc (W #[N (str p)] 9 (0,0)))
 have z:=ae (refused (c:=11) (B:=B) (fs:=emp) Y' i g (mW i W' 77 #[ax w.heap.size] (aB w.heap.size p) 11 emp (aB w.heap.size p) (enters func77 Kr0 rfl)
  (fun x v b w1 e0 d0=>CC i.ty hs b0 hw hy y d0) (u.to (aE _ _ _))))
 clear h u i g r hs hw hy hB b0 y
 go_in
 go_wp2_with fail
 apply z.o.mono;rintro e w2 ⟨rfl,l,g⟩;have c0:=ae (j.o _ _ ⟨rfl,o.o.trans l,g.right⟩);clear z o l g j
 exact Zz c0.o
def Ec (hB:B<=1000000) (hs:aW p1=U ps) (c0:aW p2=U qs) (b0:ps≠[]) (hw:aV T 1 ps=(0,id)) (hy:T id=U (.dir L)) (y:nF ps qs=A) (h:ah w (ns t q m T k B O*F)) :
  Calls Y 32 #[ax t.f,N (str p1),N (str p2)] w (IB (ns t q m T k B O) (Z V 11) F w):=by
 refine aK fun g0 l=>?_;obtain ⟨s,i,g,u⟩:=iO h;have j:=(u.alloc (W #[N (str p1)] 9 (0,0))).alloc (W #[N (str p2)] 9 (0,0));simp only [B3] at j;have r:=ae (((ak.refl w).alloc (W #[N (str p1)] 9 (0,0))).alloc (W #[N (str p2)] 9 (0,0)))
 have z:=ae (refused (c:=11) (B:=B) (fs:=emp) Y' i g (mW (O:=O) (m:=m) i W' 78 #[ax w.heap.size,ax (w.heap.size+1)] (aB w.heap.size p1*aB (w.heap.size+1) p2) 11 emp (aB w.heap.size p1*aB (w.heap.size+1) p2) (enters func78 Kr0 rfl)
  (fun x v b w1 d0 f0=>(Ae (x:=x) (b:=b) (v:=v) (k:=k) (F:=gN t m O*d0) i.ty hs c0 b0 hw hy y (f0.u00)).mono fun e w' hq=>by simpa only [ar] using hq) (j.to (by unfold aB;ac_rfl))))
 clear h j i g u hs hw hy hB b0 y c0
 go_in
 go_wp2_with fail
 apply z.o.mono;rintro e w2 ⟨rfl,o,g⟩;have e0:=ae (l.o _ _ ⟨rfl,r.o.trans o,g.right⟩);clear z r o g l
 exact Zz e0.o
end
end Go.Proofs.Cl
namespace Go.Proofs.Cl
open RowKit SL Proofs.Nn Proofs.Ba Proofs.Su Proofs.Fs
def IV {n:Nat} {t:Pl} {q:Dk t.n} {m k B:Nat} {T:Tr} {p:List UInt8} {f:AF} {F:ai} {w w':Q} {e:Ending} (h:Tn t q m T k B [] p F w e w') (i:(bL T p).1=0) (j:T (bL T p).2=U (.file f)) :
  e = M (H #[Z V 0,Z V 0])/\ak w w'/\ah w' (ns t q m T k B [(0,((bL T p).2,0))]*F):=by
 have l:gI T [] p=0:=by unfold gI;rw [i,if_neg Si0,j];rfl
 obtain ⟨d,⟨g,_⟩|⟨_,fd,a1,o,rfl,h4⟩⟩:=h
 .exact absurd l g
 .have:fd=0:=by
   rcases Nat.eq_zero_or_pos fd with h|h
   .exact h
   .exact absurd (a1 0 h) (by simp [aA])
  subst this;exact ⟨rfl,d,h4⟩
def EB.ok {t:Pl} {q:Dk t.n} {m k B:Nat} {T:Tr} {O:po} {fd:Int} {o:Nat × Nat} {R:Int->Tr->Nat->Prop} {F:ai} {w w':Q} {e:Ending} (h:EB t q m T k B O fd o R F w e w') (j:∀ c T' k',R c T' k'->c=0) :
  ∃ T' k',R 0 T' k'/\e = M (Z V 0)/\ak w w'/\ah w' (ns t q m T' k' (B+1) (lX O fd o)*F):=by
 obtain ⟨d,c,rfl,⟨l,⟨T',k',g⟩,_⟩|⟨rfl,T',k',g,i⟩⟩:=h
 .exact absurd (j _ _ _ g) l
 .exact ⟨T',k',g,rfl,d,i⟩
def B9 (w:Q) (v:V') (l:List UInt8) (h:Rd w v l):(convert 23 9 v).run Y w = .ok (N (str l)) w:=pj w v l h
def Bg (w:Q) (hh:iZ w):Calls Y 6 #[] w (Vq w):=by
 have l0:=NI w hh 20 Y' Y';rw [show ((20:Nat):Int)=20 from rfl] at l0;clear hh
 go_in
 go_wp2_with fail
 apply l0.mono;rintro e w1 ⟨d,t,q,m,hn,-,rfl,d1,h1⟩;have h1:ah w1 (ns t q m eJ 18 3 []*whole w):=h1;have Hn:=ae hn;have D1:=ae d1
 have k1:Calls Y 27 #[ax t.f,.string ⟨#[47,100]⟩] w1 _:=QQ (p:=pD) Y' SK h1;clear l0 h1 hn d1
 go_wp2_with fail
 apply k1.mono;rintro e w2 g;obtain ⟨T1,n1,j,rfl,d2,h2⟩:=g.ok fun c T' k' r=>r.1.trans SK;obtain ⟨⟨a,g0⟩,rfl⟩:=U4 j rfl;have D2:=ae (D1.o.trans d2);have k2:Calls Y 15 #[ax t.f,.string ⟨#[47,100,47,97]⟩] w2 _:=NF (p:=Oz) Y' (SA g0) h2;have d0:=ae g0;clear k1 g j d2 h2 D1 g0
 go_wp2_with fail
 apply k2.mono;rintro e w3 g;obtain ⟨T2,n2,j,rfl,d3,h3⟩:=g.ok fun c T' k' r=>r.1.trans (SA d0.o);obtain ⟨⟨b,T0⟩,rfl⟩:=UG d0.o j rfl;have D3:=ae (D2.o.trans d3);have k3:Calls Y 16 #[ax t.f,.string ⟨#[47,100,47,97]⟩] w3 _:=Vk (p:=Oz) Y' Y' h3;have y:=ae T0;clear k2 g j d3 h3 D2 d0 T0
 go_wp2_with fail
 apply k3.mono;rintro e l g;obtain ⟨rfl,d4,h4⟩:=IV (n:=t.n) g (C8 y.o).1 (C8 y.o).2;rw [yp y.o] at h4;have D4:=ae ((D3.o.trans d4).alloc (W #[Z C 104,Z C 101,Z C 108,Z C 108,Z C 111] 5 (5,6)));have H0:ah (l.alloc (W #[Z C 104,Z C 101,Z C 108,Z C 108,Z C 111] 5 (5,6))) (pt l.heap.size (W (dP qT) 5 (5,6))*(ns t q m T2 14 5 [(0,(b,0))]*whole w)):=h4.alloc (W #[Z C 104,Z C 101,Z C 108,Z C 108,Z C 111] 5 (5,6));have H4:=H0.to (aE _ _ _);have k5:=QC (va:=U ⟨l.heap.size,0,I⟩) (vc:=qT.length) (l:=qT) (fd:=0) (id:=b) (at':=0) (f:=kO 1) (D:=pt l.heap.size (W (dP qT) 5 (5,6))) (F:=whole w) (B:=5) Y' SJ rfl y.o.fb Y' Y' (G3 _) (fun Z0 P hs=>uT hs.heap) H4;rw [show qT.length=5 from rfl] at k5;have K5:=ae k5;have f1:(convert 23 23 (G (U ⟨l.heap.size,0,I⟩) 5 5)).run Y (l.alloc (W #[Z C 104,Z C 101,Z C 108,Z C 108,Z C 111] 5 (0,0))) = .ok (G (U ⟨l.heap.size,0,I⟩) 5 5) (l.alloc (W #[Z C 104,Z C 101,Z C 108,Z C 108,Z C 111] 5 (5,6))):=Go.Lib.run_convert_bytes_const (P:=Y) l 23 5 #[Z C 104,Z C 101,Z C 108,Z C 108,Z C 111] 5 5 underlying23 underlying5;clear k3 g d4 h4 D3 k5 H0 H4
 go_wp2_with fail
 apply K5.o.mono;rintro e w5 g;obtain ⟨T4,n4,j,rfl,d5,h5⟩:=g.ok fun c T' k' r=>r.1.trans SJ;obtain ⟨i0,rfl⟩:=U2 y.o j rfl;have D5:=ae (D4.o.trans d5);have L0:ah w5 (ns t q m T4 13 6 [(0,(b,5))]*(pt l.heap.size (W (dP qT) 5 (5,6))*whole w)):=h5;have K0:=(L0.to (aE _ _ _)).right;have k6:Calls Y 29 #[ax t.f,.string ⟨#[47,100,47,97]⟩,.string ⟨#[47,98]⟩] w5 _:=UI (p1:=Oz) (p2:=pB) Y' (SY i0) K0;have e0:=ae i0;clear f1 K5 g j d5 h5 L0 K0 D4 y i0
 go_wp2_with fail
 apply k6.mono;rintro e w6 g;obtain ⟨T5,n5,j,rfl,d6,h6⟩:=g.ok fun c T' k' r=>r.1.trans (SY e0.o);obtain ⟨b0,rfl⟩:=Um e0.o j rfl;have D6:=ae (D5.o.trans d6)
 have k7:Calls Y 9 #[ax t.f,.string ⟨#[47,98]⟩] w6 (IB (ns t q m T5 13 7 [(0,(b,5))]) (H #[.agg #[Z V 1,Z V 2,Z V 5],Z V 0]) (whole w) w6):=by
  have:=Vh (p:=pB) Y' h6;rw [if_pos (vq b0).1,(vq b0).2,(vq b0).1] at this;exact this
 have i:=ae b0;clear k6 g j d6 h6 D5 e0 b0
 go_wp2_with fail
 apply k7.mono;rintro e z ⟨rfl,d7,h7⟩;have D7:=ae ((D6.o.trans d7).alloc (W #[Z V 1,Z V 2,Z V 5] 34 (0,0)));have N0:=(h7.alloc (W #[Z V 1,Z V 2,Z V 5] 34 (0,0))).t00 (ns t q m T5 13 7 [(0,(b,5))]*(pt z.heap.size (W #[Z V 1,Z V 2,Z V 5] 34 (0,0))*whole w))
 have k8:Calls Y 11 #[ax t.f,.string ⟨#[47,98]⟩,Z V 1,Z V 3] (z.alloc (W #[Z V 1,Z V 2,Z V 5] 34 (0,0))) (Xk 0 [101,108,108] (ns t q m T5 13 7 [(0,(b,5))]) (ns t q m T5 13 7 [(0,(b,5))]) (pt z.heap.size (W #[Z V 1,Z V 2,Z V 5] 34 (0,0))*whole w) (z.alloc (W #[Z V 1,Z V 2,Z V 5] 34 (0,0)))):=by
  have:=U9 (p:=pB) (a:=1) (c:=3) Y' (zj i.o) N0;rw [zj i.o,PD i.o] at this;exact this
 have K8:=ae k8;clear k7 d7 h7 N0 D6 k8
 go_wp2_with fail
 apply K8.o.mono;clear K8;generalize (z.alloc (W #[Z V 1,Z V 2,Z V 5] 34 (0,0)))=u1 at *;generalize z.heap.size=sc at *;rintro e w8 ⟨d8,⟨h0,_⟩|⟨_,q1,rfl,h8⟩⟩
 .exact absurd rfl h0
 obtain ⟨ua,uc,rfl⟩:=h8.mI.shape;have D8:=ae (D7.o.trans d8);have R0:=h8.to (aE _ _ _);have k9:=JW (p:=[47]) Y' (uP i.o).1 (by rw [(uP i.o).2];exact (show 2<=DJ by decide)) R0;rw [(uP i.o).1,(uP i.o).2] at k9;have K9:=ae k9;clear d8 h8 R0 D7 k9 h1
 go_wp2_with fail
 apply K9.o.mono;clear K9;rintro e w9 ⟨d9,⟨h0,_⟩|⟨_,u2,Z0,hp,hs,rfl,h9⟩⟩
 .exact absurd rfl h0
 rw [KC hp hs] at h9;obtain ⟨lg,lc,rfl,V0,g1,i1⟩:=r9 Si0 h9;have D9:=ae (D8.o.trans d9);have S0:=h9.to (aE _ _ _);have m0:aV T5 1 [[100]]=(0,a):=(eR mM).symm.trans (WN i.o);have f0:=ae m0;have p0:=ae (Ly Y' mM m0 i.o.da S0);clear d9 h9 S0 D8 hp hs i1 m0
 go_wp2_with fail
 apply p0.o.mono;clear p0;rintro e r1 ⟨rfl,u0,F0⟩;have n0:=ae (D9.o.trans u0);have q0:=ae (IS Y' mM Si0 f0.o i.o.da Si0 F0);clear u0 F0 D9
 go_wp2_with fail
 apply q0.o.mono;clear q0;rintro e t1 ⟨rfl,x0,G0⟩;have o0:=ae (n0.o.trans x0);have r0:=ae (Ec Y' mM NA Si0 f0.o i.o.da Y' G0);clear x0 G0 n0 f0
 go_wp2_with fail
 apply r0.o.mono;clear r0;rintro e u ⟨rfl,D0,o⟩;have W0:=ae (o0.o.trans D0);have s0:u.cell? ⟨sc,0,I⟩=U (Z V 1):=o.aC.cell 0;have s1:u.cell? ⟨sc,1,I⟩=U (Z V 2):=o.aC.cell 1;have s2:u.cell? ⟨sc,2,I⟩=U (Z V 5):=o.aC.cell 2;have cx:(convert 23 9 (G ua 3 uc)).run Y u = .ok (.string ⟨#[101,108,108]⟩) u:=B9 _ _ _ o.au.mI;obtain ⟨o1,m1,e1,-,-,k0⟩:=r9 Si0 o.aj;simp only [Value.slice.injEq,Option.some.injEq,Addr.mk.injEq] at e1;obtain ⟨⟨rfl,-⟩,-,rfl⟩:=e1;have c0:u.cell? ⟨lg,0,I⟩=U (.string ⟨#[98]⟩):=k0 0 Si0;have c1:u.cell? ⟨lg,1,I⟩=U (.string ⟨#[100]⟩):=k0 1 Si0;have Y0:=ae o;have j1:(2:Int)<=(lc:Int):=by simp at V0;omega
 have l1:(lc:Int)<=9223372036854775807:=W'
 clear D0 o o0 k0 V0 g1
 go_wp2_with fail
 go_ret
 exact ⟨rfl,Y0.o.right.right.right.right,W0.o⟩
end Go.Proofs.Cl
namespace Go.SL
open RowKit Proofs.Nn Proofs.Ba Proofs.Cl
section
variable {T T1:Tr} {a b k k':Nat} {c:Int} {nm p:List UInt8}
structure One (n:Nat) (T:Tr) (b:Nat) (nm:List UInt8) (f:AF):Prop where
 b1:b≠1
 root:T 1=some (.dir [⟨b,nm⟩])
 b:T b=some (.file f)
def VE {k:Nat} (g:aW p=U [nm]) (i:2<=k):gF eJ k p=0:=wK g Si0 (d:=1) (L:=[]) rfl rfl rfl Si0 (by show 1+cE 1<=k+cE 0;unfold cE;simp;omega) W'
def TE {n k:Nat} (j:aW p=U [nm]) (h:n7 n eJ k 1 p c T1 k') (g:c=0):(∃ b,One n T1 b nm (kO 1))/\k'=k-2:=by
 obtain ⟨⟨b,m⟩,i⟩:=A2 (d:=1) (L:=[]) j rfl rfl h g;have ne:b≠1:=by intro e;have:=m.no;rw [e] at this;cases this
 refine ⟨⟨b,ne,m.dir,m.new⟩,by rw [i];show k-1+cE 0-cE 1=_;unfold cE;simp;omega⟩
def B6 {n:Nat} {f:AF} (g:aW p=U [nm]) (h:One n T b nm f):bL T p=(0,b):=(eR g).trans (lW h.root (CY b _))
def Kv {n:Nat} {f:AF} (g:aW p=U [nm]) (h:One n T b nm f) (O:List (Int × (Nat × Nat))):Go.Proofs.Cl.gI T O p=if 16<=O.length then 9 else 0:=by
 unfold Go.Proofs.Cl.gI;rw [B6 g h,if_neg Si0,h.b]
end
end Go.SL
namespace Go.Proofs.Cl
open RowKit SL Proofs.Nn Proofs.Ba Proofs.Su Proofs.Fs
def VI (w:Q) (e:Ending) (w':Q):Prop:=e = M (.bool A)/\ah w' (whole w)/\ak w w'
end Go.Proofs.Cl
namespace Go.SL
open RowKit
def lU (u:Nat):List UInt8:=[E5 u]
def pU (u:Nat):List UInt8:=[47,E5 u]
def MM {z:Int} {v:Nat} (hv:v<256) (g:z=(v:Int)):(#[Z C z]:Array V')=dP (lU v):=by
 unfold dP lU u8;simp only [E3,List.map_nil,UInt8.toNat_ofNat'];rw [show v%2 ^ 8=v by omega,g]
def Tz {v:Nat}:(⟨#[47]⟩:ByteArray)++str (lU v)=str (pU v):=QR [47] (lU v)
def R3 {v:Nat}:¬ 9223372036854775807<1+(str (lU v)).size:=by show ¬ 9223372036854775807<1+1;decide
end Go.SL
namespace Go.Proofs.Cl
open RowKit SL Proofs.Nn Proofs.Ba Proofs.Su Proofs.Fs
def RH {w:Q} {F:ai} {v:Nat} {z:Int} (hv:v<256) (g:z=(v:Int)) (h:ah w F) :
  (convert 23 9 (G (U ⟨w.heap.size,0,I⟩) 1 1)).run Y (w.alloc (W #[Z C z] 5 (0,0))) = .ok (N (str (lU v))) (w.alloc (W #[Z C z] 5 (0,0))):=by
 rw [MM hv g];exact B9 _ _ _ (uT (h.alloc (W (dP (lU v)) 5 (0,0))).heap)
end Go.Proofs.Cl
namespace Go.SL
open RowKit Proofs.Nn Proofs.Ba Proofs.Cl
def Xu (k:Nat):List UInt8:=[E5 (97+k)]
def Ya (k:Nat):List UInt8:=[47,E5 (97+k)]
def Jf:∀ k:Fin 26,aW (Ya k)=U [Xu k]:=by decide +kernel
def Q4 {k:Nat} (g:k<26):aW (Ya k)=U [Xu k]:=Jf ⟨k,g⟩
end Go.SL
namespace Go.Proofs.Cl
open RowKit SL Proofs.Nn Proofs.Ba Proofs.Su Proofs.Fs
attribute [local go_sem] Oper.semAt_some
section
variable {d n P E B k s f m:Nat} {w0 w:Q} {T:Tr} {K:List Int} {F:ai} {hP:5*n+240<=2*P} {t:Pl} {ds ds':Ds} {O:po}
def Ac {j:Nat} (i:mx ⟨f,s,j,d,n,P⟩ (Qj n P E hP) ds T k) (y:ds.D.wait=[]) (u:ds.B<=B) (l:gG n P=A) (h:ah w (eL ⟨f,s,j,d,n,P⟩ ds m O*(whole w0*F))):∃ X,ah w (VH d n P E B K T k w0*X):=by
 have o:Lq n P E ds.B ds.J ds.D ds.has:=i.at_.q;have g:=GC (K:=K) o y i.at_.has i.ty l;obtain ⟨S,r⟩:=qD (h.to (by unfold eL;ac_rfl:_=oO ⟨f,s,j,d,n,P⟩ ds*(whole w0*(pt f (il ⟨f,s,j,d,n,P⟩ (.map (U m)))*(mp m (nr O)*F)))));exact ⟨_,PB o.sj.jt.inv.pH ⟨g.Vw.more u,g.ep,g.sec,g.has,g.ty,l⟩ (r.t00 (aD S d ds.D*(al S*(whole w0*(dz s j d n P ds.J*(pt f (il ⟨f,s,j,d,n,P⟩ (.map (U m)))*(mp m (nr O)*F)))))))⟩
def Rq {j k':Nat} {T':Tr} (i:mx ⟨f,s,j,d,n,P⟩ (Qj n P E hP) ds T k) (hw:ds.D.wait=[]) (u:mx ⟨f,s,j,d,n,P⟩ (Qj n P E hP) ds' T' k') (y:ds.Go n A ds') (r:ds.B+1<=B) (c0:B<=1000000) (l:gG n P=A) (h:ah w (eL ⟨f,s,j,d,n,P⟩ ds' m O*(whole w0*F))):∃ X,ah w (VH d n P E B [] T k w0*X):=by
 have z:Lq n P E ds.B ds.J ds.D ds.has:=i.at_.q;have b0:Lq n P E ds'.B ds'.J ds'.D ds'.has:=u.at_.q;obtain ⟨J,has,g⟩:=NO (hP:=hP) z hw W' y i.at_.has i.ty l;obtain ⟨S,o⟩:=qD (h.to (by unfold eL;ac_rfl:_=oO ⟨f,s,j,d,n,P⟩ ds'*(whole w0*(pt f (il ⟨f,s,j,d,n,P⟩ (.map (U m)))*(mp m (nr O)*F)))));exact ⟨_,PB b0.sj.jt.inv.pH ⟨g.Vw.more r,g.ep,g.sec,g.has,g.ty,l⟩ (o.t00 (aD S d ds'.D*(al S*(whole w0*(dz s j d n P ds'.J*(pt f (il ⟨f,s,j,d,n,P⟩ (.map (U m)))*(mp m (nr O)*F)))))))⟩
end
def QF {p nm:List UInt8} (g:aW p=U [nm]):(bL eJ p).1=5:=by
 rw [eR g]
 rfl
def Wz (c:Nat) (b:Bool) (T:Tr):Prop:=(bL T (pU (97+c))).1=if b then 0 else 5
def WB (d P c:Nat) (b:Bool) (w g:Q):Prop:=∃ T k X,Wz c b T/\ak w g/\ah g (VH d 20 P 1 10 [] T k w*X)
def Bp (w:Q) (hh:iZ w) (z:Int) (P2:0<=z) (R2:z<256) (b1 y:Bool) :
  Calls Y 4 #[Z C z,.bool b1,.bool y] w (VI w):=by
 have hm:=Bg w hh;obtain ⟨c,hc⟩:∃ c:Nat,(c:Int)=z%26:=⟨(z%26).toNat,W'⟩
 have y2:c<26:=W'
 have HC:=ae hc;have HH:=ae hh;clear hh
 go_in
 go_wp2_with fail
 refine hm.mono ?_;rintro e w1 ⟨rfl,h1,d1⟩;have p0:=BR w1 (HH.o.nu (h1.to (cy _).symm)) 20 Y' Y';rw [show ((20:Nat):Int)=20 from rfl] at p0;have H1:=ae h1;have D1:=ae d1;clear hm h1 d1
 go_wp2_with fail
 refine p0.mono ?_;rintro e w2 ⟨d,P,M2,hg,hP,s,f,m,rfl,d2,h2⟩;obtain ⟨h0,ds,z1,hB,hw,h3⟩:=qB h2;have hf:mx ⟨f,s,h0,d,20,P⟩ (Qj 20 P 1 hP) ds eJ 18:=z1;have Y0:ah w2 (eL ⟨f,s,h0,d,20,P⟩ ds m []*whole w1):=by rw [show (whole w1*emp:ai)=whole w1 from l7 _] at h3;exact h3
 have h4:ah w2 (eL ⟨f,s,h0,d,20,P⟩ ds m []*(whole w*emp)):=by rw [l7];exact Y0.under H1.o
 have i:=RH (v:=97+c) (z:=97+z%26) W' W' h4;have E2:=Tz (v:=97+c);have H2:=R3 (v:=97+c);have hA:=(h4.alloc (W #[Z C (97+z%26)] 5 (0,0))).right;have D2:=ae ((D1.o.trans d2).alloc (W #[Z C (97+z%26)] 5 (0,0)));have b0:aW (pU (97+c))=U [Xu c]:=Q4 y2;have o0:=VE (k:=18) b0 Y';have n2:ds.B<=1000000:=W'
 have k3:=vz (p:=pU (97+c)) (t:=⟨f,s,h0,d,20,P⟩) (q:=Qj 20 P 1 hP) (s:=ds) (T:=eJ) (k:=18) hf n2 o0 hA;have K3:=ae k3;have s0:=ae o0;have HF:=ae hf;have HB:=ae hB;have HW:=ae hw;have HG:=ae hg;clear p0 h2 h3 Y0 h4 z1 d2 D1 H1 hA k3 o0 hf hB hw hg
 go_wp2_with fail
 refine K3.o.mono ?_;rintro e w4 ⟨c4,T4,k4,k0,hR,rfl,d4,N1,h4⟩;obtain rfl:c4=0:=hR.1.trans s0.o;obtain ⟨A1,n0⟩:=N1.elim (fun h=>absurd rfl h.1) (fun h=>h.2);obtain ⟨⟨b,m0⟩,rfl⟩:=TE b0 hR rfl;have q1:k0.B<=ds.B+1:=mx.go n0;have D4:=ae (D2.o.trans d4);have H4:=ae h4;have r:=ae A1;have r0:=ae n0;have i0:=ae q1;have u0:=ae m0;have hY:=ae (show Wz c A T4 by unfold Wz;rw [B6 b0 m0];rfl);have hN:=ae (show Wz c Z' eJ from QF b0);clear K3 hR N1 A1 n0 q1 d4 h4 D2 i H2 m0 s0
 go_upto_region 7 with (fail)
 go_cut [49] from 46 to 48 (fun K2 wx=>K2 = .bool (b1 && y)/\wx=w4)
 case first=>
  cases b1 <;> cases y <;> (go_wp2_with fail;go_meet;exact ⟨rfl,rfl⟩)
 case rest=>
  obtain ⟨rfl,rfl⟩:=hcut;generalize f0:(b1 && y)=bb
  go_upto_if 49 with (fail)
  go_cut [] from 50 to 69 (fun wx=>WB d P c b1 w wx)
  case first=>
   have l0:k0.B<=1000000:=by have:=HB.o;have:=i0.o;omega
   have q2:ds.B+1<=10:=by have:=HB.o;omega
   have v1:k0.B+1<=10:=by have:=HB.o;have:=i0.o;omega
   cases b1
   .obtain rfl:Z'=bb:=f0
    go_wp2_with fail
    go_meet
    obtain ⟨X,g⟩:=Rq (B:=10) HF.o HW.o r.o r0.o q2 Y' HG.o H4.o;exact ⟨eJ,18,X,hN.o,D4.o,g⟩
   .cases y
    .obtain rfl:Z'=bb:=f0
     have k5:=zU r.o l0 H4.o
     go_wp2_with fail
     refine k5.mono ?_;rintro e w5 ⟨rfl,d5,h5,h6⟩;obtain ⟨X,g⟩:=Ac (K:=[]) (B:=10) h5 rfl v1 HG.o h6;have u:=ae g;have D5:=ae (D4.o.trans d5);clear k5 h5 h6 g d5
     go_wp2_with fail
     go_meet
     exact ⟨T4,_,X,hY.o,D5.o,u.o⟩
    .obtain rfl:A=bb:=f0
     have k5:=kE (p:=pU (97+c)) r.o l0 Y' H4.o;have ho:gI T4 [] (pU (97+c))=0:=Kv b0 u0.o []
     go_wp2_with fail
     refine k5.mono ?_;rintro e w5 ⟨R0,d5,g0,⟨z2,_⟩|⟨_,fd,_,_,rfl,h5⟩⟩
     .exact absurd ho z2
     have o2:R0.B<=1000000:=by rw [g0.B];exact l0
     have r2:R0.B+1<=10:=by rw [g0.B];exact v1
     have k6:=Lg (r.o.rd g0) o2 (fd:=(fd:Int)) (by simp [lX,Go.SL.dM,aA]) h5;have D5:=ae (D4.o.trans d5);clear k5 h5 d5 g0
     go_wp2_with fail
     refine k6.mono ?_;rintro e w6 ⟨rfl,d6,h6,h7⟩;obtain ⟨X,g⟩:=Ac (K:=[]) (B:=10) h6 rfl r2 HG.o h7;have u:=ae g;have D6:=ae (D5.o.trans d6);clear k6 h6 h7 g d6
     go_wp2_with fail
     go_meet
     exact ⟨T4,_,X,hY.o,D6.o,u.o⟩
  case rest=>
   obtain ⟨T,k,X,i,hD,g⟩:=hcut;clear HF HB HW r r0 i0 u0 hY hN D4 H4 f0 E2 HC;unfold Wz at i;obtain ⟨z9,c0⟩:∃ z9,(bL T (pU (97+c))).1=z9:=⟨_,rfl⟩
   rw [c0] at i;have u:=ae g;have DD:=ae hD;have HT:=ae i;clear g hD i;have V1:=Bt u.o
   go_wp2_with fail
   refine V1.mono ?_;rintro e S2 ⟨rfl,x0,Z0⟩;have W1:=Da Z0;have b2:=ae (DD.o.trans x0);clear V1 Z0 x0
   go_wp2_with fail
   refine W1.mono ?_;rintro e W2 ⟨rfl,D0,c1⟩;have X1:=DI HH.o Y' Y' c1;have c2:=ae (b2.o.trans D0);clear W1 c1 D0
   go_wp2_with fail
   refine X1.mono ?_;rintro e Y2 ⟨N2,s7,f7,m7,rfl,F0,e1⟩;obtain ⟨j7,S0,E1,l2,O1,f1⟩:=qB e1;have r1:S0.B<=1000000:=W'
   have d0:=wV (p:=pU (97+c)) E1 r1 f1;rw [c0] at d0;generalize (if z9=0 then qM (T (bL T (pU (97+c))).2) else (0,0,0))=st at d0;obtain ⟨j,l,o⟩:=st;have e2:=ae (c2.o.trans F0);unfold Vy at d0;clear X1 e1 f1 F0
   go_wp2_with fail
   refine d0.mono ?_;rintro e L2 ⟨V0,rfl,G0,L1,x1,g1⟩;obtain ⟨t2,⟨r7,t1⟩,-,v2⟩:S0.Rd V0:=L1.elim id fun h=>absurd h.1 Y';have R1:V0.D.wait=[]:=by rw [t1];exact O1
   have n1:=(g1.alloc (W #[Z V j,Z V l,Z V o] 34 (0,0))).right;have j2:=ae ((e2.o.trans G0).alloc (W #[Z V j,Z V l,Z V o] 34 (0,0)));obtain ⟨X2,y1⟩:=Ac (K:=[]) (B:=20) x1 R1 W' HG.o n1;have k2:=ae y1;clear n1 y1 g1 x1 L1 d0 R1 t1 t2 v2 E1 l2 O1 r1 G0
   go_wp2_with fail
   generalize L2.alloc (W #[Z V j,Z V l,Z V o] 34 (0,0))=Z2 at *;have Y1:=Bt k2.o
   go_wp2_with fail
   refine Y1.mono ?_;rintro e b3 ⟨rfl,H0,i1⟩;have Z1:=Da i1;have f2:=ae (j2.o.trans H0);clear Y1 i1 H0
   go_wp2_with fail
   refine Z1.mono ?_;rintro e c3 ⟨rfl,K0,j1⟩;have a2:=DI HH.o Y' Y' j1;have g2:=ae (f2.o.trans K0);clear Z1 j1 K0
   go_wp2_with fail
   refine a2.mono ?_;rintro e d3 ⟨O2,s8,f8,m8,rfl,L0,k1⟩;obtain ⟨j8,T0,K1,m2,S1,l1⟩:=qB k1;have s1:T0.B<=1000000:=W'
   have e0:=wV (p:=pU (97+c)) K1 s1 l1;rw [c0] at e0;generalize (if z9=0 then qM (T (bL T (pU (97+c))).2) else (0,0,0))=st at e0;obtain ⟨j,l,o⟩:=st;have i2:=ae (g2.o.trans L0);unfold Vy at e0;clear a2 k1 l1 L0
   go_wp2_with fail
   refine e0.mono ?_;rintro e e3 ⟨W0,rfl,N0,M1,s2,m1⟩;obtain ⟨u2,⟨r8,u1⟩,-,x2⟩:T0.Rd W0:=M1.elim id fun h=>absurd h.1 Y';have J2:W0.D.wait=[]:=by rw [u1];exact S1
   have o1:=(m1.alloc (W #[Z V j,Z V l,Z V o] 34 (0,0))).right;have q0:=ae ((i2.o.trans N0).alloc (W #[Z V j,Z V l,Z V o] 34 (0,0)));have HE:=ae o1.right.left;clear o1 m1 s2 M1 e0 J2 u1 u2 x2 K1 m2 S1 s1 N0;cases b1
   .obtain rfl:z9=(5:Int):=HT.o
    clear HT c0
    go_wp2_with fail
    exact bodyPost_ret (results_tmp rfl _ _ _) rfl ⟨rfl,HE.o,q0.o⟩
   .obtain rfl:z9=(0:Int):=HT.o
    clear HT c0
    go_wp2_with fail
    exact bodyPost_ret (results_tmp rfl _ _ _) rfl ⟨rfl,HE.o,q0.o⟩
def DX (w:Q) (j:iZ w) (z:Int) (b1 i:Bool) (g:(Lit.int C z).wf=A):Calls Y 4 #[Z C z,.bool b1,.bool i] w (VI w):=by
 simp only [Lit.wf,Bool.and_eq_true,decide_eq_true_eq] at g;exact Bp w j z g.1 (Int.lt_of_le_of_lt g.2 Y') b1 i
end Go.Proofs.Cl

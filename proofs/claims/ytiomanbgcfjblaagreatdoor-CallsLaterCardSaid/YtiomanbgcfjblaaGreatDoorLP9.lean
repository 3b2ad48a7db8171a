/- Steps. -/
import Derived.Test.YtiomanbgcfjblaaGreatDoorLP7
import Derived.Test.YtiomanbgcfjblaaGreatDoorLP8
import Derived.TacticsInMore
import Derived.LoopNIn
import Derived.LoopIn
set_option linter.all false
set_option maxRecDepth 99999
set_option maxHeartbeats 0
open Go.SL
open Go.Value renaming int->Z,slice->U,pointer->R,tuple->X',bool->W'
open Go.IntKind renaming i64->W
open Go.Obj renaming cells->Y
open Go.Ending renaming returned->M
open Go renaming World->O,Value->L
open Go.Proofs.Tryz renaming prog->Q
open Option renaming some->V,none->X
open Bool renaming true->Z',false->N
open Go.SL renaming Om0->Y'
open Go.Proofs.Tryz
open List renaming replicate->A1,nil_append->D7,length_nil->D6,setIfInBounds_toArray->D5,set_cons_zero->D4,size_toArray->D3,length_cons->D1,push_toArray->E1,append_toArray->H9,cons_append->H7,getElem_mem->H2,replicate_zero->J3,length_map->K1,length_replicate->L8,length_set->L6,take_succ_eq_append_getElem->L4,take_of_length_le->L3
open Int renaming toNat_natCast->B3,eq_ofNat_of_zero_le->D8,emod_nonneg->H6,emod_lt_of_pos->H5
open Go.World renaming size_alloc->D9
open Nat renaming reduceAdd->E5,reduceSub->E4,sub_self->K8,le_refl->K3,sub_zero->K2,zero_le->L5
open Array renaming replicate_succ->E3,replicate_zero->E2
open Go.Value renaming slice->J5,int->J2
namespace Go.Proofs.Nn
open RowKit SL
attribute [local go_sem] Oper.semAt_some
variable {P:Program} {f:FuncId} {args:Array L} {w:O}
def mh {a b:Ending->O->Prop} {n m:Nat} (h:Calls P f args w a) (d:∀ e w,a e w->b e w) :
  Fence.wide.fn f/\(Fence.wide.depth.isSome=Z'->1<=m)/\CallsIn Fence.wide n P f args w b:=⟨trivial,fun h=>(by cases h),(callsIn_wide.2 h).mono d⟩
def lq {a b:Ending->O->Prop} {n:Nat} (h:Calls P f args w a) (d:∀ e w,a e w->b e w) :
  Fence.wide.fn f/\CallsIn Fence.wide n P f args w b:=⟨trivial,(callsIn_wide.2 h).mono d⟩
def sF {a b:Ending->O->Prop} {n l:Nat} (h:Calls P f args w a) (d:∀ e w,a e w->b e w) :
  Fence.wide.fn f/\CallsIn (Fence.wide.inRound l) n P f args w b:=⟨trivial,CallsIn.inRound l ((callsIn_wide.2 h).mono d)⟩
def Nq (p:Option Addr) (w:O) (e:Ending) (a:O):Prop:=e = M (.func (.func 304) #[] #[R (V ⟨w.heap.size,0,X⟩)])/\a=w.alloc (Y #[.pointer p] 27 (0,0))
def Bh (w:O) (p:Option Addr):Calls Q 260 #[.pointer p] w (Nq p w):=by
 go_in
 go_wp2
 go_ret
 exact ⟨rfl,rfl⟩
def gQ (a:Nat) (x:Dx) (S:Hp) (d:Nat) (D:aw):ai:=pt a (Y #[R (V ⟨d,0,X⟩)] 27 (0,0))*gC x S d D
def Po (z:Int × L × List UInt8) (b:Array L):ai:=fact (b=#[.agg #[Z W z.1,z.2.1]]/\∃ a n c,z.2.1 = U a n c)
def Ku (A:Zs->ai) (a:Zs) (b:ai) (w0:O) (i:L) (wr:O):Prop:=
 ∃ k:Nat,k<=a.length/\i = Z W ((k:Int)-1)/\ak w0 wr/\ah wr (A (a.reverse.take (a.length-k))*b)
def Ni (a:Zs) (k:Nat) (h:k<a.length):a.reverse.take (a.length-(k+1))++[a[k]]=a.reverse.take (a.length-k):=by
 have e:a.length-k=(a.length-(k+1))+1:=Y'
 rw [e,L4 (by simp;omega)];congr 2;rw [List.getElem_reverse];congr 1;omega
def CO (n:Nat) (x:Dx) (S:Hp) (e d:Nat) (D:aw) (hD:D.wait.length<=1000000) :
  dU Fence.wide n Q 304 #[R (V ⟨e,0,X⟩)] (gQ e x S d D) Po (fun B=>B=x.Z.reverse) (fun B=>B <+: x.Z.reverse):=by
 intro l A Ax G w0 w hY hs H;have b:ah w (gC x S d D*(pt e (Y #[R (V ⟨d,0,X⟩)] 27 (0,0))*(A []*G))):=H.to (by unfold gQ;ac_rfl);have b0:=b.aj.cell 0;obtain ⟨y,wc,u⟩:=b.Vm;have o:=b.rB;have k1:w.cell? ⟨d,1,X⟩=V (U y x.Z.length wc):=(b.cL 1).trans (by rw [o];simp only [Dx.cells,u];rfl);have F:=ae u;have hn:(x.Z.length:Int)<=1000000:=Y'
 have k0:ah w (A (x.Z.reverse.take (x.Z.length-x.Z.length))*(gQ e x S d D*G)):=by rw [K8,List.take_zero];exact H
 have C:=ae o;clear u b o;refine callsIn_of_wp func304 rfl trivial ?_ rfl;simp only [ntmps304,D3,D1,D6,E5,E4,E3,E2,E1,H9,D7,H7]
 gi_wp2
 gi_loopw [3] (fun i wr=>Ku A x.Z (gQ e x S d D*G) w0 i wr) (fun i _=>(intOf i+1).toNat)
 case atStart=>exact ⟨x.Z.length,K3 _,rfl,hs,k0⟩
 case round=>
  obtain ⟨k,I,rfl,J,f⟩:=hrel;have b:ah wr (gC x S d D*(pt e (Y #[R (V ⟨d,0,X⟩)] 27 (0,0))*(A (x.Z.reverse.take (x.Z.length-k))*G))):=f.to (by unfold gQ;ac_rfl);have b0:=b.aj.cell 0;have k1:wr.cell? ⟨d,1,X⟩=V (U y x.Z.length wc):=(b.cL 1).trans (by rw [C.o];simp only [Dx.cells,F.o];rfl)
  match k,I,f,b with
  | 0,_,f,b=>
   have e0:x.Z.reverse.take (x.Z.length-0)=x.Z.reverse:=by rw [K2,<- List.length_reverse,List.take_length]
   rw [e0] at f
   gi_wp2
   go_end0
   exact ⟨⟨_,rfl⟩,J,.inl ⟨_,rfl,f⟩⟩
  | k+1,I,f,b=>
   have q:k<x.Z.length:=Y'
   have n0:(k:Int)<(x.Z.length:Int):=Y'
   have g0:(((k+1:Nat):Int)-1)=(k:Int):=Y'
   have t:=b.bk.2.au;obtain ⟨g,c,j⟩:=re t Y';have f0:y=V ⟨g,0,X⟩/\wc=c:=by rw [F.o,<- C.o] at j;exact ⟨(Value.slice.inj j).1,(Value.slice.inj j).2.2⟩
   obtain ⟨rfl,rfl⟩:=f0;rw [j] at t;obtain ⟨c0,d0⟩:=t.kI q;have p:=Ni x.Z k q;obtain ⟨z,K⟩:=Nm (x.Z[k])
   rw [K] at c0 d0 p;have P:=ae p;have h0:x.Z.reverse.take (x.Z.length-(k+1))++[z] <+: x.Z.reverse:=by rw [p];exact List.take_prefix _ _
   have E:=ae h0
   have i0:∃ a n c,z.2.1 = U a n c:=by
    obtain ⟨a,c,hh⟩:=jk (b.bk.1.mm z (by rw [<- K];exact H2 q));exact ⟨_,_,_,hh⟩
   have hT:ah wr (A (x.Z.reverse.take (x.Z.length-(k+1)))*(Po z #[.agg #[Z W z.1,z.2.1]]*(gQ e x S d D*G))):=
    (ah.ao.2 ⟨(⟨rfl,i0⟩:(#[Value.agg #[Z W z.1,z.2.1]]:Array L)=#[.agg #[Z W z.1,z.2.1]]/\∃ a n c,z.2.1 = U a n c),f⟩:ah wr (fact _*_)).to (by unfold Po;ac_rfl)
   obtain ⟨fn,o0,assign,body,hy,hR⟩:=hY _ z #[.agg #[Z W z.1,z.2.1]] _ wr E.o J hT;rw [g0]
   gi_wp2
   refine ⟨fun h=>(by cases h),hR.mono ?_⟩;rintro m0 l0 (⟨rfl,r,s⟩|⟨rfl,r,s⟩)
   .gi_wp2
    go_roundw
    case rel=>exact ⟨k,Y',rfl,r,by rw [<- P.o];exact s⟩
    case measure=>simp [intOf]
   .gi_wp2
    refine bodyPost_ret (results_none rfl _ _ _) rfl ?_;exact ⟨⟨_,rfl⟩,r,.inr ⟨_,E.o,s⟩⟩
def nB (S:Hp) (d:Nat) (D:aw) (A:Int × List UInt8) (F:ai) (w:O) (e:Ending) (b:O):Prop:=
 ∃ a,e = M (X' #[a,Z W A.1])/\ah b (nL 5 A a*(aD S d D*(al S*F)))/\ak w b
def ue (S:Hp) (b e f:Nat) (a:Int) (d:L) (c:Int):ai:=
 pt b (Y #[Z W a] 3 (0,0))*(pt e (Y #[d] 23 (0,0))*(pt f (Y #[Z W c] 31 (0,0))*al S))
def l9 (S:Hp) (b d e:Nat) (a:Int) (f:Zs):ai:=fact (∀ z ∈ f,¬ z.1=a)*ue S b d e a (U X 0 0) 0
def IK (S:Hp) (b d e:Nat) (a:Int) (c:Code) (f:Zs):ai:=ex fun p:Zs × (Int × L × List UInt8) × Nat=>
 fact (c = .ret/\f=p.1++[p.2.1]/\(∀ z ∈ p.1,¬ z.1=a)/\p.2.1.1=a)*(pt p.2.2 (Y (dP (bB 512 p.2.1.2.2)) 5 (0,0))*ue S b d e a (U (V ⟨p.2.2,0,X⟩) 512 512) 0)
def Xf (S:Hp) (b f g i d:Nat) (a k j:Int) (l:Zs) (z:Int × L × List UInt8) (h:Act):ai:=ex fun e=>
 fact (h={ tmps:=#[R (V ⟨d,0,X⟩),Z W a,undef,R (V ⟨b,0,X⟩),R (V ⟨f,0,X⟩),R (V ⟨g,0,X⟩),Z W 0,R (V ⟨e,0,X⟩),undef,undef,R (V ⟨d,0,X⟩),Z W a,W' Z',W' N,R (V ⟨d,0,X⟩),Z W 0,Z W 0,W' N,undef,R (V ⟨d,0,X⟩),R (V ⟨d,0,X⟩),R (V ⟨d,3,X⟩),R (V ⟨d,3,X⟩),Z W j,Z W k,R (V ⟨d,0,X⟩),R (V ⟨d,3,X⟩),R (V ⟨d,3,X⟩),R (V ⟨d,0,X⟩),.func (.func 304) #[] #[R (V ⟨i,0,X⟩)],.agg #[Z W z.1,z.2.1],undef,undef,undef,undef,undef,undef,undef,undef,undef,undef,undef,undef,undef,undef,undef,undef,undef,undef,undef,undef,undef,undef,undef,undef,undef],defers:=[] })*(pt e (Y #[Z W z.1,z.2.1] 111 (0,0))*l9 S b f g a l)
def KI (w:O):(zeroValue 113).run Q w = .ok (.agg #[]) w:=Kr0
def IQ (t:List (Int × Unit)) (a:Int):(aA (ir t) a).getD (.agg #[]) = .agg #[]:=by
 have:=gR (fun _:Unit=>Value.agg #[]) t a;rw [ir,this];cases aA t a <;> rfl
def Dq {b:Zs} {l:List (Int × List UInt8)} {a:Int} (e:b.map (fun z=>(z.1,z.2.2))=l) (h:∀ z ∈ b.reverse,¬ z.1=a):dg l a=X:=by
 subst e;rw [dg,Option.map_eq_none_iff,List.find?_eq_none];intro p d;rw [List.mem_reverse,List.mem_map] at d;obtain ⟨z,f,rfl⟩:=d;simpa using h z (by simpa using f)
def Bu {f:Zs} {l:List (Int × List UInt8)} {a:Int} (e:f.map (fun z=>(z.1,z.2.2))=l) {g:Zs} {z:Int × L × List UInt8} (b:g++[z] <+: f.reverse) (h:∀ z ∈ g,¬ z.1=a) (d:z.1=a):dg l a=V z.2.2:=by
 subst e;obtain ⟨t,i⟩:=b;rw [dg,<- List.map_reverse,<- i,List.append_assoc,List.map_append,List.find?_append,List.find?_eq_none.2]
 .simp [d]
 .intro p b
  obtain ⟨z,d,rfl⟩:=List.mem_map.1 b;simpa using h z d
def rj {T:TypeId} {g n:Nat} {l:List UInt8} {F:ai} (a:l.length=n) (h:ah w (pt g (Y (dP l) T (0,0))*F)) (d:n<=1000000:=by omega):ah w (bs T (U (V ⟨g,0,X⟩) n n) l*F):=by
 have b:=ah.nz (sz:=1) (n:=n) (cap:=n) h (K3 n) (by unfold maxLen;omega) (by rw [eX,a,Nat.mul_one]);refine b.to ?_;have e:(dP l).toList.take (n*1)=l.map u8:=L3 (by rw [dP,List.toList_toArray,K1,a,Nat.mul_one];exact K3 _);rw [e,bs,a]
def fo {a b:Nat} {v u:L} (h4:args[4]?=V (R (V ⟨a,0,X⟩))) (h5:args[5]?=V (R (V ⟨b,0,X⟩))) (d:w.cell? ⟨a,0,X⟩=V v) (e:w.cell? ⟨b,0,X⟩=V u) :
  (results Tryz.f191 args).run Q w = .ok (X' #[v,u]) w:=by
 simp [results,Tryz.results191,go_sem,h4,h5,d,e]
def Rh (w:O) (S:Hp) (d:Nat) (D:aw) (a:Int) (F:ai) (h:ah w (aD S d D*(al S*F))) (hD:D.Ok) (hh:D.has a) (hb:D.dh=0) :
  Calls Q 191 #[R (V ⟨d,0,X⟩),Z W a] w (nB S d { D.begun with cr:=bP (D.begun.cr+1) } (D.begun.aG a) F w):=by
 have T0:=hD.up hb;obtain ⟨e,p0⟩:=Mn0 D.begun
 have k0:e.has a:=by rw [p0,aw.Ci hb];exact hh
 rw [<- p0] at T0 ⊢;have b1:=ae p0;clear p0;have hA:=((h.alloc (Y #[Z W a] 3 (0,0))).alloc (Y #[U X 0 0] 23 (0,0))).alloc (Y #[Z W 0] 31 (0,0));have D0:=(((ak.refl w).alloc (Y #[Z W a] 3 (0,0))).alloc (Y #[U X 0 0] 23 (0,0))).alloc (Y #[Z W 0] 31 (0,0));rw [D9,D9] at hA;refine (callsIn_wide (n:=9)).1 ?_;refine callsIn_of_wp_marks func191 rfl trivial ?_ rfl;simp only [ntmps191,D3,D1,D6,E5,E4,E3,E2,E1,H9,D7,H7]
 gi_wp2_with fail
 generalize ((w.alloc (Y #[Z W a] 3 (0,0))).alloc (Y #[U X 0 0] 23 (0,0))).alloc (Y #[Z W 0] 31 (0,0))=w1 at hA D0 ⊢;generalize w.heap.size+1+1=j at hA ⊢;generalize w.heap.size+1=i at hA ⊢;generalize w.heap.size=p at hA ⊢;have H1:ah w1 (aD S d D*(al S*(pt p (Y #[Z W a] 3 (0,0))*(pt i (Y #[U X 0 0] 23 (0,0))*(pt j (Y #[Z W 0] 31 (0,0))*F))))):=hA.u00;have ch:=mS w1 S d D a _ H1;rw [show decide (D.has a)=Z' by simpa using hh] at ch;have cb:=pk w1 S d D _ H1 hD;rw [hb,<- b1.o] at cb;clear hA h hb hD;refine lq ch ?_;rintro n0 w1 ⟨rfl,rfl⟩;clear ch
 gi_wp2_with fail
 refine lq cb ?_;rintro n0 w2 ⟨rfl,A,d2⟩;clear cb H1;obtain ⟨x,hx⟩:=A.tQ;have E:=hx.bk.1;have k3:w2.cell? ⟨d,3,X⟩=V (Z W e.cr):=hx.cL 3;have kf:=hx.mG
 have o0:ah (w2.setCell ⟨d,3,X⟩ (Z W (bP (e.cr+1)))) (gC x S d { e with cr:=bP (e.cr+1) }*(al S*(pt p (Y #[Z W a] 3 (0,0))*(pt i (Y #[U X 0 0] 23 (0,0))*(pt j (Y #[Z W 0] 31 (0,0))*F))))):=
  ah.iN ⟨E.sec,E.sP,E.wait,E.mm⟩ (hx.bk.2.setCell 3 (Z W (bP (e.cr+1))))
 have W0:=(D0.trans d2).setCell ⟨d,3,X⟩ (Z W (bP (e.cr+1)))
 gi_wp2_with fail
 generalize w2.setCell ⟨d,3,X⟩ (Z W (wrap64 (e.cr+1)))=w3 at o0 W0 ⊢;clear k3 kf hx A D0 d2;refine lq (Bh w3 _) ?_;rintro n0 w4 ⟨rfl,rfl⟩;have H4:=o0.alloc (Y #[R (V ⟨d,0,X⟩)] 27 (0,0));have Y0:=W0.alloc (Y #[R (V ⟨d,0,X⟩)] 27 (0,0))
 gi_wp2_with fail
 generalize w3.alloc (Y #[R (V ⟨d,0,X⟩)] 27 (0,0))=w4 at H4 Y0 ⊢;generalize w3.heap.size=bx at H4 ⊢
 have r0:ah w4 (l9 S p i j a []*(gQ bx x S d { e with cr:=bP (e.cr+1) }*F)):=
  (ah.ao.2 ⟨fun z hz=>(by cases hz),H4⟩:ah w4 (fact _*_)).to (by unfold l9 ue gQ;ac_rfl)
 refine ji (w0:=w) rfl De0 (gf:=304) (lb:=#[R (V ⟨bx,0,X⟩)]) rfl trivial (enters func304 Kr0 rfl)
  (CO _ x S bx d { e with cr:=bP (e.cr+1) } T0.many) (l9 S p i j a) (IK S p i j a) (Xf S p i j bx d a (wrap64 (e.cr+1)) e.cr) F ?hps Y0 r0 ?assign ?body ?done ?stop
 case hps=>
  intro z vs Fr o H;obtain ⟨⟨rfl,_⟩,_⟩:=ah.ao.1 H
  rfl
 case assign=>
  intro l H0 h0 z vs Fr o k1 _ c0 H hK;obtain ⟨⟨rfl,da,dn,dc,hz⟩,A⟩:=ah.ao.1 (H.to (aE _ _ _));obtain ⟨q,dv,P⟩:=z;simp only at hz;subst hz;have H3:=A.alloc (Y #[Z W q,U da dn dc] 111 (0,0));clear H A H4 r0 o0
  gi_wp2
  refine hK _ _ (c0.alloc _) (ah.aq.2 ⟨o.heap.size,(ah.ao.2 ⟨rfl,H3⟩:ah _ (fact _*_)).u00⟩)
 case body=>
  intro l H0 h0 z a' Fr o hp c0 H;obtain ⟨bz,H1⟩:=ah.aq.1 H;obtain ⟨rfl,A⟩:=ah.ao.1 (H1.to (ar _ _ _))
  have j1:z ∈ x.Z:=by
   obtain ⟨l1,G⟩:=hp;have:z ∈ x.Z.reverse:=by rw [<- G];simp
   simpa using this
  have r:=E.mm z j1;obtain ⟨da,dc,N0⟩:=jk r;obtain ⟨q,dv,P⟩:=z;simp only at N0 r;subst N0;have H3:ah o (l9 S p i j a h0*(pt bz (Y #[Z W q,U da P.length dc] 111 (0,0))*(pt l (.loop H0)*Fr))):=A.u00;obtain ⟨q0,J4⟩:=ah.ao.1 (H3.to (ar _ _ _));have B:ah o (al S*(pt p (Y #[Z W a] 3 (0,0))*(pt i (Y #[U X 0 0] 23 (0,0))*(pt j (Y #[Z W 0] 31 (0,0))*(pt bz (Y #[Z W q,U da P.length dc] 111 (0,0))*(pt l (.loop H0)*Fr)))))):=J4.to (by unfold ue;ac_rfl);have c3:=B.aj.cell 0;have d1:=B.aI.cell 0;have e1:=B.aI.cell 1;have V0:=r.rd B;have i1:P.length<=9223372036854775807:=by have:=r.1;unfold small at this;omega
  have Hp:=ae q0
  by_cases hq:q=a
  .have h1:(q == a)=Z':=by simpa using hq
   have Hq:=ae hq;clear hq
   gi_wp2_with fail
   refine sF (lC o _ P V0 i1) ?_;rintro n0 w5 ⟨g,rfl,h5,d5⟩;have f:=h5.under B;have c4:=f.aC.cell 0;have f4:=f.aC.frozen;have c5:=f.aI.cell 0;have f5:=f.aI.frozen;have K0:=(f.aC.setCell 0 (U (V ⟨g,0,X⟩) 512 512)).aI.cell 0;have L0:=(f.aC.setCell 0 (U (V ⟨g,0,X⟩) 512 512)).aI.frozen;have R0:i≠j:=(f.aI.aI).ne;have C:=((f.aC.setCell 0 (U (V ⟨g,0,X⟩) 512 512)).ur.aI.setCell 0 (Z W 0)).yN;clear c3 d1 e1 V0 B h5 f
   gi_wp2
   refine ⟨((c0.trans d5).setCell _ _).setCell _ _,ah.aq.2 ⟨(h0,(q,U da P.length dc,P),g),(ah.ao.2 ⟨(⟨rfl,rfl,Hp.o,Hq.o⟩:Code.ret = .ret/\h0++[(q,J5 da P.length dc,P)]=h0++[(q,J5 da P.length dc,P)]/\(∀ z ∈ h0,¬ z.1=a)/\q=a),C.Wj⟩:ah _ (fact _*_)).to ?_⟩⟩;unfold ue;simp only [D5,D4]
   ac_rfl
  .have h1:(q == a)=N:=by simpa using hq
   gi_wp2
   refine ⟨c0,(ah.ao.2 ⟨?_,B.WX⟩:ah _ (fact _*_)).to (by unfold l9 ue;ac_rfl)⟩;intro z hz;rcases List.mem_append.1 hz with hz|hz
   .exact Hp.o z hz
   .rw [List.mem_singleton.1 hz];exact hq
 case done=>
  intro D2 ys o hS c0 H;subst hS;have A:=H;obtain ⟨S0,H3⟩:=ah.ao.1 (A.to (ar _ _ _));have d0:dg e.wait a=X:=Dq E.wait S0;clear S0 r0 H4 o0 H A
  have B:ah o (gC x S d { e with cr:=bP (e.cr+1) }*(al S*(pt p (Y #[Z W a] 3 (0,0))*(pt i (Y #[U X 0 0] 23 (0,0))*(pt j (Y #[Z W 0] 31 (0,0))*(pt D2 (.deferred (V []))*F)))))):=
   (H3.to (by unfold ue gQ;ac_rfl:_=pt bx (Y #[R (V ⟨d,0,X⟩)] 27 (0,0))*_)).right
  obtain ⟨e0,i0⟩:=Mn0 (gC x S d { e with cr:=bP (e.cr+1) }*(al S*(pt p (Y #[Z W a] 3 (0,0))*(pt i (Y #[U X 0 0] 23 (0,0))*(pt j (Y #[Z W 0] 31 (0,0))*(pt D2 (.deferred (V []))*F))))))
  rw [<- i0] at B;have g2:∀ b,ah b e0->b.cell? ⟨d,2,X⟩=V (.map (V x.tm)):=fun b h=>(i0▸h).cL 2;have g3:∀ b,ah b e0->b.cell? ⟨p,0,X⟩=V (Z W a):=fun b h=>(i0▸h).au.cell 0
  have gl:∀ b,ah b e0->(Instr.lookup 96 (.map (V x.tm)) (Z W a) Z').run Q b = .ok (X' #[.agg #[],W' (aA e.jI a).isSome]) b:=fun b h=>by
   have:=(i0▸h).bk.2.aC.lookup (P:=Q) underlying96 underlying3 (KI b) a Z';rw [this,IQ,FG];rfl
  have m0:ah (o.drew.alloc (Y #[] 113 (0,0))) e0:=(ah.alloc (w:=o.drew) B _).right;have HB:=ae i0;clear i0 H3
  gi_wp2
  refine wpIn_wide.2 ?_
  go_region_held3 (fun b=>ah b e0) (first|assumption|exact B.drew|exact m0) (fail)
  .have b0:ah (o.alloc (Y #[] 113 (0,0))).drew e0:=m0
   have f0:=(c0.alloc (Y #[] 113 (0,0))).drew;clear gl m0 B;generalize (o.alloc (Y #[] 113 (0,0))).drew=W6 at f0 b0 ⊢;generalize o.heap.size=bt;have f:=HB.o▸b0
   by_cases G:(aA e.jI a).isSome=Z'
   .have t:e.aG a=(3,[]):=by rw [aw.aG,d0];simp only [G,if_true]
    have c4:=f.aC.cell 0;have f4:=f.aC.frozen;have c5:=f.aI.cell 0;have f5:=f.aI.frozen;have K0:=(f.aC.setCell 0 (U X 0 0)).aI.cell 0;have L0:=(f.aC.setCell 0 (U X 0 0)).aI.frozen;have R0:i≠j:=(f.aI.aI).ne;have C:=((f.aC.setCell 0 (U X 0 0)).aI.setCell 0 (Z W 3))
    have y:=ae t;have a1:=ae f;clear t f d0 hh b0 g2 g3 HB;rw [G]
    go_wp2
    gi_wp2
    refine ⟨Si0,.inl ⟨_,_,rfl,run_takeDeferred C.et.heap,?_⟩⟩;have H8:=C.et.putObj (.deferred X);refine ⟨X' #[U X 0 0,Z W 3],fo rfl rfl (H8.au.cell 0) (H8.aj.cell 0),_,by rw [y.o],?_,((f0.setCell _ _).setCell _ _).putObj _ _⟩;rw [y.o];exact ah.jH (ah.devOf (H8.right.right.right.ly)) De0
   .simp only [Bool.not_eq_true] at G
    have x0:x.Y.length=e.sec.length:=by rw [<- E.sec,K1]
    obtain ⟨n,rfl⟩:=D8 k0.1;have J:n<x.Y.length:=by have:=k0.2;omega
    have f1:(n:Int)<(x.Y.length:Int):=Y'
    have t:e.aG (n:Int)=(0,bB 512 x.Y[n].2):=by
     rw [aw.aG,d0];simp only [G,Bool.false_eq_true,if_false,B3,<- E.sec];simp [J]
    have r:=E.sP _ (H2 J);obtain ⟨va,vc,hv⟩:=jk r;have g0:(x.Y.map Prod.fst)[n]?=V (U va x.Y[n].2.length vc):=by rw [<- hv];simp [J]
    rw [hv] at r;generalize x.Y[n].2=s at t r g0;obtain ⟨k,u⟩:=Mn0 (gC x S d { e with cr:=bP (e.cr+1) }*(al S*(pt p (Y #[Z W (n:Int)] 3 (0,0))*(pt D2 (.deferred (V []))*F))))
    have C:ah W6 (k*(pt i (Y #[U X 0 0] 23 (0,0))*pt j (Y #[Z W 0] 31 (0,0)))):=f.to (by rw [u];ac_rfl);have G0:∀ b,ah b k->b.cell? ⟨d,0,X⟩=V (U (V ⟨x.sg,0,X⟩) x.Y.length x.Y.length):=fun b h=>(u▸h).cL 0;have G3:∀ b,ah b k->b.cell? ⟨p,0,X⟩=V (Z W (n:Int)):=fun b h=>(u▸h).au.cell 0;have Gs:∀ b,ah b k->b.cell? ⟨x.sg,n,X⟩=V (U va s.length vc):=fun b h=>((u▸h).bk.2.aj.cell n).trans (by simpa using g0);have Gr:Hid (∀ b,ah b k->Rd b (U va s.length vc) s):=fun b h=>r.rd ((u▸h).aj);have F0:s.length<=9223372036854775807:=by have:=r.1;unfold small at this;omega
    have y:=ae t;have u0:=ae u;have c1:=ae J;clear t f d0 hh k0 b0 g2 g3 HB u r g0 hv J x0;rw [G]
    go_wp2
    gi_wp2
    refine wpIn_wide.2 ?_;have s0:=C;have l0:ah W6.drew k:=C.left
    go_region_held3 (fun b=>ah b k) (first|assumption|exact l0) (first
     | (go_at_call 261;(with_reducible apply (lC _ _ s (Gr.o _ l0) F0).mono);rintro n0 K ⟨g,rfl,h7,d7⟩;have J7:=h7.under s0;have Jb:ah K k:=J7.right.left;have K4:ah K (pt i (Y #[U X 0 0] 23 (0,0))*(pt j (Y #[Z W 0] 31 (0,0))*(pt g (Y (dP (bB 512 s)) 5 (0,0))*k))):=J7.u00;have c4:=K4.cell 0;have f4:=K4.frozen;have K5:=(K4.setCell 0 (U (V ⟨g,0,X⟩) 512 512)).aj;have c5:=K5.cell 0;have f5:=K5.frozen;have K6:=K5.setCell 0 (Z W 0);have S1:ah (K.setCell ⟨i,0,X⟩ (U (V ⟨g,0,X⟩) 512 512)) k:=K5.right.right.right;have S2:ah ((K.setCell ⟨i,0,X⟩ (U (V ⟨g,0,X⟩) 512 512)).setCell ⟨j,0,X⟩ (Z W 0)) k:=K6.right.right.right))
    gi_wp2
    have K7:ah ((K.setCell ⟨i,0,X⟩ (U (V ⟨g,0,X⟩) 512 512)).setCell ⟨j,0,X⟩ (Z W 0)) (pt D2 (.deferred (V []))*(pt j (Y #[Z W 0] 31 (0,0))*(pt i (Y #[U (V ⟨g,0,X⟩) 512 512] 23 (0,0))*(pt g (Y (dP (bB 512 s)) 5 (0,0))*(gC x S d { e with cr:=bP (e.cr+1) }*(al S*(pt p (Y #[Z W (n:Int)] 3 (0,0))*F))))))):=
     K6.to (by rw [u0.o];simp only [D5,D4];ac_rfl)
    refine ⟨Si0,.inl ⟨_,_,rfl,run_takeDeferred K7.heap,?_⟩⟩;have I:=K7.putObj (.deferred X);refine ⟨X' #[U (V ⟨g,0,X⟩) 512 512,Z W 0],fo rfl rfl (I.au.cell 0) (I.aj.cell 0),_,by rw [y.o],?_,(((f0.drew.trans d7).setCell _ _).setCell _ _).putObj _ _⟩;rw [y.o];have K9:=rj (bT 512 s) I.right.right.right;exact ah.tJ ((ah.devOf K9.aj.lv).Pb)
  .have b0:ah (o.alloc (Y #[] 113 (0,0))).drew e0:=m0
   have f0:=(c0.alloc (Y #[] 113 (0,0))).drew;clear gl m0 B;generalize (o.alloc (Y #[] 113 (0,0))).drew=W6 at f0 b0 ⊢;generalize o.heap.size=bt;have f:=HB.o▸b0
   by_cases G:(aA e.jI a).isSome=Z'
   .have t:e.aG a=(3,[]):=by rw [aw.aG,d0];simp only [G,if_true]
    have c4:=f.aC.cell 0;have f4:=f.aC.frozen;have c5:=f.aI.cell 0;have f5:=f.aI.frozen;have K0:=(f.aC.setCell 0 (U X 0 0)).aI.cell 0;have L0:=(f.aC.setCell 0 (U X 0 0)).aI.frozen;have R0:i≠j:=(f.aI.aI).ne;have C:=((f.aC.setCell 0 (U X 0 0)).aI.setCell 0 (Z W 3))
    have y:=ae t;have a1:=ae f;clear t f d0 hh b0 g2 g3 HB;rw [G]
    go_wp2
    gi_wp2
    refine ⟨Si0,.inl ⟨_,_,rfl,run_takeDeferred C.et.heap,?_⟩⟩;have H8:=C.et.putObj (.deferred X);refine ⟨X' #[U X 0 0,Z W 3],fo rfl rfl (H8.au.cell 0) (H8.aj.cell 0),_,by rw [y.o],?_,((f0.setCell _ _).setCell _ _).putObj _ _⟩;rw [y.o];exact ah.jH (ah.devOf (H8.right.right.right.ly)) De0
   .simp only [Bool.not_eq_true] at G
    have x0:x.Y.length=e.sec.length:=by rw [<- E.sec,K1]
    obtain ⟨n,rfl⟩:=D8 k0.1;have J:n<x.Y.length:=by have:=k0.2;omega
    have f1:(n:Int)<(x.Y.length:Int):=Y'
    have t:e.aG (n:Int)=(0,bB 512 x.Y[n].2):=by
     rw [aw.aG,d0];simp only [G,Bool.false_eq_true,if_false,B3,<- E.sec];simp [J]
    have r:=E.sP _ (H2 J);obtain ⟨va,vc,hv⟩:=jk r;have g0:(x.Y.map Prod.fst)[n]?=V (U va x.Y[n].2.length vc):=by rw [<- hv];simp [J]
    rw [hv] at r;generalize x.Y[n].2=s at t r g0;obtain ⟨k,u⟩:=Mn0 (gC x S d { e with cr:=bP (e.cr+1) }*(al S*(pt p (Y #[Z W (n:Int)] 3 (0,0))*(pt D2 (.deferred (V []))*F))))
    have C:ah W6 (k*(pt i (Y #[U X 0 0] 23 (0,0))*pt j (Y #[Z W 0] 31 (0,0)))):=f.to (by rw [u];ac_rfl);have G0:∀ b,ah b k->b.cell? ⟨d,0,X⟩=V (U (V ⟨x.sg,0,X⟩) x.Y.length x.Y.length):=fun b h=>(u▸h).cL 0;have G3:∀ b,ah b k->b.cell? ⟨p,0,X⟩=V (Z W (n:Int)):=fun b h=>(u▸h).au.cell 0;have Gs:∀ b,ah b k->b.cell? ⟨x.sg,n,X⟩=V (U va s.length vc):=fun b h=>((u▸h).bk.2.aj.cell n).trans (by simpa using g0);have Gr:Hid (∀ b,ah b k->Rd b (U va s.length vc) s):=fun b h=>r.rd ((u▸h).aj);have F0:s.length<=9223372036854775807:=by have:=r.1;unfold small at this;omega
    have y:=ae t;have u0:=ae u;have c1:=ae J;clear t f d0 hh k0 b0 g2 g3 HB u r g0 hv J x0;rw [G]
    go_wp2
    gi_wp2
    refine wpIn_wide.2 ?_;have s0:=C;have l0:ah W6.drew k:=C.left
    go_region_held3 (fun b=>ah b k) (first|assumption|exact l0) (first
     | (go_at_call 261;(with_reducible apply (lC _ _ s (Gr.o _ l0) F0).mono);rintro n0 K ⟨g,rfl,h7,d7⟩;have J7:=h7.under s0;have Jb:ah K k:=J7.right.left;have K4:ah K (pt i (Y #[U X 0 0] 23 (0,0))*(pt j (Y #[Z W 0] 31 (0,0))*(pt g (Y (dP (bB 512 s)) 5 (0,0))*k))):=J7.u00;have c4:=K4.cell 0;have f4:=K4.frozen;have K5:=(K4.setCell 0 (U (V ⟨g,0,X⟩) 512 512)).aj;have c5:=K5.cell 0;have f5:=K5.frozen;have K6:=K5.setCell 0 (Z W 0);have S1:ah (K.setCell ⟨i,0,X⟩ (U (V ⟨g,0,X⟩) 512 512)) k:=K5.right.right.right;have S2:ah ((K.setCell ⟨i,0,X⟩ (U (V ⟨g,0,X⟩) 512 512)).setCell ⟨j,0,X⟩ (Z W 0)) k:=K6.right.right.right))
    gi_wp2
    have K7:ah ((K.setCell ⟨i,0,X⟩ (U (V ⟨g,0,X⟩) 512 512)).setCell ⟨j,0,X⟩ (Z W 0)) (pt D2 (.deferred (V []))*(pt j (Y #[Z W 0] 31 (0,0))*(pt i (Y #[U (V ⟨g,0,X⟩) 512 512] 23 (0,0))*(pt g (Y (dP (bB 512 s)) 5 (0,0))*(gC x S d { e with cr:=bP (e.cr+1) }*(al S*(pt p (Y #[Z W (n:Int)] 3 (0,0))*F))))))):=
     K6.to (by rw [u0.o];simp only [D5,D4];ac_rfl)
    refine ⟨Si0,.inl ⟨_,_,rfl,run_takeDeferred K7.heap,?_⟩⟩;have I:=K7.putObj (.deferred X);refine ⟨X' #[U (V ⟨g,0,X⟩) 512 512,Z W 0],fo rfl rfl (I.au.cell 0) (I.aj.cell 0),_,by rw [y.o],?_,(((f0.drew.trans d7).setCell _ _).setCell _ _).putObj _ _⟩;rw [y.o];have K9:=rj (bT 512 s) I.right.right.right;exact ah.tJ ((ah.devOf K9.aj.lv).Pb)
 case stop=>
  intro D2 c ys o hp c0 H;obtain ⟨⟨h0,z,g⟩,H1⟩:=ah.aq.1 H;obtain ⟨⟨rfl,rfl,q0,Z0⟩,A⟩:=ah.ao.1 (H1.to (ar _ _ _));have t:e.aG a=(0,bB 512 z.2.2):=by rw [aw.aG,Bu E.wait hp q0 Z0]
  have y:=ae t
  have K7:ah o (pt D2 (.deferred (V []))*(pt j (Y #[Z W 0] 31 (0,0))*(pt i (Y #[U (V ⟨g,0,X⟩) 512 512] 23 (0,0))*(pt g (Y (dP (bB 512 z.2.2)) 5 (0,0))*(gC x S d { e with cr:=bP (e.cr+1) }*(al S*(pt p (Y #[Z W a] 3 (0,0))*(pt bx (Y #[R (V ⟨d,0,X⟩)] 27 (0,0))*F)))))))):=
   A.to (by unfold ue gQ;ac_rfl)
  clear H H1 A hp q0 Z0 t r0 H4 o0
  gi_wp2
  refine ⟨Si0,.inl ⟨_,_,rfl,run_takeDeferred K7.heap,?_⟩⟩;have I:=K7.putObj (.deferred X);refine ⟨X' #[U (V ⟨g,0,X⟩) 512 512,Z W 0],fo rfl rfl (I.au.cell 0) (I.aj.cell 0),_,by rw [y.o],?_,c0.putObj _ _⟩;rw [y.o];have K9:=rj (bT 512 z.2.2) I.right.right.right;exact ah.tJ ((ah.devOf K9.aj.lv.lv).Pb)
def zZ (w:O) (S:Hp) (d:Nat) (D:aw) (a:Int) (F:ai) (h:ah w (aD S d D*(al S*F))) (q:¬ D.has a) :
  Calls Q 191 #[R (V ⟨d,0,X⟩),Z W a] w (nB S d D (1,[]) F w):=by
 have f:=((h.alloc (Y #[Z W a] 3 (0,0))).alloc (Y #[U X 0 0] 23 (0,0))).alloc (Y #[Z W 0] 31 (0,0));have k:=(((ak.refl w).alloc (Y #[Z W a] 3 (0,0))).alloc (Y #[U X 0 0] 23 (0,0))).alloc (Y #[Z W 0] 31 (0,0));rw [D9,D9] at f;refine (callsIn_wide (n:=9)).1 ?_;refine callsIn_of_wp_marks func191 rfl trivial ?_ rfl;simp only [ntmps191,D3,D1,D6,E5,E4,E3,E2,E1,H9,D7,H7]
 gi_wp2_with fail
 generalize ((w.alloc (Y #[Z W a] 3 (0,0))).alloc (Y #[U X 0 0] 23 (0,0))).alloc (Y #[Z W 0] 31 (0,0))=j at f k ⊢;generalize w.heap.size+1+1=o at f ⊢;generalize w.heap.size+1=l at f ⊢;generalize w.heap.size=p at f ⊢;have b:ah j (aD S d D*(al S*(pt p (Y #[Z W a] 3 (0,0))*(pt l (Y #[U X 0 0] 23 (0,0))*(pt o (Y #[Z W 0] 31 (0,0))*F))))):=f.u00;have i:=mS j S d D a _ b;rw [show decide (D.has a)=N by simpa using q] at i;clear f h;refine lq i ?_;rintro e j ⟨rfl,rfl⟩;have r:=b.aC.cell 0;have u:=b.aC.frozen;have t:=(b.aC.setCell 0 (U X 0 0)).aI.cell 0;have y:=(b.aC.setCell 0 (U X 0 0)).aI.frozen;have z:l≠o:=(b.aI.aI).ne;have s:=b.aI.cell 0;have x:=b.aI.frozen;have g:=((b.aC.setCell 0 (U X 0 0)).aI.setCell 0 (Z W 1))
 clear i b
 gi_wp2
 refine ⟨_,fo rfl rfl (g.aj.cell 0) (g.cell 0),?_⟩;exact ⟨_,rfl,ah.jH (g.right.right.ly) De0,(k.setCell _ _).setCell _ _⟩
def JD (w:O) (S:Hp) (d:Nat) (D:aw) (a:Int) (F:ai) (h:ah w (aD S d D*(al S*F))) (l:D.Ok) (p:D.has a) (o:D.dh=2) :
  Calls Q 191 #[R (V ⟨d,0,X⟩),Z W a] w (nB S d D.begun (2,[]) F w):=by
 have f:=((h.alloc (Y #[Z W a] 3 (0,0))).alloc (Y #[U X 0 0] 23 (0,0))).alloc (Y #[Z W 0] 31 (0,0));have q:=(((ak.refl w).alloc (Y #[Z W a] 3 (0,0))).alloc (Y #[U X 0 0] 23 (0,0))).alloc (Y #[Z W 0] 31 (0,0));rw [D9,D9] at f;refine (callsIn_wide (n:=9)).1 ?_;refine callsIn_of_wp_marks func191 rfl trivial ?_ rfl;simp only [ntmps191,D3,D1,D6,E5,E4,E3,E2,E1,H9,D7,H7]
 gi_wp2_with fail
 generalize ((w.alloc (Y #[Z W a] 3 (0,0))).alloc (Y #[U X 0 0] 23 (0,0))).alloc (Y #[Z W 0] 31 (0,0))=g at f q ⊢;generalize w.heap.size+1+1=s at f ⊢;generalize w.heap.size+1=r at f ⊢;generalize w.heap.size=t at f ⊢;have b:ah g (aD S d D*(al S*(pt t (Y #[Z W a] 3 (0,0))*(pt r (Y #[U X 0 0] 23 (0,0))*(pt s (Y #[Z W 0] 31 (0,0))*F))))):=f.u00;have k:=mS g S d D a _ b;rw [show decide (D.has a)=Z' by simpa using p] at k;have j:=pk g S d D _ b l;rw [o] at j;clear f h b l o p;refine lq k ?_;rintro e g ⟨rfl,rfl⟩;clear k
 gi_wp2_with fail
 refine lq j ?_;rintro e G ⟨rfl,b,u⟩;have x:=b.aC.cell 0;have A:=b.aC.frozen;have z:=(b.aC.setCell 0 (U X 0 0)).aI.cell 0;have C:=(b.aC.setCell 0 (U X 0 0)).aI.frozen;have E:r≠s:=(b.aI.aI).ne;have y:=b.aI.cell 0;have B:=b.aI.frozen;have i:=((b.aC.setCell 0 (U X 0 0)).aI.setCell 0 (Z W 2))
 clear j b
 gi_wp2
 refine ⟨_,fo rfl rfl (i.aj.cell 0) (i.cell 0),?_⟩;exact ⟨_,rfl,ah.jH (i.right.right.ly) De0,((q.trans u).setCell _ _).setCell _ _⟩
def jx (w:O) (S:Hp) (d:Nat) (D:aw) (a:Int) (F:ai) (h:ah w (aD S d D*(al S*F))) (f:D.Ok) :
  Calls Q 191 #[R (V ⟨d,0,X⟩),Z W a] w (nB S d (D.read a).2 (D.read a).1 F w):=by
 unfold aw.read
 by_cases e:D.has a
 .rw [if_pos e]
  rcases D.mB with b|b
  .rw [if_pos b];exact Rh w S d D a F h f e b
  .rw [if_neg (by rw [b];decide)];exact JD w S d D a F h f e b
 .rw [if_neg e];exact zZ w S d D a F h e
def LD (n:Nat):madeCells #[J5 X 0 0] n=(A1 n (J5 X 0 0)).toArray:=by
 apply Array.ext
 .simp [size_madeCells]
 .intro i a b
  simp [madeCells,Nat.mod_one]
def T6 (n:Nat) (w:O) (e:Ending) (a:O):Prop:=
 ∃ d,e = M (X' #[R (V ⟨d,0,X⟩),Z W 0])/\(∀ S,ah a (aD S d (aw.fresh n)*whole w))/\ak w a
def AY (n:Nat) (k:1<=n) (l:n<=20000) (w:O) :
  Calls Q 33 #[Z W n] w (T6 n w):=by
 have p:(1:Int)<=(n:Int):=Y'
 have q:(n:Int)<=20000:=Y'
 obtain ⟨j,d,f,e,b⟩:=info_parts Ei;have h:=run_make (P:=Q) w 94 23 j _ underlying94 d f W W n n Y' Y' (by rw [b];omega) Y';rw [e] at h;have o:=@run_makeMap Q;have a:=(((ah.whole w).alloc (Y (madeCells #[U X 0 0] n) 23 (0,0))).alloc (.map #[] 0)).alloc (Y #[U (V ⟨w.heap.size,0,X⟩) n n,U X 0 0,.map (V (w.heap.size+1)),Z W 0,Z W 0,Z W 0,W' N,W' N,Z W 0,U X 0 0] 99 (0,0));have i:=(((ak.refl w).alloc (Y (madeCells #[U X 0 0] n) 23 (0,0))).alloc (.map #[] 0)).alloc (Y #[U (V ⟨w.heap.size,0,X⟩) n n,U X 0 0,.map (V (w.heap.size+1)),Z W 0,Z W 0,Z W 0,W' N,W' N,Z W 0,U X 0 0] 99 (0,0));rw [D9,D9] at a;clear d f e b
 go_in
 go_wp2
 go_ret2
 refine ⟨_,rfl,fun S=>?_,i⟩;have g:=((a.aj.xw isMap_empty).au.dR 111 2).dR 3 1;refine ah.devOf (x:=⟨w.heap.size,w.heap.size+1,U X 0 0,U X 0 0,A1 n (U X 0 0,[]),[]⟩) (ah.iN ⟨by simp [aw.fresh],fun y hy=>?_,rfl,Si0⟩ (g.to ?_))
 .rw [List.eq_of_mem_replicate hy];exact ⟨by simp [small],.inl ⟨rfl,rfl⟩⟩
 .simp only [Dx.cells,aw.fresh,L8,List.map_replicate,ir,List.map_nil,ja,bK,List.flatMap_nil,D6,LD]
  ac_rfl
def aw.start (D:aw):Int × aw:=if D.down then (0,{ D with down:=N }) else (12,D)
def ow (w:O) (S:Hp) (d:Nat) (D:aw) (F:ai) (f:ah w (aD S d D*F)) :
  Calls Q 20 #[R (V ⟨d,0,X⟩)] w (RO S d (aw.start D).2 (Z W (aw.start D).1) F w):=by
 obtain ⟨x,a⟩:=f.tQ;have h:w.cell? ⟨d,6,X⟩=V (W' D.down):=a.cL 6;have j:=a.mG;have b:=a.bk.1;have e:=a.bk.2.setCell 6 (W' N);unfold aw.start;cases g:D.down
 .rw [g] at h
  clear a e
  go_in
  go_wp2
  go_ret
  exact ⟨rfl,f,ak.refl w⟩
 .rw [g] at h
  have i:=ae e;clear a f e g
  go_in
  go_wp2
  go_ret
  exact ⟨rfl,ah.devOf (x:=x) (ah.iN ⟨b.sec,b.sP,b.wait,b.mm⟩ i.o),(ak.refl w).setCell _ _⟩
end Go.Proofs.Nn
namespace Go.SL
open RowKit
variable {w:O} {F:ai}
def CM (g r:Nat) (l:List Int):ai:=pt r (Y #[U (V ⟨g,0,X⟩) l.length l.length] 332 (0,0))*pt g (Y (ints l) 3 (0,0))
def bC (r:Nat) (l:List Int):ai:=ex fun g=>CM g r l
def ah.oj {r:Nat} {l:List Int} (h:ah w (bC r l*F)):∃ g,ah w (pt r (Y #[U (V ⟨g,0,X⟩) l.length l.length] 332 (0,0))*(pt g (Y (ints l) 3 (0,0))*F)):=by
 obtain ⟨g,h⟩:=ah.aq.1 h;exact ⟨g,h.to (ar _ _ _)⟩
def ah.Nw {g r:Nat} {l:List Int} (h:ah w (pt r (Y #[U (V ⟨g,0,X⟩) l.length l.length] 332 (0,0))*(pt g (Y (ints l) 3 (0,0))*F))):ah w (bC r l*F):=
 ah.aq.2 ⟨g,h.to (ar _ _ _).symm⟩
end Go.SL
namespace Go.Proofs.Nn
open RowKit SL
def xy:(prog.info? 3).map (fun i=>(i.zero,i.size,i.bytes))=V (V (Z W 0),1,8):=Kr0
def oD (n:Nat) (f:n<=1048576) (w:O):(Instr.makeSlice 97 (Z W n) (Z W n)).run Q w =
  .ok (U (V ⟨w.heap.size,0,X⟩) n n) (w.alloc (Y (ints (A1 n 0)) 3 (0,0))):=by
 obtain ⟨i,b,e,d,a⟩:=info_parts xy;have:=run_make (P:=Q) w 97 3 i _ underlying97 b e W W n n Y' Y' (by rw [a];omega) Y';rw [this,d];simp only [B3];rw [I9]
def nQ (w:O) (r:Nat) (l:List Int) (F:ai) (h:ah w (bC r l*F)) :
  Calls Q 234 #[R (V ⟨r,0,X⟩)] w (lB l.length w):=by
 obtain ⟨g,h⟩:=h.oj;have a:w.cell? ⟨r,0,X⟩=V (U (V ⟨g,0,X⟩) l.length l.length):=h.cell 0;clear h
 go_in
 go_wp2
 go_ret
 exact ⟨rfl,rfl⟩
def AK {a n:Int} (b:0<n):a%n=if a.tmod n<0 then a.tmod n+n else a.tmod n:=by
 rw [Int.tmod_eq_emod];have d:=H6 a (by omega:n≠0);have e:=H5 a b
 split <;> split <;> omega
def de (w:O) (r:Nat) (l:List Int) (a:Int) (F:ai) (h:ah w (bC r l*F)) (j:0<l.length) (i:l.length<=1048576) :
  Calls Q 239 #[R (V ⟨r,0,X⟩),Z W a] w (lB (a%(l.length:Int)) w):=by
 obtain ⟨g,h⟩:=h.oj;have o:w.cell? ⟨r,0,X⟩=V (U (V ⟨g,0,X⟩) l.length l.length):=h.cell 0;have e:0<(l.length:Int):=Y'
 have p:(l.length:Int)<=1048576:=Y'
 have b:=AK (a:=a) e
 have f:-(l.length:Int)<a.tmod l.length/\a.tmod l.length<l.length:=by
  rw [Int.tmod_eq_emod];have i:=H6 a (by omega:(l.length:Int)≠0);have k:=H5 a e
  split <;> omega
 obtain ⟨f,q⟩:=f;rw [b];clear h b;have s:-1048576<=a.tmod l.length:=Y'
 have t:a.tmod l.length<=1048576:=Y'
 by_cases d:a.tmod l.length<0
 .rw [if_pos d]
  go_in
  go_wp2
  go_ret
  exact ⟨rfl,rfl⟩
 .rw [if_neg d]
  go_in
  go_wp2
  go_ret
  exact ⟨rfl,rfl⟩
def oN (a:Int) {n:Nat} (d:0<n):∃ k:Nat,a%(n:Int)=(k:Int)/\k<n:=by
 obtain ⟨k,b⟩:=D8 (H6 a (by omega:(n:Int)≠0));exact ⟨k,b,by have:=H5 a (by omega:(0:Int)<n);omega⟩
def G1 (w:O) (r:Nat) (l:List Int) (a:Int) (F:ai) (h:ah w (bC r l*F)) (f:0<l.length) (j:l.length<=1048576) :
  Calls Q 236 #[R (V ⟨r,0,X⟩),Z W a] w fun e b=>e = M (Z W (l.getD (a%(l.length:Int)).toNat 0))/\ah b (whole w)/\ak w b:=by
 obtain ⟨k,d,p⟩:=oN a f;have q:=de w r l a F h f j;rw [d] at q;obtain ⟨g,i⟩:=h.oj;have o:w.cell? ⟨r,0,X⟩=V (U (V ⟨g,0,X⟩) l.length l.length):=i.cell 0;have hv:w.cell? ⟨g,k,X⟩=V (Z W (l.getD k 0)):=(i.aj.cell k).trans (aY p);have t:(k:Int)<(l.length:Int):=Y'
 have s:Calls Q 239 #[R (V ⟨r,0,X⟩),Z W a] w.drew (lB k w.drew):=by
  have:=de w.drew r l a F h f j
  rwa [d] at this
 rw [d,B3];generalize l.getD k 0=v at hv;clear h i d
 go_in
 go_wp2_with fail
 go_region_held3 (fun b=>b.cell? ⟨r,0,X⟩=V (U (V ⟨g,0,X⟩) l.length l.length)/\b.cell? ⟨g,k,X⟩=V (Z W v)) (first|assumption|exact ⟨o,hv⟩) (first
  | (go_at_call 239;(with_reducible apply s.mono);rintro e u ⟨rfl,rfl⟩))
 go_wp2
 go_ret
 exact ⟨rfl,(ah.whole w).drew,(ak.refl w).drew⟩
def uV (w:O) (r:Nat) (l:List Int) (a x:Int) (F:ai) (h:ah w (bC r l*F)) (j:0<l.length) (p:l.length<=1048576) :
  Calls Q 271 #[R (V ⟨r,0,X⟩),Z W a,Z W x] w fun e d=>e = M (X' #[])/\ah d (bC r (l.set (a%(l.length:Int)).toNat x)*F)/\ak w d:=by
 obtain ⟨k,i,t⟩:=oN a j
 have u:Calls Q 239 #[R (V ⟨r,0,X⟩),Z W a] w.drew (lB k w.drew):=by
  have:=de w.drew r l a F h j p
  rwa [i] at this
 obtain ⟨g,b⟩:=h.oj;have q:w.cell? ⟨r,0,X⟩=V (U (V ⟨g,0,X⟩) l.length l.length):=b.cell 0;have hv:w.cell? ⟨g,k,X⟩=V (Z W (l.getD k 0)):=(b.aj.cell k).trans (aY t);have y:w.frozen? ⟨g,k,X⟩=N:=b.aj.frozen k;have z:(k:Int)<(l.length:Int):=Y'
 have f:=(b.aj.setCell k (Z W x)).aj;have s:=f.cell 0;have o:=ae f;rw [i,B3];generalize l.getD k 0=v at hv;clear h b i f
 go_in
 go_region_held3 (fun d=>d.cell? ⟨r,0,X⟩=V (U (V ⟨g,0,X⟩) l.length l.length)) (first|assumption|exact q|exact s) (first
  | (go_at_call 239;(with_reducible apply u.mono);rintro e A ⟨rfl,rfl⟩))
 go_wp2
 go_end0
 have e:(l.set k x).length=l.length:=L6;refine ⟨rfl,ah.Nw (g:=g) ?_,((ak.refl w).setCell _ _).drew⟩;rw [e,<- eS];exact o.o
def xE (w:O) (r:Nat) (l:List Int) (a b:Int) (F:ai) (h:ah w (bC r l*F)) (f:0<l.length) (g:l.length<=1048576) :
  Calls Q 171 #[R (V ⟨r,0,X⟩),Z W a,Z W b] w (lB ((a+b)%(l.length:Int)) w):=by
 have i:=de w r l a F h f g;have j:=de w r l b F h f g;have d:=de w r l (a%(l.length:Int)+b%(l.length:Int)) F h f g;rw [<- Int.add_emod] at d;have q:=H6 a (by omega:(l.length:Int)≠0);have o:=H5 a (by omega:(0:Int)<l.length);have t:=H6 b (by omega:(l.length:Int)≠0);have p:=H5 b (by omega:(0:Int)<l.length);have a3:a%(l.length:Int)<=1048576:=Y'
 have u:b%(l.length:Int)<=1048576:=Y'
 generalize (a+b)%(l.length:Int)=s at d ⊢;generalize a%(l.length:Int)=x at *;generalize b%(l.length:Int)=y at *;clear h o p
 go_in
 go_wp2_with fail
 apply i.mono;rintro e k ⟨rfl,rfl⟩;clear i
 go_wp2_with fail
 apply j.mono;rintro e k ⟨rfl,rfl⟩;clear j
 go_wp2_with fail
 apply d.mono;rintro e k ⟨rfl,rfl⟩;clear d
 go_wp2
 go_ret
 exact ⟨rfl,rfl⟩
def NJ (n:Nat) (v:Int) (w:O) (e:Ending) (a:O):Prop:=∃ r,e = M (R (V ⟨r,0,X⟩))/\ah a (bC r (A1 n v)*whole w)/\ak w a
def FF (g r:Nat) (n:Nat) (v:Int) (w:O) (u:L) (wr:O):Prop:=
 ∃ k:Nat,k<=n/\u = Z W k/\ah wr (CM g r (A1 k v++A1 (n-k) 0)*whole w)/\ak w wr
def sN (n k:Nat) (v:Int) (h:k<n):(A1 k v++A1 (n-k) (0:Int)).set k v=A1 (k+1) v++A1 (n-(k+1)) 0:=by
 have e:n-k=(n-(k+1))+1:=Y'
 rw [e,List.replicate_succ,List.set_append_right _ _ Si0];simp [List.replicate_succ']
def tK (n:Nat) (v:Int) (w:O) (x:1<=n) (o:n<=1048576) :
  Calls Q 196 #[Z W n,Z W v] w (NJ n v w):=by
 have C:(1:Int)<=(n:Int):=Y'
 have D:(n:Int)<=1048576:=Y'
 have s:=oD n o w;have d:=((ah.whole w).alloc (Y (ints (A1 n 0)) 3 (0,0))).alloc (Y #[U (V ⟨w.heap.size,0,X⟩) n n] 332 (0,0));have j:=((ak.refl w).alloc (Y (ints (A1 n 0)) 3 (0,0))).alloc (Y #[U (V ⟨w.heap.size,0,X⟩) n n] 332 (0,0));rw [D9] at d
 go_in
 go_wp2
 generalize (w.alloc (Y (ints (A1 n 0)) 3 (0,0))).alloc (Y #[U (V ⟨w.heap.size,0,X⟩) n n] 332 (0,0))=E at d j ⊢;generalize w.heap.size+1=r at d ⊢;generalize w.heap.size=g at d ⊢;clear s
 go_loopw [18] (fun u wr=>FF g r n v w u wr) (fun u _=>n-(intOf u).toNat)
 case atStart=>exact ⟨0,L5 _,rfl,d.to (by unfold CM;simp only [J3,D7,K2,L8];ac_rfl),j⟩
 case round=>
  obtain ⟨k,A,rfl,a,l⟩:=hrel;clear d j;have f:(A1 k v++A1 (n-k) (0:Int)).length=n:=by simp;omega
  have b:ah wr (pt g (Y (ints (A1 k v++A1 (n-k) 0)) 3 (0,0))*(pt r (Y #[U (V ⟨g,0,X⟩) n n] 332 (0,0))*whole w)):=by
   unfold CM at a;rw [f] at a;exact a.u00
  have y:=b.aj.cell 0
  by_cases i:k<n
  .have B:(k:Int)<(n:Int):=Y'
   have hv:wr.cell? ⟨g,k,X⟩=V (Z W ((A1 k v++A1 (n-k) (0:Int)).getD k 0)):=(b.cell k).trans (aY (by rw [f];exact i));have z:=b.frozen k;generalize (A1 k v++A1 (n-k) (0:Int)).getD k 0=q at hv;have h4:=b.setCell k (Z W v);rw [eS,sN n k v i] at h4;have h:=ae h4;have t:=ae f;clear b a h4 f
   go_wp2
   go_roundw
   case rel=>
    refine ⟨k+1,Y',by go_num,h.o.to ?_,l.setCell _ _⟩;have e:(A1 (k+1) v++A1 (n-(k+1)) (0:Int)).length=n:=by simp;omega
    unfold CM;rw [e];ac_rfl
   case measure=>simp [intOf];omega
  .obtain rfl:k=n:=Y'
   rw [K8,J3,List.append_nil] at a;have h:=ae a;clear b a f i
   go_wp2
   go_ret
   exact ⟨r,rfl,h.o.ib fun _ p=>⟨g,p⟩,l⟩
end Go.Proofs.Nn
namespace Go.Proofs.Nn
open RowKit SL
attribute [local go_sem] Oper.semAt_some
def kJ (b a d r:Nat) (m first:Nat):ai:=
 pt b (Y #[Z W (m:Int)] 3 (0,0))*(pt a (Y #[R (V ⟨r,0,X⟩)] 181 (0,0))*pt d (Y #[Z W (first:Int)] 3 (0,0)))
def V2 (r:Nat) (l:List Int) (m first:Nat) (F:ai) (w:O) (e:Ending) (f:O):Prop:=
 ∃ b a d,e = M (.func (.func 317) #[] #[R (V ⟨b,0,X⟩),R (V ⟨a,0,X⟩),R (V ⟨d,0,X⟩)])/\ah f (kJ b a d r m first*(bC r l*F))/\ak w f
def Mc (w:O) (r:Nat) (l:List Int) (a:Int) (m:Nat) (F:ai) (h:ah w (bC r l*F)) (x:0<l.length) (H:l.length<=1048576) (hm:m<=l.length) :
  Calls Q 293 #[R (V ⟨r,0,X⟩),Z W a,Z W m] w (V2 r l m (a%(l.length:Int)).toNat F w):=by
 obtain ⟨k,s,d0⟩:=oN a x;have f:=(h.alloc (Y #[R (V ⟨r,0,X⟩)] 181 (0,0))).alloc (Y #[Z W m] 3 (0,0));have z:=((ak.refl w).alloc (Y #[R (V ⟨r,0,X⟩)] 181 (0,0))).alloc (Y #[Z W m] 3 (0,0));rw [D9] at f;rw [s,B3];have g0:0<=(m:Int):=Y'
 have h0:(m:Int)<=(l.length:Int):=Y'
 go_in
 go_wp2_with fail
 generalize (w.alloc (Y #[R (V ⟨r,0,X⟩)] 181 (0,0))).alloc (Y #[Z W m] 3 (0,0))=d at f z ⊢;generalize w.heap.size+1=i at f ⊢;generalize w.heap.size=j at f ⊢;have I:ah d (bC r l*(pt j (Y #[R (V ⟨r,0,X⟩)] 181 (0,0))*(pt i (Y #[Z W m] 3 (0,0))*F))):=f.u00;have G:d.cell? ⟨i,0,X⟩=V (Z W m):=f.cell 0;have K:d.frozen? ⟨i,0,X⟩=N:=f.frozen 0;have E:d.cell? ⟨j,0,X⟩=V (R (V ⟨r,0,X⟩)):=f.aj.cell 0;have f0:i<d.heap.size:=f.lt;have e0:j<d.heap.size:=f.aj.lt;obtain ⟨g,o⟩:=Mn0 (pt i (Y #[Z W m] 3 (0,0))*(pt j (Y #[R (V ⟨r,0,X⟩)] 181 (0,0))*(bC r l*F)))
 have S:∀ b,ah b g->b.cell? ⟨i,0,X⟩=V (Z W m):=fun b h=>(o▸h).cell 0;have P:∀ b,ah b g->b.cell? ⟨j,0,X⟩=V (R (V ⟨r,0,X⟩)):=fun b h=>(o▸h).aj.cell 0;have y:ah d.drew g:=o▸f;have b0:ah (d.drew.alloc (Y #[Z W 0] 3 (0,0))) g:=(y.alloc _).right;have c0:ah (d.drew.alloc (Y #[Z W k] 3 (0,0))) g:=(y.alloc _).right
 have p:ah ((d.setCell ⟨i,0,X⟩ (Z W m)).alloc (Y #[Z W k] 3 (0,0))).drew (pt d.heap.size (Y #[Z W k] 3 (0,0))*g):=by
  have h:=(f.setCell 0 (Z W m)).alloc (Y #[Z W k] 3 (0,0));rw [show (d.setCell ⟨i,0,X⟩ (Z W m)).heap.size=d.heap.size by simp [World.setCell]] at h;rw [o];exact h.to (by simp only [D5,D4])
 have q:∀ b,ah b g->ah b (bC r l*(pt j (Y #[R (V ⟨r,0,X⟩)] 181 (0,0))*(pt i (Y #[Z W m] 3 (0,0))*F))):=fun b h=>(o▸h).u00
 have Hp:Hid (∀ b,ah b g->Calls Q 239 #[R (V ⟨r,0,X⟩),Z W a] b (lB k b)):=fun b h=>by
  have:=de b r l a _ (q b h) x H
  rwa [s] at this
 have D:Hid (∀ b,ah b g->Calls Q 234 #[R (V ⟨r,0,X⟩)] b (lB l.length b)):=fun b h=>nQ b r l _ (q b h);have A:(if l.length<m then (l.length:Int) else (m:Int))=(m:Int):=if_neg Y'
 have B:(if (l.length:Int)<(if (m:Int)<0 then 0 else (m:Int)) then (l.length:Int) else if (m:Int)<0 then 0 else (m:Int))=(m:Int):=by
  rw [if_neg (by omega:¬ (m:Int)<0),if_neg Y']
 have t:=ae A;have u:=ae B;have C:=ae o;clear h s I f o G E q A B
 go_region_held3 (fun b=>ah b g) (first|assumption|(rw [t.o];exact p.right)|(rw [u.o];exact p.right)|exact p.right) (first
  | (go_at_call 239;(with_reducible apply (Hp.o _ As0).mono);rintro e J ⟨rfl,rfl⟩)
  | (go_at_call 234;(with_reducible apply (D.o _ As0).mono);rintro e J ⟨rfl,rfl⟩))
 all_goals
  first|rw [t.o]|rw [u.o]
  go_wp2
  go_ret
  refine ⟨i,j,d.heap.size,rfl,?_,((z.setCell _ _).alloc _).drew⟩;exact p.to (by rw [C.o];unfold kJ;ac_rfl)
def places (n first m:Nat):List Nat:=(List.range m).map fun i=>(first+i)%n
def pV (n first m:Nat):(places n first m).length=m:=by simp [places]
def DL (n first m k:Nat) (h:k<m):(places n first m).take k++[(first+k)%n]=(places n first m).take (k+1):=by
 rw [L4 (by rw [pV];exact h)];simp [places]
def Bn (l:List Int) (p:Nat) (a:Array L):ai:=fact (a=#[Z W (p:Int),Z W (l.getD p 0)])
def Rc (A:List Nat->ai) (n first m:Nat) (a:ai) (w0:O) (i:L) (wr:O):Prop:=
 ∃ k:Nat,k<=m/\i = Z W (k:Int)/\ak w0 wr/\ah wr (A ((places n first m).take k)*a)
def IM (n:Nat) (d b f r:Nat) (l:List Int) (m first:Nat) (B:0<l.length) (S:l.length<=1048576) (hm:m<=l.length) (hf:first<l.length) :
  oC (Dt (bC r l)) Fence.wide n Q 317 #[R (V ⟨d,0,X⟩),R (V ⟨b,0,X⟩),R (V ⟨f,0,X⟩)] (kJ d b f r m first) (Bn l)
   (fun o=>o=places l.length first m) (fun o=>o <+: places l.length first m):=by
 rintro lp _ Ax G w0 w ⟨A,rfl⟩ hY hs u;have a:ah w (pt d (Y #[Z W (m:Int)] 3 (0,0))*(pt b (Y #[R (V ⟨r,0,X⟩)] 181 (0,0))*(pt f (Y #[Z W (first:Int)] 3 (0,0))*(bC r l*(A []*G))))):=u.to (by unfold kJ;dsimp only;ac_rfl);have K:=a.cell 0;have f0:(m:Int)<=1048576:=Y'
 have d0:(l.length:Int)<=1048576:=Y'
 clear a;refine callsIn_of_wp func317 rfl trivial ?_ rfl;simp only [ntmps317,D3,D1,D6,E5,E4,E3,E2,E1,H9,D7,H7]
 gi_wp2
 gi_loopw [8] (fun i wr=>Rc (fun o=>bC r l*A o) l.length first m (kJ d b f r m first*G) w0 i wr) (fun i _=>m-(intOf i).toNat)
 case atStart=>exact ⟨0,L5 _,rfl,hs,u⟩
 case round=>
  clear u K;obtain ⟨k,hk,rfl,H,j⟩:=hrel;replace j:ah wr ((bC r l*A ((places l.length first m).take k))*(kJ d b f r m first*G)):=j;have a:ah wr (pt d (Y #[Z W (m:Int)] 3 (0,0))*(pt b (Y #[R (V ⟨r,0,X⟩)] 181 (0,0))*(pt f (Y #[Z W (first:Int)] 3 (0,0))*(bC r l*(A ((places l.length first m).take k)*G))))):=j.to (by unfold kJ;ac_rfl)
  by_cases b0:k<m
  .have e0:(k:Int)<(m:Int):=Y'
   have c3:=a.aj.cell 0;have c7:=a.au.cell 0;have s:=xE wr r l (first:Int) (k:Int) _ a.aC B S;have E:((first:Int)+(k:Int))%(l.length:Int)=(((first+k)%l.length:Nat):Int):=Si0
   rw [E] at s;have F:(first+k)%l.length<l.length:=Nat.mod_lt _ B;have q:=DL l.length first m k b0
   have t:(places l.length first m).take k++[(first+k)%l.length] <+: places l.length first m:=by rw [q];exact List.take_prefix _ _
   generalize (first+k)%l.length=p at s F q t;have g0:(p:Int)<(l.length:Int):=Y'
   obtain ⟨g,x⟩:=a.aC.oj;have cr:=x.cell 0;have P:wr.cell? ⟨g,p,X⟩=V (Z W (l.getD p 0)):=(x.aj.cell p).trans (aY F)
   have C:ah wr ((bC r l*A ((places l.length first m).take k))*(Bn l p #[Z W (p:Int),Z W (l.getD p 0)]*(kJ d b f r m first*G))):=
    (ah.ao.2 ⟨rfl,j⟩:ah wr (fact _*_)).to (by unfold Bn;ac_rfl)
   obtain ⟨fn,h0,assign,body,hy,hR⟩:=hY _ p #[Z W (p:Int),Z W (l.getD p 0)] _ wr t H C;have I:=ae q;have J:=ae t;clear C j a q t x E;generalize l.getD p 0=v at P hy
   gi_wp2_with fail
   refine mh s ?_;rintro e w1 ⟨rfl,rfl⟩;clear s
   gi_wp2
   refine ⟨fun h=>(by cases h),hR.mono ?_⟩;rintro e c0 (⟨rfl,y,z⟩|⟨rfl,y,z⟩)
   .gi_wp2
    go_roundw
    case rel=>exact ⟨k+1,Y',by go_num,y,by rw [<- I.o];exact z⟩
    case measure=>simp [intOf];omega
   .gi_wp2
    refine bodyPost_ret (results_none rfl _ _ _) rfl ?_;exact ⟨⟨_,rfl⟩,y,.inr ⟨_,J.o,z⟩⟩
  .obtain rfl:k=m:=Y'
   have D:(places l.length first k).take k=places l.length first k:=by
    have:=pV l.length first k
    exact L3 Y'
   rw [D] at j;clear a D
   gi_wp2
   go_end0
   exact ⟨⟨_,rfl⟩,H,.inl ⟨_,rfl,j⟩⟩
end Go.Proofs.Nn
namespace Go.SL
open RowKit
variable {w:O} {F:ai}
structure Tb where
 ps:List Int
 os:List Int
 c:Int
structure Tb.Ok (T:Tb):Prop where
 n:T.ps.length<=1048576
 m:T.os.length<=1048576
 ps:∀ v ∈ T.ps,v=-1\/(0<=v/\v<T.os.length)
def told (l:List Int) (i:Int):Option Int:=if 0<=i/\i<l.length/\l.getD i.toNat 0 ≠ -1 then V (l.getD i.toNat 0) else X
def qR (o:Option Int):L:=X' #[Z W (o.getD 0),W' o.isSome]
def Tb.fresh (b p:Nat):Tb:=⟨A1 b (-1),A1 p (-1),0⟩
def Tb.drop (T:Tb) (id:Int):Bool × Tb:=match told T.ps id with
 | some p=>(Z',⟨T.ps.set id.toNat (-1),T.os.set p.toNat (-1),bP (T.c-1)⟩)
 | none=>(N,T)
def Tb.put (T:Tb) (a place:Int):Bool × Tb:=
 if 0<=a/\a<T.ps.length/\0<=place/\place<T.os.length/\(T.os.getD place.toNat 0=-1\/T.os.getD place.toNat 0=a) then
  (Z',⟨(T.drop a).2.ps.set a.toNat place,(T.drop a).2.os.set place.toNat a,bP ((T.drop a).2.c+1)⟩)
 else (N,T)
structure Tx where
 g1:Nat
 g2:Nat
def E7 (x:Tx) (t:Nat) (T:Tb):ai:=
 pt t (Y #[U (V ⟨x.g1,0,X⟩) T.ps.length T.ps.length,U (V ⟨x.g2,0,X⟩) T.os.length T.os.length,Z W T.c] 299 (0,0))*(pt x.g1 (Y (ints T.ps) 3 (0,0))*pt x.g2 (Y (ints T.os) 3 (0,0)))
def bG (t:Nat) (T:Tb):ai:=ex fun x=>E7 x t T
def ah.qN {t:Nat} {T:Tb} (h:ah w (bG t T*F)):∃ x:Tx,ah w (pt t (Y #[U (V ⟨x.g1,0,X⟩) T.ps.length T.ps.length,U (V ⟨x.g2,0,X⟩) T.os.length T.os.length,Z W T.c] 299 (0,0))*(pt x.g1 (Y (ints T.ps) 3 (0,0))*(pt x.g2 (Y (ints T.os) 3 (0,0))*F))):=by
 obtain ⟨x,h⟩:=ah.aq.1 h;exact ⟨x,h.to (by unfold E7;ac_rfl)⟩
def ah.An {t:Nat} {T:Tb} (x:Tx) (h:ah w (pt t (Y #[U (V ⟨x.g1,0,X⟩) T.ps.length T.ps.length,U (V ⟨x.g2,0,X⟩) T.os.length T.os.length,Z W T.c] 299 (0,0))*(pt x.g1 (Y (ints T.ps) 3 (0,0))*(pt x.g2 (Y (ints T.os) 3 (0,0))*F)))):ah w (bG t T*F):=
 ah.aq.2 ⟨x,h.to (by unfold E7;ac_rfl)⟩
end Go.SL
namespace Go.Proofs.Nn
open RowKit SL
def ij (w:O) (a:Option Addr) (n c:Nat) (i:Int):Calls Q 237 #[U a n c,Z W i] w (vS (decide (0<=i/\i<(n:Int))) w):=by
 by_cases d:0<=i
 .by_cases b:i<(n:Int)
  .rw [show decide (0<=i/\i<(n:Int))=Z' by simp [d,b]]
   go_in
   go_wp2
   go_ret
   exact ⟨rfl,rfl⟩
  .rw [show decide (0<=i/\i<(n:Int))=N by simp [b]]
   have e:decide (i<(n:Int))=N:=by simpa using b
   go_in
   go_wp2
   go_ret
   exact ⟨rfl,rfl⟩
 .rw [show decide (0<=i/\i<(n:Int))=N by simp [d]]
  go_in
  go_wp2
  go_ret
  exact ⟨rfl,rfl⟩
def E8 (o:Option Int) (w:O) (e:Ending) (a:O):Prop:=e = M (qR o)/\w=a
def rI (w:O) (g:Nat) (l:List Int) (i:Int) (F:ai) (h:ah w (pt g (Y (ints l) 3 (0,0))*F)) :
  Calls Q 272 #[U (V ⟨g,0,X⟩) l.length l.length,Z W i] w (E8 (told l i) w):=by
 have b:=ij w (V ⟨g,0,X⟩) l.length l.length i
 by_cases a:0<=i/\i<(l.length:Int)
 .rw [show decide (0<=i/\i<(l.length:Int))=Z' by simpa using a] at b
  obtain ⟨k,rfl⟩:=D8 a.1;have s:(k:Int)<(l.length:Int):=a.2;have q:k<l.length:=Y'
  have d:w.cell? ⟨g,k,X⟩=V (Z W (l.getD k 0)):=(h.cell k).trans (aY q)
  by_cases hv:l.getD k 0=-1
  .have e:told l (k:Int)=X:=by unfold told;rw [if_neg];rintro ⟨_,_,p⟩;exact p (by rw [B3];exact hv)
   rw [e];rw [hv] at d;clear e a h hv
   go_in
   go_wp2_with (go_at_call 237;(with_reducible apply b.mono);rintro e f ⟨rfl,rfl⟩)
   go_ret2
   exact ⟨rfl,rfl⟩
  .have e:told l (k:Int)=V (l.getD k 0):=by unfold told;rw [if_pos ⟨a.1,a.2,by rw [B3];exact hv⟩,B3]
   have r:(l.getD k 0 == -1)=N:=by simpa using hv
   rw [e];clear e a h hv;generalize l.getD k 0=v at d r
   go_in
   go_wp2_with (go_at_call 237;(with_reducible apply b.mono);rintro e f ⟨rfl,rfl⟩)
   go_ret2
   exact ⟨rfl,rfl⟩
 .rw [show decide (0<=i/\i<(l.length:Int))=N by simpa using a] at b
  have e:told l i=X:=by unfold told;rw [if_neg];rintro ⟨j,o,_⟩;exact a ⟨j,o⟩
  rw [e];clear e a h
  go_in
  go_wp2_with (go_at_call 237;(with_reducible apply b.mono);rintro e f ⟨rfl,rfl⟩)
  go_ret2
  exact ⟨rfl,rfl⟩
def N5 (w:O) (t:Nat) (T:Tb) (a:Int) (F:ai) (h:ah w (bG t T*F)) :
  Calls Q 201 #[R (V ⟨t,0,X⟩),Z W a] w (E8 (told T.ps a) w):=by
 obtain ⟨x,b⟩:=h.qN;have d:=rI w x.g1 T.ps a _ b.aj;have f:w.cell? ⟨t,0,X⟩=V (U (V ⟨x.g1,0,X⟩) T.ps.length T.ps.length):=b.cell 0;generalize told T.ps a=o at d ⊢;clear h b
 go_in
 go_wp2_with (go_at_call 272;(with_reducible apply d.mono);rintro e g ⟨rfl,rfl⟩;unfold qR)
 go_ret2
 exact ⟨rfl,rfl⟩
def LH (w:O) (t:Nat) (T:Tb) (a:Int) (F:ai) (h:ah w (bG t T*F)) :
  Calls Q 294 #[R (V ⟨t,0,X⟩),Z W a] w (E8 (told T.os a) w):=by
 obtain ⟨x,b⟩:=h.qN;have d:=rI w x.g2 T.os a _ b.au;have f:w.cell? ⟨t,1,X⟩=V (U (V ⟨x.g2,0,X⟩) T.os.length T.os.length):=b.cell 1;generalize told T.os a=o at d ⊢;clear h b
 go_in
 go_wp2_with (go_at_call 272;(with_reducible apply d.mono);rintro e g ⟨rfl,rfl⟩;unfold qR)
 go_ret2
 exact ⟨rfl,rfl⟩
def tj {l:List Int} {i p:Int} (h:told l i=V p):∃ k:Nat,i=(k:Int)/\k<l.length/\l.getD k 0=p/\p ≠ -1:=by
 unfold told at h
 split at h
 .rename_i d
  obtain ⟨b,e,a⟩:=d;obtain ⟨k,rfl⟩:=D8 b;rw [B3] at h a;have h:=Option.some.inj h;exact ⟨k,rfl,Y',h,by rw [<- h];exact a⟩
 .cases h
def Pk {T:Tb} (h:T.Ok) {i p:Int} (l:told T.ps i=V p):∃ j:Nat,p=(j:Int)/\j<T.os.length:=by
 obtain ⟨k,rfl,a,g,f⟩:=tj l;have d:p ∈ T.ps:=by rw [<- g,List.getD,List.getElem?_eq_getElem a];exact H2 a
 rcases h.ps p d with e|⟨b,o⟩
 .exact absurd e f
 .obtain ⟨j,rfl⟩:=D8 b
  exact ⟨j,rfl,Y'⟩
def WR (t:Nat) (b:Bool) (T:Tb) (F:ai) (w:O) (e:Ending) (a:O):Prop:=e = M (W' b)/\ah a (bG t T*F)/\ak w a
def Oj (w:O) (t:Nat) (T:Tb) (g:Int) (F:ai) (h:ah w (bG t T*F)) (l:T.Ok) :
  Calls Q 238 #[R (V ⟨t,0,X⟩),Z W g] w (WR t (T.drop g).1 (T.drop g).2 F w):=by
 have i:=N5 w t T g F h;unfold Tb.drop
 match d:told T.ps g with
 | none=>
  rw [d] at i;clear d
  go_in
  go_wp2_with (go_at_call 201;(with_reducible apply i.mono);rintro e G ⟨rfl,rfl⟩;unfold qR)
  go_ret
  exact ⟨rfl,h,ak.refl w⟩
 | some p=>
  rw [d] at i;obtain ⟨k,rfl,C,_,_⟩:=tj d;obtain ⟨j,rfl,B⟩:=Pk l d;obtain ⟨x,f⟩:=h.qN;have S:(k:Int)<(T.ps.length:Int):=Y'
  have P:(j:Int)<(T.os.length:Int):=Y'
  have r:w.cell? ⟨t,0,X⟩=V (U (V ⟨x.g1,0,X⟩) T.ps.length T.ps.length):=f.cell 0;have y:w.cell? ⟨t,1,X⟩=V (U (V ⟨x.g2,0,X⟩) T.os.length T.os.length):=f.cell 1;have D:w.cell? ⟨x.g1,k,X⟩=V (Z W (T.ps.getD k 0)):=(f.aj.cell k).trans (aY C);have I:=f.aj.frozen k;have b:=(f.aj.setCell k (Z W (-1)))
  have s:=b.aj.cell 0;have z:=b.aj.cell 1;have E:(w.setCell ⟨x.g1,k,X⟩ (Z W (-1))).cell? ⟨x.g2,j,X⟩=V (Z W (T.os.getD j 0)):=(b.au.cell j).trans (aY B);have J:=b.au.frozen j;have a:=b.au.setCell j (Z W (-1));have u:=a.au.cell 0;have A:=a.au.cell 1;have H:((w.setCell ⟨x.g1,k,X⟩ (Z W (-1))).setCell ⟨x.g2,j,X⟩ (Z W (-1))).cell? ⟨t,2,X⟩=V (Z W T.c):=a.au.cell 2;have K:=a.au.frozen 2;rw [eS] at a b;rw [eS] at a;have q:=ae (a.au.setCell 2 (Z W (bP (T.c-1))));simp only [B3];generalize T.ps.getD k 0=vk at D;generalize T.os.getD j 0=vj at E;clear d h f b a l
  go_in
  go_wp2_with (go_at_call 201;(with_reducible apply i.mono);rintro e G ⟨rfl,rfl⟩;unfold qR)
  go_region_held3 (fun o=>o.cell? ⟨t,0,X⟩=V (U (V ⟨x.g1,0,X⟩) T.ps.length T.ps.length)/\o.cell? ⟨t,1,X⟩=V (U (V ⟨x.g2,0,X⟩) T.os.length T.os.length)) (first|assumption|exact ⟨r,y⟩|exact ⟨s,z⟩|exact ⟨u,A⟩) (fail)
  go_wp2
  go_ret
  refine ⟨rfl,ah.An x ?_,((((ak.refl w).setCell _ _).setCell _ _).drew).setCell _ _⟩;simp only [L6];exact (q.o.drew).to (by simp only [D5,D4,List.set_cons_succ];ac_rfl)
def AB (T:Tb) (a:Int):(T.drop a).2.ps.length=T.ps.length/\(T.drop a).2.os.length=T.os.length:=by
 unfold Tb.drop
 split <;> simp
def fA (w:O) (t:Nat) (T:Tb) (a place:Int) (F:ai) (h:ah w (bG t T*F)) (u:T.Ok) :
  Calls Q 170 #[R (V ⟨t,0,X⟩),Z W a,Z W place] w (WR t (T.put a place).1 (T.put a place).2 F w):=by
 obtain ⟨x,p⟩:=h.qN;have J:w.cell? ⟨t,0,X⟩=V (U (V ⟨x.g1,0,X⟩) T.ps.length T.ps.length):=p.cell 0;have K:w.cell? ⟨t,1,X⟩=V (U (V ⟨x.g2,0,X⟩) T.os.length T.os.length):=p.cell 1;have g:=ij w (V ⟨x.g1,0,X⟩) T.ps.length T.ps.length a;have i:=ij w (V ⟨x.g2,0,X⟩) T.os.length T.os.length place
 by_cases b:0<=a/\a<(T.ps.length:Int)
 .rw [show decide (0<=a/\a<(T.ps.length:Int))=Z' by simpa using b] at g
  by_cases d:0<=place/\place<(T.os.length:Int)
  .rw [show decide (0<=place/\place<(T.os.length:Int))=Z' by simpa using d] at i
   obtain ⟨k,rfl⟩:=D8 b.1;obtain ⟨j,rfl⟩:=D8 d.1;have hk:k<T.ps.length:=Y'
   have P:j<T.os.length:=Y'
   have m0:(k:Int)<(T.ps.length:Int):=Y'
   have l0:(j:Int)<(T.os.length:Int):=Y'
   have I:w.cell? ⟨x.g2,j,X⟩=V (Z W (T.os.getD j 0)):=(p.au.cell j).trans (aY P)
   by_cases hv:T.os.getD j 0=-1\/T.os.getD j 0=(k:Int)
   .have e:T.put (k:Int) (j:Int)=(Z',⟨(T.drop (k:Int)).2.ps.set k (j:Int),(T.drop (k:Int)).2.os.set j (k:Int),bP ((T.drop (k:Int)).2.c+1)⟩):=by
     unfold Tb.put;rw [if_pos ⟨b.1,b.2,d.1,d.2,by simpa using hv⟩];simp
    have A:=Oj w t T k F h u;obtain ⟨E,G⟩:=AB T k;rw [e];generalize hD:(T.drop (k:Int)).2=D at A E G ⊢;generalize (T.drop (k:Int)).1=db at A
    have o:((T.os.getD j 0 != -1)=N)\/((T.os.getD j 0 != -1)=Z'/\(T.os.getD j 0 != (k:Int))=N):=by
     rcases hv with hv|hv
     .left;rw [hv];rfl
     .by_cases S:T.os.getD j 0=-1
      .left;rw [S];rfl
      .right;exact ⟨by simpa using S,by rw [hv];simp⟩
    clear e hv b d h p u hD;generalize T.os.getD j 0=v at I o;have B:=ae E;have C:=ae G;clear E G;rcases o with o|⟨o,b0⟩
    all_goals
     go_in
     go_wp2_with (first
      | (go_at_call_of 237 (J2 W (k:Int));(with_reducible apply g.mono);rintro e s ⟨rfl,rfl⟩)
      | (go_at_call_of 237 (J2 W (j:Int));(with_reducible apply i.mono);rintro e s ⟨rfl,rfl⟩))
     (with_reducible apply A.mono)
     rintro e z ⟨rfl,r,d3⟩;obtain ⟨y,hy⟩:=r.qN;rw [B.o,C.o] at hy;have h0:k<D.ps.length:=by rw [B.o];exact hk
     have g0:j<D.os.length:=by rw [C.o];exact P
     have J:z.cell? ⟨t,0,X⟩=V (U (V ⟨y.g1,0,X⟩) T.ps.length T.ps.length):=hy.cell 0;have K:z.cell? ⟨t,1,X⟩=V (U (V ⟨y.g2,0,X⟩) T.os.length T.os.length):=hy.cell 1;have s1:z.cell? ⟨y.g1,k,X⟩=V (Z W (D.ps.getD k 0)):=(hy.aj.cell k).trans (aY h0);have f1:=hy.aj.frozen k;have l:=(hy.aj.setCell k (Z W (j:Int)))
     have c0:=l.aj.cell 0;have e0:=l.aj.cell 1;have s2:(z.setCell ⟨y.g1,k,X⟩ (Z W (j:Int))).cell? ⟨y.g2,j,X⟩=V (Z W (D.os.getD j 0)):=(l.au.cell j).trans (aY g0);have f2:=l.au.frozen j;have f:=l.au.setCell j (Z W (k:Int));have d0:=f.au.cell 0;have f0:=f.au.cell 1;have i0:((z.setCell ⟨y.g1,k,X⟩ (Z W (j:Int))).setCell ⟨y.g2,j,X⟩ (Z W (k:Int))).cell? ⟨t,2,X⟩=V (Z W D.c):=f.au.cell 2;have k0:=f.au.frozen 2;rw [eS] at f l;rw [eS] at f;have H4:=ae (f.au.setCell 2 (Z W (bP (D.c+1))));generalize D.ps.getD k 0=vk at s1;generalize D.os.getD j 0=vj at s2;clear A g i I r hy l f o
     go_wp2
     go_region_held3 (fun w'=>w'.cell? ⟨t,0,X⟩=V (U (V ⟨y.g1,0,X⟩) T.ps.length T.ps.length)/\w'.cell? ⟨t,1,X⟩=V (U (V ⟨y.g2,0,X⟩) T.os.length T.os.length)) (first|assumption|exact ⟨J,K⟩|exact ⟨c0,e0⟩|exact ⟨d0,f0⟩) (fail)
     go_wp2
     go_ret
     refine ⟨rfl,ah.An y ?_,(((d3.setCell _ _).setCell _ _).drew).setCell _ _⟩;simp only [L6,B.o,C.o];exact (H4.o.drew).to (by simp only [D5,D4,List.set_cons_succ];ac_rfl)
   .have e:T.put (k:Int) (j:Int)=(N,T):=by
     unfold Tb.put;rw [if_neg];rintro ⟨_,_,_,_,h5⟩;exact hv (by simpa using h5)
    rw [e];have o:(T.os.getD j 0 != -1)=Z':=by simp only [bne_iff_ne,ne_eq];exact fun q=>hv (.inl q)
    have b0:(T.os.getD j 0 != (k:Int))=Z':=by simp only [bne_iff_ne,ne_eq];exact fun q=>hv (.inr q)
    have H:=ae h;clear e hv b d h p u;generalize T.os.getD j 0=v at I o b0
    go_in
    go_wp2_with (first
     | (go_at_call_of 237 (J2 W (k:Int));(with_reducible apply g.mono);rintro e s ⟨rfl,rfl⟩)
     | (go_at_call_of 237 (J2 W (j:Int));(with_reducible apply i.mono);rintro e s ⟨rfl,rfl⟩))
    go_ret
    exact ⟨rfl,H.o,ak.refl w⟩
  .rw [show decide (0<=place/\place<(T.os.length:Int))=N by simpa using d] at i
   have e:T.put a place=(N,T):=by
    unfold Tb.put;rw [if_neg];rintro ⟨_,_,r,h4,_⟩;exact d ⟨r,h4⟩
   rw [e];have H:=ae h;clear e b d h p u
   go_in
   go_wp2_with fail
   apply g.mono;rintro e s ⟨rfl,rfl⟩;clear g
   go_wp2_with fail
   apply i.mono;rintro e s ⟨rfl,rfl⟩;clear i
   go_wp2
   go_ret
   exact ⟨rfl,H.o,ak.refl w⟩
 .rw [show decide (0<=a/\a<(T.ps.length:Int))=N by simpa using b] at g
  have e:T.put a place=(N,T):=by
   unfold Tb.put;rw [if_neg];rintro ⟨r,h4,_⟩;exact b ⟨r,h4⟩
  rw [e];have H:=ae h;clear e b h p u i
  go_in
  go_wp2_with (go_at_call 237;(with_reducible apply g.mono);rintro e s ⟨rfl,rfl⟩)
  go_ret
  exact ⟨rfl,H.o,ak.refl w⟩
end Go.Proofs.Nn
namespace Go.Proofs.Nn
open RowKit SL
attribute [local go_sem] Oper.semAt_some
def TD (n:Nat) (w:O) (e:Ending) (a:O):Prop:=∃ g,e = M (U (V ⟨g,0,X⟩) n n)/\ah a (pt g (Y (ints (A1 n (-1))) 3 (0,0))*whole w)/\ak w a
def Pu (g:Nat) (n:Nat) (w:O) (u:L) (wr:O):Prop:=
 ∃ k:Nat,k<=n/\u = Z W k/\ah wr (pt g (Y (ints (A1 k (-1)++A1 (n-k) 0)) 3 (0,0))*whole w)/\ak w wr
def zc (n:Nat) (w:O) (j:n<=1048576):Calls Q 312 #[Z W n] w (TD n w):=by
 have s:(0:Int)<=(n:Int):=Y'
 have t:(n:Int)<=1048576:=Y'
 have l:=oD n j w;have b:=((ah.whole w).alloc (Y (ints (A1 n 0)) 3 (0,0)))
 have h:=((ak.refl w).alloc (Y (ints (A1 n 0)) 3 (0,0)))
 go_in
 go_wp2
 generalize w.alloc (Y (ints (A1 n 0)) 3 (0,0))=x at b h ⊢;generalize w.heap.size=g at b ⊢;clear l
 go_loopw [11] (fun u wr=>Pu g n w u wr) (fun u _=>n-(intOf u).toNat)
 case atStart=>exact ⟨0,L5 _,rfl,b.to (by simp only [J3,D7,K2]),h⟩
 case round=>
  obtain ⟨k,p,rfl,a,i⟩:=hrel;clear b h;have e:(A1 k (-1)++A1 (n-k) (0:Int)).length=n:=by simp;omega
  by_cases f:k<n
  .have r:(k:Int)<(n:Int):=Y'
   have hv:wr.cell? ⟨g,k,X⟩=V (Z W ((A1 k (-1)++A1 (n-k) (0:Int)).getD k 0)):=(a.cell k).trans (aY (by rw [e];exact f));have o:=a.frozen k;generalize (A1 k (-1)++A1 (n-k) (0:Int)).getD k 0=q at hv;have h4:=a.setCell k (Z W (-1));rw [eS,sN n k (-1) f] at h4;have d:=ae h4;clear a h4 e
   go_wp2
   go_roundw
   case rel=>exact ⟨k+1,Y',by go_num,d.o,i.setCell _ _⟩
   case measure=>simp [intOf];omega
  .obtain rfl:k=n:=Y'
   rw [K8,J3,List.append_nil] at a;have d:=ae a;clear a e f
   go_wp2
   go_ret
   exact ⟨g,rfl,d.o,i⟩
def Q6 (b p:Nat) (w:O) (e:Ending) (a:O):Prop:=∃ t,e = M (R (V ⟨t,0,X⟩))/\ah a (bG t (Tb.fresh b p)*whole w)/\ak w a
def Gi (b p:Nat) (w:O) (i:b<=1048576) (j:p<=1048576):Calls Q 270 #[Z W b,Z W p] w (Q6 b p w):=by
 go_in
 go_wp2_with fail
 apply (zc b w i).mono;rintro e k ⟨g1,rfl,f,a⟩
 go_wp2_with fail
 apply (zc p k j).mono;rintro e l ⟨g2,rfl,g,d⟩;have h:=(g.under f).alloc (Y #[U (V ⟨g1,0,X⟩) b b,U (V ⟨g2,0,X⟩) p p,Z W 0] 299 (0,0))
 go_wp2
 go_ret
 refine ⟨_,rfl,ah.An ⟨g1,g2⟩ ?_,(a.trans d).alloc _⟩;exact h.to (by simp only [Tb.fresh,L8];ac_rfl)
def CX (x:Int × Int) (a:Array L):ai:=fact (a=#[Z W x.1,Z W x.2])
end Go.Proofs.Nn

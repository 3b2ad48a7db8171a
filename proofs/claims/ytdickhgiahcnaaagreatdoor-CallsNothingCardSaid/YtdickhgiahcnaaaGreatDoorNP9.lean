/- Steps. -/
import Derived.Test.YtdickhgiahcnaaaGreatDoorNP7
import Derived.Test.YtdickhgiahcnaaaGreatDoorNP8
import Derived.TacticsInMore
import Derived.LoopNIn
import Derived.LoopIn
set_option linter.all false
set_option maxRecDepth 99999
set_option maxHeartbeats 0
open Go.SL
open Go.Value renaming int->Z,slice->U,pointer->S,tuple->X'
open Go.IntKind renaming i64->W
open Go.Obj renaming cells->Y
open Go.Ending renaming returned->N
open Go renaming World->Q,Value->M
open Go.Proofs.Tryz renaming prog->R
open Option renaming some->V,none->X
open Bool renaming true->Z',false->O
open Go.SL renaming Om0->Y'
open Go.Proofs.Tryz
open List renaming replicate->A3,nil_append->B2,length_nil->B1,setIfInBounds_toArray->D9,set_cons_zero->D8,size_toArray->D7,length_cons->D6,push_toArray->E5,append_toArray->E2,cons_append->E1,getElem_mem->H6,replicate_zero->H2,length_map->K2,length_replicate->K1,length_set->L8,take_succ_eq_append_getElem->L5,take_of_length_le->L4
open Int renaming toNat_natCast->A2,eq_ofNat_of_zero_le->B3,emod_nonneg->H9,emod_lt_of_pos->H7
open Go.World renaming size_alloc->A1
open Nat renaming reduceAdd->D5,reduceSub->D4,sub_self->J2,le_refl->K8,sub_zero->K3,zero_le->L6
open Array renaming replicate_succ->D3,replicate_zero->D1
open Go.Value renaming slice->H5,int->J3
namespace Go.Proofs.Nn
open RowKit SL
attribute [local go_sem] Oper.semAt_some
variable {P:Program} {f:FuncId} {args:Array M} {w:Q}
def kq {a b:Ending->Q->Prop} {n m:Nat} (h:Calls P f args w a) (d:∀ e w,a e w->b e w) :
  Fence.wide.fn f/\(Fence.wide.depth.isSome=Z'->1<=m)/\CallsIn Fence.wide n P f args w b:=⟨trivial,fun h=>(by cases h),(callsIn_wide.2 h).mono d⟩
def nk {a b:Ending->Q->Prop} {n:Nat} (h:Calls P f args w a) (d:∀ e w,a e w->b e w) :
  Fence.wide.fn f/\CallsIn Fence.wide n P f args w b:=⟨trivial,(callsIn_wide.2 h).mono d⟩
def sy {a b:Ending->Q->Prop} {n l:Nat} (h:Calls P f args w a) (d:∀ e w,a e w->b e w) :
  Fence.wide.fn f/\CallsIn (Fence.wide.inRound l) n P f args w b:=⟨trivial,CallsIn.inRound l ((callsIn_wide.2 h).mono d)⟩
def Lk (p:Option Addr) (w:Q) (e:Ending) (a:Q):Prop:=e = N (.func (.func 268) #[] #[S (V ⟨w.heap.size,0,X⟩)])/\a=w.alloc (Y #[.pointer p] 27 (0,0))
def CV (w:Q) (p:Option Addr):Calls R 247 #[.pointer p] w (Lk p w):=by
 go_in
 go_wp2
 go_ret
 exact ⟨rfl,rfl⟩
def gK (b:Nat) (x:Dx) (a:Hp) (d:Nat) (D:aB):ai:=pt b (Y #[S (V ⟨d,0,X⟩)] 27 (0,0))*gB x a d D
def Nu (z:Int × M × List UInt8) (b:Array M):ai:=fact (b=#[.agg #[Z W z.1,z.2.1]]/\∃ a n c,z.2.1 = U a n c)
def Jd (A:Zs->ai) (a:Zs) (b:ai) (w0:Q) (i:M) (wr:Q):Prop:=
 ∃ k:Nat,k<=a.length/\i = Z W ((k:Int)-1)/\aj w0 wr/\ag wr (A (a.reverse.take (a.length-k))*b)
def Me (a:Zs) (k:Nat) (h:k<a.length):a.reverse.take (a.length-(k+1))++[a[k]]=a.reverse.take (a.length-k):=by
 have e:a.length-k=(a.length-(k+1))+1:=Y'
 rw [e,L5 (by simp;omega)];congr 2;rw [List.getElem_reverse];congr 1;omega
def BY (n:Nat) (x:Dx) (j:Hp) (e d:Nat) (D:aB) (hD:D.wait.length<=1000000) :
  fF Fence.wide n R 268 #[S (V ⟨e,0,X⟩)] (gK e x j d D) Nu (fun C=>C=x.Z.reverse) (fun C=>C <+: x.Z.reverse):=by
 intro l A Ax G w0 w hY hs I;have b:ag w (gB x j d D*(pt e (Y #[S (V ⟨d,0,X⟩)] 27 (0,0))*(A []*G))):=I.to (by unfold gK;ac_rfl);have b0:=b.ah.cell 0;obtain ⟨B,wc,y⟩:=b.RT;have p:=b.rE;have k1:w.cell? ⟨d,1,X⟩=V (U B x.Z.length wc):=(b.cQ 1).trans (by rw [p];simp only [Dx.cells,y];rfl);have H:=ae y;have hn:(x.Z.length:Int)<=1000000:=Y'
 have j0:ag w (A (x.Z.reverse.take (x.Z.length-x.Z.length))*(gK e x j d D*G)):=by rw [J2,List.take_zero];exact I
 have E:=ae p;clear y b p;refine callsIn_of_wp func268 rfl trivial ?_ rfl;simp only [ntmps268,D7,D6,B1,D5,D4,D3,D1,E5,E2,B2,E1]
 gi_wp2
 gi_loopw [3] (fun i wr=>Jd A x.Z (gK e x j d D*G) w0 i wr) (fun i _=>(intOf i+1).toNat)
 case atStart=>exact ⟨x.Z.length,K8 _,rfl,hs,j0⟩
 case round=>
  obtain ⟨k,J,rfl,K,f⟩:=hrel;have b:ag wr (gB x j d D*(pt e (Y #[S (V ⟨d,0,X⟩)] 27 (0,0))*(A (x.Z.reverse.take (x.Z.length-k))*G))):=f.to (by unfold gK;ac_rfl);have b0:=b.ah.cell 0;have k1:wr.cell? ⟨d,1,X⟩=V (U B x.Z.length wc):=(b.cQ 1).trans (by rw [E.o];simp only [Dx.cells,H.o];rfl)
  match k,J,f,b with
  | 0,_,f,b=>
   have e0:x.Z.reverse.take (x.Z.length-0)=x.Z.reverse:=by rw [K3,<- List.length_reverse,List.take_length]
   rw [e0] at f
   gi_wp2
   go_end0
   exact ⟨⟨_,rfl⟩,K,.inl ⟨_,rfl,f⟩⟩
  | k+1,J,f,b=>
   have r:k<x.Z.length:=Y'
   have l0:(k:Int)<(x.Z.length:Int):=Y'
   have g0:(((k+1:Nat):Int)-1)=(k:Int):=Y'
   have u:=b.bJ.2.au;obtain ⟨g,c,o⟩:=qU u Y';have f0:B=V ⟨g,0,X⟩/\wc=c:=by rw [H.o,<- E.o] at o;exact ⟨(Value.slice.inj o).1,(Value.slice.inj o).2.2⟩
   obtain ⟨rfl,rfl⟩:=f0;rw [o] at u;obtain ⟨c0,d0⟩:=u.kH r;have q:=Me x.Z k r;obtain ⟨z,L⟩:=Nm (x.Z[k])
   rw [L] at c0 d0 q;have P:=ae q;have h0:x.Z.reverse.take (x.Z.length-(k+1))++[z] <+: x.Z.reverse:=by rw [q];exact List.take_prefix _ _
   have F:=ae h0
   have i0:∃ a n c,z.2.1 = U a n c:=by
    obtain ⟨a,c,hh⟩:=iY (b.bJ.1.ng z (by rw [<- L];exact H6 r));exact ⟨_,_,_,hh⟩
   have hT:ag wr (A (x.Z.reverse.take (x.Z.length-(k+1)))*(Nu z #[.agg #[Z W z.1,z.2.1]]*(gK e x j d D*G))):=
    (ag.aq.2 ⟨(⟨rfl,i0⟩:(#[Value.agg #[Z W z.1,z.2.1]]:Array M)=#[.agg #[Z W z.1,z.2.1]]/\∃ a n c,z.2.1 = U a n c),f⟩:ag wr (fact _*_)).to (by unfold Nu;ac_rfl)
   obtain ⟨fn,m0,assign,body,hy,hR⟩:=hY _ z #[.agg #[Z W z.1,z.2.1]] _ wr F.o K hT;rw [g0]
   gi_wp2
   refine ⟨fun h=>(by cases h),hR.mono ?_⟩;rintro k0 W' (⟨rfl,s,t⟩|⟨rfl,s,t⟩)
   .gi_wp2
    go_roundw
    case rel=>exact ⟨k,Y',rfl,s,by rw [<- P.o];exact t⟩
    case measure=>simp [intOf]
   .gi_wp2
    refine bodyPost_ret (results_none rfl _ _ _) rfl ?_;exact ⟨⟨_,rfl⟩,s,.inr ⟨_,F.o,t⟩⟩
def nL (a:Hp) (d:Nat) (D:aB) (A:Int × List UInt8) (F:ai) (w:Q) (e:Ending) (f:Q):Prop:=
 ∃ b,e = N (X' #[b,Z W A.1])/\ag f (pS 5 A b*(aR a d D*(al a*F)))/\aj w f
def tH (b:Hp) (d f g:Nat) (a:Int) (e:M) (c:Int):ai:=
 pt d (Y #[Z W a] 3 (0,0))*(pt f (Y #[e] 23 (0,0))*(pt g (Y #[Z W c] 31 (0,0))*al b))
def lX (b:Hp) (d e f:Nat) (a:Int) (g:Zs):ai:=fact (∀ z ∈ g,¬ z.1=a)*tH b d e f a (U X 0 0) 0
def Ih (b:Hp) (d e f:Nat) (a:Int) (c:Code) (g:Zs):ai:=ex fun p:Zs × (Int × M × List UInt8) × Nat=>
 fact (c = .ret/\g=p.1++[p.2.1]/\(∀ z ∈ p.1,¬ z.1=a)/\p.2.1.1=a)*(pt p.2.2 (Y (ed (bY 512 p.2.1.2.2)) 5 (0,0))*tH b d e f a (U (V ⟨p.2.2,0,X⟩) 512 512) 0)
def Vj (h:Hp) (b f g j d:Nat) (a l k:Int) (o:Zs) (z:Int × M × List UInt8) (i:Act):ai:=ex fun e=>
 fact (i={ tmps:=#[S (V ⟨d,0,X⟩),Z W a,undef,S (V ⟨b,0,X⟩),S (V ⟨f,0,X⟩),S (V ⟨g,0,X⟩),Z W 0,S (V ⟨e,0,X⟩),undef,undef,S (V ⟨d,0,X⟩),Z W a,.bool Z',.bool O,S (V ⟨d,0,X⟩),Z W 0,Z W 0,.bool O,undef,S (V ⟨d,0,X⟩),S (V ⟨d,0,X⟩),S (V ⟨d,3,X⟩),S (V ⟨d,3,X⟩),Z W k,Z W l,S (V ⟨d,0,X⟩),S (V ⟨d,3,X⟩),S (V ⟨d,3,X⟩),S (V ⟨d,0,X⟩),.func (.func 268) #[] #[S (V ⟨j,0,X⟩)],.agg #[Z W z.1,z.2.1],undef,undef,undef,undef,undef,undef,undef,undef,undef,undef,undef,undef,undef,undef,undef,undef,undef,undef,undef,undef,undef,undef,undef,undef,undef],defers:=[] })*(pt e (Y #[Z W z.1,z.2.1] 230 (0,0))*lX h b f g a o)
def Jo (w:Q):(zeroValue 214).run R w = .ok (.agg #[]) w:=Kr0
def IE (t:List (Int × Unit)) (a:Int):(aM (gU t) a).getD (.agg #[]) = .agg #[]:=by
 have:=ku (fun _:Unit=>Value.agg #[]) t a;rw [gU,this];cases aM t a <;> rfl
def CK {b:Zs} {l:List (Int × List UInt8)} {a:Int} (e:b.map (fun z=>(z.1,z.2.2))=l) (h:∀ z ∈ b.reverse,¬ z.1=a):ew l a=X:=by
 subst e;rw [ew,Option.map_eq_none_iff,List.find?_eq_none];intro p d;rw [List.mem_reverse,List.mem_map] at d;obtain ⟨z,f,rfl⟩:=d;simpa using h z (by simpa using f)
def CR {f:Zs} {l:List (Int × List UInt8)} {a:Int} (e:f.map (fun z=>(z.1,z.2.2))=l) {g:Zs} {z:Int × M × List UInt8} (b:g++[z] <+: f.reverse) (h:∀ z ∈ g,¬ z.1=a) (d:z.1=a):ew l a=V z.2.2:=by
 subst e;obtain ⟨t,i⟩:=b;rw [ew,<- List.map_reverse,<- i,List.append_assoc,List.map_append,List.find?_append,List.find?_eq_none.2]
 .simp [d]
 .intro p b
  obtain ⟨z,d,rfl⟩:=List.mem_map.1 b;simpa using h z d
def qK {T:TypeId} {g n:Nat} {l:List UInt8} {F:ai} (a:l.length=n) (h:ag w (pt g (Y (ed l) T (0,0))*F)) (d:n<=1000000:=by omega):ag w (bs T (U (V ⟨g,0,X⟩) n n) l*F):=by
 have b:=ag.nM (sz:=1) (n:=n) (cap:=n) h (K8 n) (by unfold maxLen;omega) (by rw [fj,a,Nat.mul_one]);refine b.to ?_;have e:(ed l).toList.take (n*1)=l.map u8:=L4 (by rw [ed,List.toList_toArray,K2,a,Nat.mul_one];exact K8 _);rw [e,bs,a]
def ft {a b:Nat} {v u:M} (h4:args[4]?=V (S (V ⟨a,0,X⟩))) (h5:args[5]?=V (S (V ⟨b,0,X⟩))) (d:w.cell? ⟨a,0,X⟩=V v) (e:w.cell? ⟨b,0,X⟩=V u) :
  (results Tryz.f228 args).run R w = .ok (X' #[v,u]) w:=by
 simp [results,Tryz.results228,go_sem,h4,h5,d,e]
def O6 (w:Q) (i:Hp) (d:Nat) (D:aB) (a:Int) (F:ai) (h:ag w (aR i d D*(al i*F))) (hD:D.Ok) (hh:D.has a) (hb:D.cT=0) :
  Calls R 228 #[S (V ⟨d,0,X⟩),Z W a] w (nL i d { D.begun with cr:=cE (D.begun.cr+1) } (D.begun.cD a) F w):=by
 have S0:=hD.up hb;obtain ⟨e,o0⟩:=Mn0 D.begun
 have j0:e.has a:=by rw [o0,aB.Bu hb];exact hh
 rw [<- o0] at S0 ⊢;have Z0:=ae o0;clear o0;have hA:=((h.alloc (Y #[Z W a] 3 (0,0))).alloc (Y #[U X 0 0] 23 (0,0))).alloc (Y #[Z W 0] 31 (0,0));have x0:=(((aj.refl w).alloc (Y #[Z W a] 3 (0,0))).alloc (Y #[U X 0 0] 23 (0,0))).alloc (Y #[Z W 0] 31 (0,0));rw [A1,A1] at hA;refine (callsIn_wide (n:=9)).1 ?_;refine callsIn_of_wp_marks func228 rfl trivial ?_ rfl;simp only [ntmps228,D7,D6,B1,D5,D4,D3,D1,E5,E2,B2,E1]
 gi_wp2_with fail
 generalize ((w.alloc (Y #[Z W a] 3 (0,0))).alloc (Y #[U X 0 0] 23 (0,0))).alloc (Y #[Z W 0] 31 (0,0))=w1 at hA x0 ⊢;generalize w.heap.size+1+1=k at hA ⊢;generalize w.heap.size+1=j at hA ⊢;generalize w.heap.size=r at hA ⊢;have H1:ag w1 (aR i d D*(al i*(pt r (Y #[Z W a] 3 (0,0))*(pt j (Y #[U X 0 0] 23 (0,0))*(pt k (Y #[Z W 0] 31 (0,0))*F))))):=hA.u00;have ch:=mP w1 i d D a _ H1;rw [show decide (D.has a)=Z' by simpa using hh] at ch;have cb:=ph w1 i d D _ H1 hD;rw [hb,<- Z0.o] at cb;clear hA h hb hD;refine nk ch ?_;rintro m0 w1 ⟨rfl,rfl⟩;clear ch
 gi_wp2_with fail
 refine nk cb ?_;rintro m0 w2 ⟨rfl,B,d2⟩;clear cb H1;obtain ⟨x,hx⟩:=B.xf;have G:=hx.bJ.1;have k3:w2.cell? ⟨d,3,X⟩=V (Z W e.cr):=hx.cQ 3;have kf:=hx.oL
 have n0:ag (w2.setCell ⟨d,3,X⟩ (Z W (cE (e.cr+1)))) (gB x i d { e with cr:=cE (e.cr+1) }*(al i*(pt r (Y #[Z W a] 3 (0,0))*(pt j (Y #[U X 0 0] 23 (0,0))*(pt k (Y #[Z W 0] 31 (0,0))*F))))):=
  ag.jg ⟨G.sec,G.um,G.wait,G.ng⟩ (hx.bJ.2.setCell 3 (Z W (cE (e.cr+1))))
 have V0:=(x0.trans d2).setCell ⟨d,3,X⟩ (Z W (cE (e.cr+1)))
 gi_wp2_with fail
 generalize w2.setCell ⟨d,3,X⟩ (Z W (wrap64 (e.cr+1)))=w3 at n0 V0 ⊢;clear k3 kf hx B x0 d2;refine nk (CV w3 _) ?_;rintro m0 w4 ⟨rfl,rfl⟩;have H4:=n0.alloc (Y #[S (V ⟨d,0,X⟩)] 27 (0,0));have W0:=V0.alloc (Y #[S (V ⟨d,0,X⟩)] 27 (0,0))
 gi_wp2_with fail
 generalize w3.alloc (Y #[S (V ⟨d,0,X⟩)] 27 (0,0))=w4 at H4 W0 ⊢;generalize w3.heap.size=bx at H4 ⊢
 have q0:ag w4 (lX i r j k a []*(gK bx x i d { e with cr:=cE (e.cr+1) }*F)):=
  (ag.aq.2 ⟨fun z hz=>(by cases hz),H4⟩:ag w4 (fact _*_)).to (by unfold lX tH gK;ac_rfl)
 refine kB (w0:=w) rfl De0 (gf:=268) (lb:=#[S (V ⟨bx,0,X⟩)]) rfl trivial (enters func268 Kr0 rfl)
  (BY _ x i bx d { e with cr:=cE (e.cr+1) } S0.many) (lX i r j k a) (Ih i r j k a) (Vj i r j k bx d a (wrap64 (e.cr+1)) e.cr) F ?hps W0 q0 ?assign ?body ?done ?stop
 case hps=>
  intro z vs Fr p H;obtain ⟨⟨rfl,_⟩,_⟩:=ag.aq.1 H
  rfl
 case assign=>
  intro l F0 h0 z vs Fr p i1 _ c0 H hK;obtain ⟨⟨rfl,da,dn,dc,hz⟩,B⟩:=ag.aq.1 (H.to (aD _ _ _));obtain ⟨q,dv,P⟩:=z;simp only at hz;subst hz;have H3:=B.alloc (Y #[Z W q,U da dn dc] 230 (0,0));clear H B H4 q0 n0
  gi_wp2
  refine hK _ _ (c0.alloc _) (ag.aw.2 ⟨p.heap.size,(ag.aq.2 ⟨rfl,H3⟩:ag _ (fact _*_)).u00⟩)
 case body=>
  intro l F0 h0 z a' Fr p hp c0 H;obtain ⟨bz,H1⟩:=ag.aw.1 H;obtain ⟨rfl,B⟩:=ag.aq.1 (H1.to (ay _ _ _))
  have h1:z ∈ x.Z:=by
   obtain ⟨j1,I⟩:=hp;have:z ∈ x.Z.reverse:=by rw [<- I];simp
   simpa using this
  have s:=G.ng z h1;obtain ⟨da,dc,L0⟩:=iY s;obtain ⟨q,dv,P⟩:=z;simp only at L0 s;subst L0;have H3:ag p (lX i r j k a h0*(pt bz (Y #[Z W q,U da P.length dc] 230 (0,0))*(pt l (.loop F0)*Fr))):=B.u00;obtain ⟨p0,J4⟩:=ag.aq.1 (H3.to (ay _ _ _));have C:ag p (al i*(pt r (Y #[Z W a] 3 (0,0))*(pt j (Y #[U X 0 0] 23 (0,0))*(pt k (Y #[Z W 0] 31 (0,0))*(pt bz (Y #[Z W q,U da P.length dc] 230 (0,0))*(pt l (.loop F0)*Fr)))))):=J4.to (by unfold tH;ac_rfl);have c3:=C.ah.cell 0;have b1:=C.aJ.cell 0;have c1:=C.aJ.cell 1;have T0:=s.rd C;have f1:P.length<=9223372036854775807:=by have:=s.1;unfold small at this;omega
  have Hp:=ae p0
  by_cases hq:q=a
  .have e1:(q == a)=Z':=by simpa using hq
   have Hq:=ae hq;clear hq
   gi_wp2_with fail
   refine sy (la p _ P T0 f1) ?_;rintro m0 w5 ⟨g,rfl,h5,d5⟩;have f:=h5.under C;have c4:=f.aA.cell 0;have f4:=f.aA.frozen;have c5:=f.aJ.cell 0;have f5:=f.aJ.frozen;have H0:=(f.aA.setCell 0 (U (V ⟨g,0,X⟩) 512 512)).aJ.cell 0;have K0:=(f.aA.setCell 0 (U (V ⟨g,0,X⟩) 512 512)).aJ.frozen;have N0:j≠k:=(f.aJ.aJ).ne;have E:=((f.aA.setCell 0 (U (V ⟨g,0,X⟩) 512 512)).tG.aJ.setCell 0 (Z W 0)).yY;clear c3 b1 c1 T0 C h5 f
   gi_wp2
   refine ⟨((c0.trans d5).setCell _ _).setCell _ _,ag.aw.2 ⟨(h0,(q,U da P.length dc,P),g),(ag.aq.2 ⟨(⟨rfl,rfl,Hp.o,Hq.o⟩:Code.ret = .ret/\h0++[(q,H5 da P.length dc,P)]=h0++[(q,H5 da P.length dc,P)]/\(∀ z ∈ h0,¬ z.1=a)/\q=a),E.U3⟩:ag _ (fact _*_)).to ?_⟩⟩;unfold tH;simp only [D9,D8]
   ac_rfl
  .have e1:(q == a)=O:=by simpa using hq
   gi_wp2
   refine ⟨c0,(ag.aq.2 ⟨?_,C.Vi⟩:ag _ (fact _*_)).to (by unfold lX tH;ac_rfl)⟩;intro z hz;rcases List.mem_append.1 hz with hz|hz
   .exact Hp.o z hz
   .rw [List.mem_singleton.1 hz];exact hq
 case done=>
  intro D2 ys p hS c0 H;subst hS;have B:=H;obtain ⟨R0,H3⟩:=ag.aq.1 (B.to (ay _ _ _));have d0:ew e.wait a=X:=CK G.wait R0;clear R0 q0 H4 n0 H B
  have C:ag p (gB x i d { e with cr:=cE (e.cr+1) }*(al i*(pt r (Y #[Z W a] 3 (0,0))*(pt j (Y #[U X 0 0] 23 (0,0))*(pt k (Y #[Z W 0] 31 (0,0))*(pt D2 (.deferred (V []))*F)))))):=
   (H3.to (by unfold tH gK;ac_rfl:_=pt bx (Y #[S (V ⟨d,0,X⟩)] 27 (0,0))*_)).right
  obtain ⟨e0,i0⟩:=Mn0 (gB x i d { e with cr:=cE (e.cr+1) }*(al i*(pt r (Y #[Z W a] 3 (0,0))*(pt j (Y #[U X 0 0] 23 (0,0))*(pt k (Y #[Z W 0] 31 (0,0))*(pt D2 (.deferred (V []))*F))))))
  rw [<- i0] at C;have g2:∀ b,ag b e0->b.cell? ⟨d,2,X⟩=V (.map (V x.tm)):=fun b h=>(i0▸h).cQ 2;have g3:∀ b,ag b e0->b.cell? ⟨r,0,X⟩=V (Z W a):=fun b h=>(i0▸h).au.cell 0
  have gl:∀ b,ag b e0->(Instr.lookup 87 (.map (V x.tm)) (Z W a) Z').run R b = .ok (X' #[.agg #[],.bool (aM e.nz a).isSome]) b:=fun b h=>by
   have:=(i0▸h).bJ.2.aA.lookup (P:=R) underlying87 underlying3 (Jo b) a Z';rw [this,IE,EZ];rfl
  have l0:ag (p.drew.alloc (Y #[] 214 (0,0))) e0:=(ag.alloc (w:=p.drew) C _).right;have HB:=ae i0;clear i0 H3
  gi_wp2
  refine wpIn_wide.2 ?_
  go_region_held3 (fun b=>ag b e0) (first|assumption|exact C.drew|exact l0) (fail)
  .have b0:ag (p.alloc (Y #[] 214 (0,0))).drew e0:=l0
   have f0:=(c0.alloc (Y #[] 214 (0,0))).drew;clear gl l0 C;generalize (p.alloc (Y #[] 214 (0,0))).drew=W6 at f0 b0 ⊢;generalize p.heap.size=bt;have f:=HB.o▸b0
   by_cases I:(aM e.nz a).isSome=Z'
   .have u:e.cD a=(3,[]):=by rw [aB.cD,d0];simp only [I,if_true]
    have c4:=f.aA.cell 0;have f4:=f.aA.frozen;have c5:=f.aJ.cell 0;have f5:=f.aJ.frozen;have H0:=(f.aA.setCell 0 (U X 0 0)).aJ.cell 0;have K0:=(f.aA.setCell 0 (U X 0 0)).aJ.frozen;have N0:j≠k:=(f.aJ.aJ).ne;have E:=((f.aA.setCell 0 (U X 0 0)).aJ.setCell 0 (Z W 3))
    have A:=ae u;have Y0:=ae f;clear u f d0 hh b0 g2 g3 HB;rw [I]
    go_wp2
    gi_wp2
    refine ⟨Si0,.inl ⟨_,_,rfl,run_takeDeferred E.eu.heap,?_⟩⟩;have H8:=E.eu.putObj (.deferred X);refine ⟨X' #[U X 0 0,Z W 3],ft rfl rfl (H8.au.cell 0) (H8.ah.cell 0),_,by rw [A.o],?_,((f0.setCell _ _).setCell _ _).putObj _ _⟩;rw [A.o];exact ag.jC (ag.devOf (H8.right.right.right.lS)) De0
   .simp only [Bool.not_eq_true] at I
    have u0:x.Y.length=e.sec.length:=by rw [<- G.sec,K2]
    obtain ⟨n,rfl⟩:=B3 j0.1;have K:n<x.Y.length:=by have:=j0.2;omega
    have d1:(n:Int)<(x.Y.length:Int):=Y'
    have u:e.cD (n:Int)=(0,bY 512 x.Y[n].2):=by
     rw [aB.cD,d0];simp only [I,Bool.false_eq_true,if_false,A2,<- G.sec];simp [K]
    have s:=G.um _ (H6 K);obtain ⟨va,vc,hv⟩:=iY s;have g0:(x.Y.map Prod.fst)[n]?=V (U va x.Y[n].2.length vc):=by rw [<- hv];simp [K]
    rw [hv] at s;generalize x.Y[n].2=t at u s g0;obtain ⟨o,y⟩:=Mn0 (gB x i d { e with cr:=cE (e.cr+1) }*(al i*(pt r (Y #[Z W (n:Int)] 3 (0,0))*(pt D2 (.deferred (V []))*F))))
    have E:ag W6 (o*(pt j (Y #[U X 0 0] 23 (0,0))*pt k (Y #[Z W 0] 31 (0,0)))):=f.to (by rw [y];ac_rfl);have G0:∀ b,ag b o->b.cell? ⟨d,0,X⟩=V (U (V ⟨x.sg,0,X⟩) x.Y.length x.Y.length):=fun b h=>(y▸h).cQ 0;have G3:∀ b,ag b o->b.cell? ⟨r,0,X⟩=V (Z W (n:Int)):=fun b h=>(y▸h).au.cell 0;have Gs:∀ b,ag b o->b.cell? ⟨x.sg,n,X⟩=V (U va t.length vc):=fun b h=>((y▸h).bJ.2.ah.cell n).trans (by simpa using g0);have Gr:Hid (∀ b,ag b o->Rd b (U va t.length vc) t):=fun b h=>s.rd ((y▸h).ah);have D0:t.length<=9223372036854775807:=by have:=s.1;unfold small at this;omega
    have A:=ae u;have s0:=ae y;have a1:=ae K;clear u f d0 hh j0 b0 g2 g3 HB y s g0 hv K u0;rw [I]
    go_wp2
    gi_wp2
    refine wpIn_wide.2 ?_;have r0:=E;have k0:ag W6.drew o:=E.left
    go_region_held3 (fun b=>ag b o) (first|assumption|exact k0) (first
     | (go_at_call 217;(with_reducible apply (la _ _ t (Gr.o _ k0) D0).mono);rintro m0 L ⟨g,rfl,h7,d7⟩;have J7:=h7.under r0;have Jb:ag L o:=J7.right.left;have K4:ag L (pt j (Y #[U X 0 0] 23 (0,0))*(pt k (Y #[Z W 0] 31 (0,0))*(pt g (Y (ed (bY 512 t)) 5 (0,0))*o))):=J7.u00;have c4:=K4.cell 0;have f4:=K4.frozen;have K5:=(K4.setCell 0 (U (V ⟨g,0,X⟩) 512 512)).ah;have c5:=K5.cell 0;have f5:=K5.frozen;have K6:=K5.setCell 0 (Z W 0);have S1:ag (L.setCell ⟨j,0,X⟩ (U (V ⟨g,0,X⟩) 512 512)) o:=K5.right.right.right;have S2:ag ((L.setCell ⟨j,0,X⟩ (U (V ⟨g,0,X⟩) 512 512)).setCell ⟨k,0,X⟩ (Z W 0)) o:=K6.right.right.right))
    gi_wp2
    have K7:ag ((L.setCell ⟨j,0,X⟩ (U (V ⟨g,0,X⟩) 512 512)).setCell ⟨k,0,X⟩ (Z W 0)) (pt D2 (.deferred (V []))*(pt k (Y #[Z W 0] 31 (0,0))*(pt j (Y #[U (V ⟨g,0,X⟩) 512 512] 23 (0,0))*(pt g (Y (ed (bY 512 t)) 5 (0,0))*(gB x i d { e with cr:=cE (e.cr+1) }*(al i*(pt r (Y #[Z W (n:Int)] 3 (0,0))*F))))))):=
     K6.to (by rw [s0.o];simp only [D9,D8];ac_rfl)
    refine ⟨Si0,.inl ⟨_,_,rfl,run_takeDeferred K7.heap,?_⟩⟩;have J:=K7.putObj (.deferred X);refine ⟨X' #[U (V ⟨g,0,X⟩) 512 512,Z W 0],ft rfl rfl (J.au.cell 0) (J.ah.cell 0),_,by rw [A.o],?_,(((f0.drew.trans d7).setCell _ _).setCell _ _).putObj _ _⟩;rw [A.o];have K9:=qK (cu 512 t) J.right.right.right;exact ag.tN ((ag.devOf K9.ah.kQ).KZ)
  .have b0:ag (p.alloc (Y #[] 214 (0,0))).drew e0:=l0
   have f0:=(c0.alloc (Y #[] 214 (0,0))).drew;clear gl l0 C;generalize (p.alloc (Y #[] 214 (0,0))).drew=W6 at f0 b0 ⊢;generalize p.heap.size=bt;have f:=HB.o▸b0
   by_cases I:(aM e.nz a).isSome=Z'
   .have u:e.cD a=(3,[]):=by rw [aB.cD,d0];simp only [I,if_true]
    have c4:=f.aA.cell 0;have f4:=f.aA.frozen;have c5:=f.aJ.cell 0;have f5:=f.aJ.frozen;have H0:=(f.aA.setCell 0 (U X 0 0)).aJ.cell 0;have K0:=(f.aA.setCell 0 (U X 0 0)).aJ.frozen;have N0:j≠k:=(f.aJ.aJ).ne;have E:=((f.aA.setCell 0 (U X 0 0)).aJ.setCell 0 (Z W 3))
    have A:=ae u;have Y0:=ae f;clear u f d0 hh b0 g2 g3 HB;rw [I]
    go_wp2
    gi_wp2
    refine ⟨Si0,.inl ⟨_,_,rfl,run_takeDeferred E.eu.heap,?_⟩⟩;have H8:=E.eu.putObj (.deferred X);refine ⟨X' #[U X 0 0,Z W 3],ft rfl rfl (H8.au.cell 0) (H8.ah.cell 0),_,by rw [A.o],?_,((f0.setCell _ _).setCell _ _).putObj _ _⟩;rw [A.o];exact ag.jC (ag.devOf (H8.right.right.right.lS)) De0
   .simp only [Bool.not_eq_true] at I
    have u0:x.Y.length=e.sec.length:=by rw [<- G.sec,K2]
    obtain ⟨n,rfl⟩:=B3 j0.1;have K:n<x.Y.length:=by have:=j0.2;omega
    have d1:(n:Int)<(x.Y.length:Int):=Y'
    have u:e.cD (n:Int)=(0,bY 512 x.Y[n].2):=by
     rw [aB.cD,d0];simp only [I,Bool.false_eq_true,if_false,A2,<- G.sec];simp [K]
    have s:=G.um _ (H6 K);obtain ⟨va,vc,hv⟩:=iY s;have g0:(x.Y.map Prod.fst)[n]?=V (U va x.Y[n].2.length vc):=by rw [<- hv];simp [K]
    rw [hv] at s;generalize x.Y[n].2=t at u s g0;obtain ⟨o,y⟩:=Mn0 (gB x i d { e with cr:=cE (e.cr+1) }*(al i*(pt r (Y #[Z W (n:Int)] 3 (0,0))*(pt D2 (.deferred (V []))*F))))
    have E:ag W6 (o*(pt j (Y #[U X 0 0] 23 (0,0))*pt k (Y #[Z W 0] 31 (0,0)))):=f.to (by rw [y];ac_rfl);have G0:∀ b,ag b o->b.cell? ⟨d,0,X⟩=V (U (V ⟨x.sg,0,X⟩) x.Y.length x.Y.length):=fun b h=>(y▸h).cQ 0;have G3:∀ b,ag b o->b.cell? ⟨r,0,X⟩=V (Z W (n:Int)):=fun b h=>(y▸h).au.cell 0;have Gs:∀ b,ag b o->b.cell? ⟨x.sg,n,X⟩=V (U va t.length vc):=fun b h=>((y▸h).bJ.2.ah.cell n).trans (by simpa using g0);have Gr:Hid (∀ b,ag b o->Rd b (U va t.length vc) t):=fun b h=>s.rd ((y▸h).ah);have D0:t.length<=9223372036854775807:=by have:=s.1;unfold small at this;omega
    have A:=ae u;have s0:=ae y;have a1:=ae K;clear u f d0 hh j0 b0 g2 g3 HB y s g0 hv K u0;rw [I]
    go_wp2
    gi_wp2
    refine wpIn_wide.2 ?_;have r0:=E;have k0:ag W6.drew o:=E.left
    go_region_held3 (fun b=>ag b o) (first|assumption|exact k0) (first
     | (go_at_call 217;(with_reducible apply (la _ _ t (Gr.o _ k0) D0).mono);rintro m0 L ⟨g,rfl,h7,d7⟩;have J7:=h7.under r0;have Jb:ag L o:=J7.right.left;have K4:ag L (pt j (Y #[U X 0 0] 23 (0,0))*(pt k (Y #[Z W 0] 31 (0,0))*(pt g (Y (ed (bY 512 t)) 5 (0,0))*o))):=J7.u00;have c4:=K4.cell 0;have f4:=K4.frozen;have K5:=(K4.setCell 0 (U (V ⟨g,0,X⟩) 512 512)).ah;have c5:=K5.cell 0;have f5:=K5.frozen;have K6:=K5.setCell 0 (Z W 0);have S1:ag (L.setCell ⟨j,0,X⟩ (U (V ⟨g,0,X⟩) 512 512)) o:=K5.right.right.right;have S2:ag ((L.setCell ⟨j,0,X⟩ (U (V ⟨g,0,X⟩) 512 512)).setCell ⟨k,0,X⟩ (Z W 0)) o:=K6.right.right.right))
    gi_wp2
    have K7:ag ((L.setCell ⟨j,0,X⟩ (U (V ⟨g,0,X⟩) 512 512)).setCell ⟨k,0,X⟩ (Z W 0)) (pt D2 (.deferred (V []))*(pt k (Y #[Z W 0] 31 (0,0))*(pt j (Y #[U (V ⟨g,0,X⟩) 512 512] 23 (0,0))*(pt g (Y (ed (bY 512 t)) 5 (0,0))*(gB x i d { e with cr:=cE (e.cr+1) }*(al i*(pt r (Y #[Z W (n:Int)] 3 (0,0))*F))))))):=
     K6.to (by rw [s0.o];simp only [D9,D8];ac_rfl)
    refine ⟨Si0,.inl ⟨_,_,rfl,run_takeDeferred K7.heap,?_⟩⟩;have J:=K7.putObj (.deferred X);refine ⟨X' #[U (V ⟨g,0,X⟩) 512 512,Z W 0],ft rfl rfl (J.au.cell 0) (J.ah.cell 0),_,by rw [A.o],?_,(((f0.drew.trans d7).setCell _ _).setCell _ _).putObj _ _⟩;rw [A.o];have K9:=qK (cu 512 t) J.right.right.right;exact ag.tN ((ag.devOf K9.ah.kQ).KZ)
 case stop=>
  intro D2 c ys p hp c0 H;obtain ⟨⟨h0,z,g⟩,H1⟩:=ag.aw.1 H;obtain ⟨⟨rfl,rfl,p0,X0⟩,B⟩:=ag.aq.1 (H1.to (ay _ _ _));have u:e.cD a=(0,bY 512 z.2.2):=by rw [aB.cD,CR G.wait hp p0 X0]
  have A:=ae u
  have K7:ag p (pt D2 (.deferred (V []))*(pt k (Y #[Z W 0] 31 (0,0))*(pt j (Y #[U (V ⟨g,0,X⟩) 512 512] 23 (0,0))*(pt g (Y (ed (bY 512 z.2.2)) 5 (0,0))*(gB x i d { e with cr:=cE (e.cr+1) }*(al i*(pt r (Y #[Z W a] 3 (0,0))*(pt bx (Y #[S (V ⟨d,0,X⟩)] 27 (0,0))*F)))))))):=
   B.to (by unfold tH gK;ac_rfl)
  clear H H1 B hp p0 X0 u q0 H4 n0
  gi_wp2
  refine ⟨Si0,.inl ⟨_,_,rfl,run_takeDeferred K7.heap,?_⟩⟩;have J:=K7.putObj (.deferred X);refine ⟨X' #[U (V ⟨g,0,X⟩) 512 512,Z W 0],ft rfl rfl (J.au.cell 0) (J.ah.cell 0),_,by rw [A.o],?_,c0.putObj _ _⟩;rw [A.o];have K9:=qK (cu 512 z.2.2) J.right.right.right;exact ag.tN ((ag.devOf K9.ah.kQ.kQ).KZ)
def y5 (w:Q) (g:Hp) (d:Nat) (D:aB) (a:Int) (F:ai) (h:ag w (aR g d D*(al g*F))) (r:¬ D.has a) :
  Calls R 228 #[S (V ⟨d,0,X⟩),Z W a] w (nL g d D (1,[]) F w):=by
 have f:=((h.alloc (Y #[Z W a] 3 (0,0))).alloc (Y #[U X 0 0] 23 (0,0))).alloc (Y #[Z W 0] 31 (0,0));have l:=(((aj.refl w).alloc (Y #[Z W a] 3 (0,0))).alloc (Y #[U X 0 0] 23 (0,0))).alloc (Y #[Z W 0] 31 (0,0));rw [A1,A1] at f;refine (callsIn_wide (n:=9)).1 ?_;refine callsIn_of_wp_marks func228 rfl trivial ?_ rfl;simp only [ntmps228,D7,D6,B1,D5,D4,D3,D1,E5,E2,B2,E1]
 gi_wp2_with fail
 generalize ((w.alloc (Y #[Z W a] 3 (0,0))).alloc (Y #[U X 0 0] 23 (0,0))).alloc (Y #[Z W 0] 31 (0,0))=k at f l ⊢;generalize w.heap.size+1+1=p at f ⊢;generalize w.heap.size+1=o at f ⊢;generalize w.heap.size=q at f ⊢;have b:ag k (aR g d D*(al g*(pt q (Y #[Z W a] 3 (0,0))*(pt o (Y #[U X 0 0] 23 (0,0))*(pt p (Y #[Z W 0] 31 (0,0))*F))))):=f.u00;have j:=mP k g d D a _ b;rw [show decide (D.has a)=O by simpa using r] at j;clear f h;refine nk j ?_;rintro e k ⟨rfl,rfl⟩;have s:=b.aA.cell 0;have x:=b.aA.frozen;have u:=(b.aA.setCell 0 (U X 0 0)).aJ.cell 0;have z:=(b.aA.setCell 0 (U X 0 0)).aJ.frozen;have A:o≠p:=(b.aJ.aJ).ne;have t:=b.aJ.cell 0;have y:=b.aJ.frozen;have i:=((b.aA.setCell 0 (U X 0 0)).aJ.setCell 0 (Z W 1))
 clear j b
 gi_wp2
 refine ⟨_,ft rfl rfl (i.ah.cell 0) (i.cell 0),?_⟩;exact ⟨_,rfl,ag.jC (i.right.right.lS) De0,(l.setCell _ _).setCell _ _⟩
def Iz (w:Q) (f:Hp) (d:Nat) (D:aB) (a:Int) (F:ai) (h:ag w (aR f d D*(al f*F))) (o:D.Ok) (q:D.has a) (p:D.cT=2) :
  Calls R 228 #[S (V ⟨d,0,X⟩),Z W a] w (nL f d D.begun (2,[]) F w):=by
 have g:=((h.alloc (Y #[Z W a] 3 (0,0))).alloc (Y #[U X 0 0] 23 (0,0))).alloc (Y #[Z W 0] 31 (0,0));have r:=(((aj.refl w).alloc (Y #[Z W a] 3 (0,0))).alloc (Y #[U X 0 0] 23 (0,0))).alloc (Y #[Z W 0] 31 (0,0));rw [A1,A1] at g;refine (callsIn_wide (n:=9)).1 ?_;refine callsIn_of_wp_marks func228 rfl trivial ?_ rfl;simp only [ntmps228,D7,D6,B1,D5,D4,D3,D1,E5,E2,B2,E1]
 gi_wp2_with fail
 generalize ((w.alloc (Y #[Z W a] 3 (0,0))).alloc (Y #[U X 0 0] 23 (0,0))).alloc (Y #[Z W 0] 31 (0,0))=i at g r ⊢;generalize w.heap.size+1+1=t at g ⊢;generalize w.heap.size+1=s at g ⊢;generalize w.heap.size=u at g ⊢;have b:ag i (aR f d D*(al f*(pt u (Y #[Z W a] 3 (0,0))*(pt s (Y #[U X 0 0] 23 (0,0))*(pt t (Y #[Z W 0] 31 (0,0))*F))))):=g.u00;have l:=mP i f d D a _ b;rw [show decide (D.has a)=Z' by simpa using q] at l;have k:=ph i f d D _ b o;rw [p] at k;clear g h b o p q;refine nk l ?_;rintro e i ⟨rfl,rfl⟩;clear l
 gi_wp2_with fail
 refine nk k ?_;rintro e H ⟨rfl,b,x⟩;have y:=b.aA.cell 0;have B:=b.aA.frozen;have A:=(b.aA.setCell 0 (U X 0 0)).aJ.cell 0;have E:=(b.aA.setCell 0 (U X 0 0)).aJ.frozen;have G:s≠t:=(b.aJ.aJ).ne;have z:=b.aJ.cell 0;have C:=b.aJ.frozen;have j:=((b.aA.setCell 0 (U X 0 0)).aJ.setCell 0 (Z W 2))
 clear k b
 gi_wp2
 refine ⟨_,ft rfl rfl (j.ah.cell 0) (j.cell 0),?_⟩;exact ⟨_,rfl,ag.jC (j.right.right.lS) De0,((r.trans x).setCell _ _).setCell _ _⟩
def om (w:Q) (b:Hp) (d:Nat) (D:aB) (a:Int) (F:ai) (h:ag w (aR b d D*(al b*F))) (g:D.Ok) :
  Calls R 228 #[S (V ⟨d,0,X⟩),Z W a] w (nL b d (D.read a).2 (D.read a).1 F w):=by
 unfold aB.read
 by_cases f:D.has a
 .rw [if_pos f]
  rcases D.mW with e|e
  .rw [if_pos e];exact O6 w b d D a F h g f e
  .rw [if_neg (by rw [e];decide)];exact Iz w b d D a F h g f e
 .rw [if_neg f];exact y5 w b d D a F h f
def Je (n:Nat):madeCells #[H5 X 0 0] n=(A3 n (H5 X 0 0)).toArray:=by
 apply Array.ext
 .simp [size_madeCells]
 .intro i a b
  simp [madeCells,Nat.mod_one]
def RA (n:Nat) (w:Q) (e:Ending) (a:Q):Prop:=
 ∃ d,e = N (X' #[S (V ⟨d,0,X⟩),Z W 0])/\(∀ b,ag a (aR b d (aB.fresh n)*whole w))/\aj w a
def zi (n:Nat) (l:1<=n) (o:n<=20000) (w:Q) :
  Calls R 21 #[Z W n] w (RA n w):=by
 have q:(1:Int)<=(n:Int):=Y'
 have r:(n:Int)<=20000:=Y'
 obtain ⟨j,d,f,e,b⟩:=info_parts Fm;have h:=run_make (P:=R) w 85 23 j _ underlying85 d f W W n n Y' Y' (by rw [b];omega) Y';rw [e] at h;have p:=@run_makeMap R;have a:=(((ag.whole w).alloc (Y (madeCells #[U X 0 0] n) 23 (0,0))).alloc (.map #[] 0)).alloc (Y #[U (V ⟨w.heap.size,0,X⟩) n n,U X 0 0,.map (V (w.heap.size+1)),Z W 0,Z W 0,Z W 0,.bool O,.bool O,Z W 0,U X 0 0] 90 (0,0));have i:=(((aj.refl w).alloc (Y (madeCells #[U X 0 0] n) 23 (0,0))).alloc (.map #[] 0)).alloc (Y #[U (V ⟨w.heap.size,0,X⟩) n n,U X 0 0,.map (V (w.heap.size+1)),Z W 0,Z W 0,Z W 0,.bool O,.bool O,Z W 0,U X 0 0] 90 (0,0));rw [A1,A1] at a;clear d f e b
 go_in
 go_wp2
 go_ret2
 refine ⟨_,rfl,fun k=>?_,i⟩;have g:=((a.ah.ui isMap_empty).au.eU 230 2).eU 3 1;refine ag.devOf (x:=⟨w.heap.size,w.heap.size+1,U X 0 0,U X 0 0,A3 n (U X 0 0,[]),[]⟩) (ag.jg ⟨by simp [aB.fresh],fun y hy=>?_,rfl,Si0⟩ (g.to ?_))
 .rw [List.eq_of_mem_replicate hy];exact ⟨by simp [small],.inl ⟨rfl,rfl⟩⟩
 .simp only [Dx.cells,aB.fresh,K1,List.map_replicate,gU,List.map_nil,iL,bT,List.flatMap_nil,B1,Je]
  ac_rfl
end Go.Proofs.Nn
namespace Go.SL
open RowKit
variable {w:Q} {F:ai}
def Cg (g r:Nat) (l:List Int):ai:=pt r (Y #[U (V ⟨g,0,X⟩) l.length l.length] 287 (0,0))*pt g (Y (ints l) 3 (0,0))
def bZ (r:Nat) (l:List Int):ai:=ex fun g=>Cg g r l
def ag.nR {r:Nat} {l:List Int} (h:ag w (bZ r l*F)):∃ g,ag w (pt r (Y #[U (V ⟨g,0,X⟩) l.length l.length] 287 (0,0))*(pt g (Y (ints l) 3 (0,0))*F)):=by
 obtain ⟨g,h⟩:=ag.aw.1 h;exact ⟨g,h.to (ay _ _ _)⟩
def ag.Mc {g r:Nat} {l:List Int} (h:ag w (pt r (Y #[U (V ⟨g,0,X⟩) l.length l.length] 287 (0,0))*(pt g (Y (ints l) 3 (0,0))*F))):ag w (bZ r l*F):=
 ag.aw.2 ⟨g,h.to (ay _ _ _).symm⟩
end Go.SL
namespace Go.Proofs.Nn
open RowKit SL
def wX:(prog.info? 3).map (fun i=>(i.zero,i.size,i.bytes))=V (V (Z W 0),1,8):=Kr0
def sw (n:Nat) (f:n<=1048576) (w:Q):(Instr.makeSlice 88 (Z W n) (Z W n)).run R w =
  .ok (U (V ⟨w.heap.size,0,X⟩) n n) (w.alloc (Y (ints (A3 n 0)) 3 (0,0))):=by
 obtain ⟨i,b,e,d,a⟩:=info_parts wX;have:=run_make (P:=R) w 88 3 i _ underlying88 b e W W n n Y' Y' (by rw [a];omega) Y';rw [this,d];simp only [A2];rw [J5]
def tM (w:Q) (r:Nat) (l:List Int) (F:ai) (h:ag w (bZ r l*F)) :
  Calls R 175 #[S (V ⟨r,0,X⟩)] w (nr l.length w):=by
 obtain ⟨g,h⟩:=h.nR;have a:w.cell? ⟨r,0,X⟩=V (U (V ⟨g,0,X⟩) l.length l.length):=h.cell 0;clear h
 go_in
 go_wp2
 go_ret
 exact ⟨rfl,rfl⟩
def Az {a n:Int} (b:0<n):a%n=if a.tmod n<0 then a.tmod n+n else a.tmod n:=by
 rw [Int.tmod_eq_emod];have d:=H9 a (by omega:n≠0);have e:=H7 a b
 split <;> split <;> omega
def dS (w:Q) (r:Nat) (l:List Int) (a:Int) (F:ai) (h:ag w (bZ r l*F)) (j:0<l.length) (i:l.length<=1048576) :
  Calls R 180 #[S (V ⟨r,0,X⟩),Z W a] w (nr (a%(l.length:Int)) w):=by
 obtain ⟨g,h⟩:=h.nR;have o:w.cell? ⟨r,0,X⟩=V (U (V ⟨g,0,X⟩) l.length l.length):=h.cell 0;have e:0<(l.length:Int):=Y'
 have p:(l.length:Int)<=1048576:=Y'
 have b:=Az (a:=a) e
 have f:-(l.length:Int)<a.tmod l.length/\a.tmod l.length<l.length:=by
  rw [Int.tmod_eq_emod];have i:=H9 a (by omega:(l.length:Int)≠0);have k:=H7 a e
  split <;> omega
 obtain ⟨f,q⟩:=f;rw [b];clear h b;have s:-1048576<=a.tmod l.length:=Y'
 have t:a.tmod l.length<=1048576:=Y'
 by_cases d:a.tmod l.length<0
 .rw [if_pos d]
  go_in
  go_wp2
  go_ret
  exact ⟨rfl,rfl⟩
 .rw [if_neg d]
  go_in
  go_wp2
  go_ret
  exact ⟨rfl,rfl⟩
def oZ (a:Int) {n:Nat} (d:0<n):∃ k:Nat,a%(n:Int)=(k:Int)/\k<n:=by
 obtain ⟨k,b⟩:=B3 (H9 a (by omega:(n:Int)≠0));exact ⟨k,b,by have:=H7 a (by omega:(0:Int)<n);omega⟩
def Gg (w:Q) (r:Nat) (l:List Int) (a:Int) (F:ai) (h:ag w (bZ r l*F)) (f:0<l.length) (j:l.length<=1048576) :
  Calls R 177 #[S (V ⟨r,0,X⟩),Z W a] w fun e b=>e = N (Z W (l.getD (a%(l.length:Int)).toNat 0))/\ag b (whole w)/\aj w b:=by
 obtain ⟨k,d,p⟩:=oZ a f;have q:=dS w r l a F h f j;rw [d] at q;obtain ⟨g,i⟩:=h.nR;have o:w.cell? ⟨r,0,X⟩=V (U (V ⟨g,0,X⟩) l.length l.length):=i.cell 0;have hv:w.cell? ⟨g,k,X⟩=V (Z W (l.getD k 0)):=(i.ah.cell k).trans (bK p);have t:(k:Int)<(l.length:Int):=Y'
 have s:Calls R 180 #[S (V ⟨r,0,X⟩),Z W a] w.drew (nr k w.drew):=by
  have:=dS w.drew r l a F h f j
  rwa [d] at this
 rw [d,A2];generalize l.getD k 0=v at hv;clear h i d
 go_in
 go_wp2_with fail
 go_region_held3 (fun b=>b.cell? ⟨r,0,X⟩=V (U (V ⟨g,0,X⟩) l.length l.length)/\b.cell? ⟨g,k,X⟩=V (Z W v)) (first|assumption|exact ⟨o,hv⟩) (first
  | (go_at_call 180;(with_reducible apply s.mono);rintro e u ⟨rfl,rfl⟩))
 go_wp2
 go_ret
 exact ⟨rfl,(ag.whole w).drew,(aj.refl w).drew⟩
def uu (w:Q) (r:Nat) (l:List Int) (a x:Int) (F:ai) (h:ag w (bZ r l*F)) (j:0<l.length) (p:l.length<=1048576) :
  Calls R 224 #[S (V ⟨r,0,X⟩),Z W a,Z W x] w fun e d=>e = N (X' #[])/\ag d (bZ r (l.set (a%(l.length:Int)).toNat x)*F)/\aj w d:=by
 obtain ⟨k,i,t⟩:=oZ a j
 have u:Calls R 180 #[S (V ⟨r,0,X⟩),Z W a] w.drew (nr k w.drew):=by
  have:=dS w.drew r l a F h j p
  rwa [i] at this
 obtain ⟨g,b⟩:=h.nR;have q:w.cell? ⟨r,0,X⟩=V (U (V ⟨g,0,X⟩) l.length l.length):=b.cell 0;have hv:w.cell? ⟨g,k,X⟩=V (Z W (l.getD k 0)):=(b.ah.cell k).trans (bK t);have y:w.frozen? ⟨g,k,X⟩=O:=b.ah.frozen k;have z:(k:Int)<(l.length:Int):=Y'
 have f:=(b.ah.setCell k (Z W x)).ah;have s:=f.cell 0;have o:=ae f;rw [i,A2];generalize l.getD k 0=v at hv;clear h b i f
 go_in
 go_region_held3 (fun d=>d.cell? ⟨r,0,X⟩=V (U (V ⟨g,0,X⟩) l.length l.length)) (first|assumption|exact q|exact s) (first
  | (go_at_call 180;(with_reducible apply u.mono);rintro e A ⟨rfl,rfl⟩))
 go_wp2
 go_end0
 have e:(l.set k x).length=l.length:=L8;refine ⟨rfl,ag.Mc (g:=g) ?_,((aj.refl w).setCell _ _).drew⟩;rw [e,<- gM];exact o.o
def zu (w:Q) (r:Nat) (l:List Int) (a b:Int) (F:ai) (h:ag w (bZ r l*F)) (f:0<l.length) (g:l.length<=1048576) :
  Calls R 133 #[S (V ⟨r,0,X⟩),Z W a,Z W b] w (nr ((a+b)%(l.length:Int)) w):=by
 have i:=dS w r l a F h f g;have j:=dS w r l b F h f g;have d:=dS w r l (a%(l.length:Int)+b%(l.length:Int)) F h f g;rw [<- Int.add_emod] at d;have q:=H9 a (by omega:(l.length:Int)≠0);have o:=H7 a (by omega:(0:Int)<l.length);have t:=H9 b (by omega:(l.length:Int)≠0);have p:=H7 b (by omega:(0:Int)<l.length);have a3:a%(l.length:Int)<=1048576:=Y'
 have u:b%(l.length:Int)<=1048576:=Y'
 generalize (a+b)%(l.length:Int)=s at d ⊢;generalize a%(l.length:Int)=x at *;generalize b%(l.length:Int)=y at *;clear h o p
 go_in
 go_wp2_with fail
 apply i.mono;rintro e k ⟨rfl,rfl⟩;clear i
 go_wp2_with fail
 apply j.mono;rintro e k ⟨rfl,rfl⟩;clear j
 go_wp2_with fail
 apply d.mono;rintro e k ⟨rfl,rfl⟩;clear d
 go_wp2
 go_ret
 exact ⟨rfl,rfl⟩
def MR (n:Nat) (v:Int) (w:Q) (e:Ending) (a:Q):Prop:=∃ r,e = N (S (V ⟨r,0,X⟩))/\ag a (bZ r (A3 n v)*whole w)/\aj w a
def El (g r:Nat) (n:Nat) (v:Int) (w:Q) (u:M) (wr:Q):Prop:=
 ∃ k:Nat,k<=n/\u = Z W k/\ag wr (Cg g r (A3 k v++A3 (n-k) 0)*whole w)/\aj w wr
def yI (n k:Nat) (v:Int) (h:k<n):(A3 k v++A3 (n-k) (0:Int)).set k v=A3 (k+1) v++A3 (n-(k+1)) 0:=by
 have e:n-k=(n-(k+1))+1:=Y'
 rw [e,List.replicate_succ,List.set_append_right _ _ Si0];simp [List.replicate_succ']
def Cr (n:Nat) (v:Int) (w:Q) (x:1<=n) (o:n<=1048576) :
  Calls R 222 #[Z W n,Z W v] w (MR n v w):=by
 have C:(1:Int)<=(n:Int):=Y'
 have D:(n:Int)<=1048576:=Y'
 have s:=sw n o w;have d:=((ag.whole w).alloc (Y (ints (A3 n 0)) 3 (0,0))).alloc (Y #[U (V ⟨w.heap.size,0,X⟩) n n] 287 (0,0));have j:=((aj.refl w).alloc (Y (ints (A3 n 0)) 3 (0,0))).alloc (Y #[U (V ⟨w.heap.size,0,X⟩) n n] 287 (0,0));rw [A1] at d
 go_in
 go_wp2
 generalize (w.alloc (Y (ints (A3 n 0)) 3 (0,0))).alloc (Y #[U (V ⟨w.heap.size,0,X⟩) n n] 287 (0,0))=E at d j ⊢;generalize w.heap.size+1=r at d ⊢;generalize w.heap.size=g at d ⊢;clear s
 go_loopw [18] (fun u wr=>El g r n v w u wr) (fun u _=>n-(intOf u).toNat)
 case atStart=>exact ⟨0,L6 _,rfl,d.to (by unfold Cg;simp only [H2,B2,K3,K1];ac_rfl),j⟩
 case round=>
  obtain ⟨k,A,rfl,a,l⟩:=hrel;clear d j;have f:(A3 k v++A3 (n-k) (0:Int)).length=n:=by simp;omega
  have b:ag wr (pt g (Y (ints (A3 k v++A3 (n-k) 0)) 3 (0,0))*(pt r (Y #[U (V ⟨g,0,X⟩) n n] 287 (0,0))*whole w)):=by
   unfold Cg at a;rw [f] at a;exact a.u00
  have y:=b.ah.cell 0
  by_cases i:k<n
  .have B:(k:Int)<(n:Int):=Y'
   have hv:wr.cell? ⟨g,k,X⟩=V (Z W ((A3 k v++A3 (n-k) (0:Int)).getD k 0)):=(b.cell k).trans (bK (by rw [f];exact i));have z:=b.frozen k;generalize (A3 k v++A3 (n-k) (0:Int)).getD k 0=q at hv;have h4:=b.setCell k (Z W v);rw [gM,yI n k v i] at h4;have h:=ae h4;have t:=ae f;clear b a h4 f
   go_wp2
   go_roundw
   case rel=>
    refine ⟨k+1,Y',by go_num,h.o.to ?_,l.setCell _ _⟩;have e:(A3 (k+1) v++A3 (n-(k+1)) (0:Int)).length=n:=by simp;omega
    unfold Cg;rw [e];ac_rfl
   case measure=>simp [intOf];omega
  .obtain rfl:k=n:=Y'
   rw [J2,H2,List.append_nil] at a;have h:=ae a;clear b a f i
   go_wp2
   go_ret
   exact ⟨r,rfl,h.o.gZ fun _ p=>⟨g,p⟩,l⟩
end Go.Proofs.Nn
namespace Go.Proofs.Nn
open RowKit SL
attribute [local go_sem] Oper.semAt_some
def kn (b a d r:Nat) (m first:Nat):ai:=
 pt b (Y #[Z W (m:Int)] 3 (0,0))*(pt a (Y #[S (V ⟨r,0,X⟩)] 181 (0,0))*pt d (Y #[Z W (first:Int)] 3 (0,0)))
def UA (r:Nat) (l:List Int) (m first:Nat) (F:ai) (w:Q) (e:Ending) (f:Q):Prop:=
 ∃ b a d,e = N (.func (.func 245) #[] #[S (V ⟨b,0,X⟩),S (V ⟨a,0,X⟩),S (V ⟨d,0,X⟩)])/\ag f (kn b a d r m first*(bZ r l*F))/\aj w f
def Ov (w:Q) (r:Nat) (l:List Int) (a:Int) (m:Nat) (F:ai) (h:ag w (bZ r l*F)) (x:0<l.length) (H:l.length<=1048576) (hm:m<=l.length) :
  Calls R 226 #[S (V ⟨r,0,X⟩),Z W a,Z W m] w (UA r l m (a%(l.length:Int)).toNat F w):=by
 obtain ⟨k,s,d0⟩:=oZ a x;have f:=(h.alloc (Y #[S (V ⟨r,0,X⟩)] 181 (0,0))).alloc (Y #[Z W m] 3 (0,0));have z:=((aj.refl w).alloc (Y #[S (V ⟨r,0,X⟩)] 181 (0,0))).alloc (Y #[Z W m] 3 (0,0));rw [A1] at f;rw [s,A2];have g0:0<=(m:Int):=Y'
 have h0:(m:Int)<=(l.length:Int):=Y'
 go_in
 go_wp2_with fail
 generalize (w.alloc (Y #[S (V ⟨r,0,X⟩)] 181 (0,0))).alloc (Y #[Z W m] 3 (0,0))=d at f z ⊢;generalize w.heap.size+1=i at f ⊢;generalize w.heap.size=j at f ⊢;have I:ag d (bZ r l*(pt j (Y #[S (V ⟨r,0,X⟩)] 181 (0,0))*(pt i (Y #[Z W m] 3 (0,0))*F))):=f.u00;have G:d.cell? ⟨i,0,X⟩=V (Z W m):=f.cell 0;have K:d.frozen? ⟨i,0,X⟩=O:=f.frozen 0;have E:d.cell? ⟨j,0,X⟩=V (S (V ⟨r,0,X⟩)):=f.ah.cell 0;have f0:i<d.heap.size:=f.lt;have e0:j<d.heap.size:=f.ah.lt;obtain ⟨g,o⟩:=Mn0 (pt i (Y #[Z W m] 3 (0,0))*(pt j (Y #[S (V ⟨r,0,X⟩)] 181 (0,0))*(bZ r l*F)))
 have P:∀ b,ag b g->b.cell? ⟨i,0,X⟩=V (Z W m):=fun b h=>(o▸h).cell 0;have L:∀ b,ag b g->b.cell? ⟨j,0,X⟩=V (S (V ⟨r,0,X⟩)):=fun b h=>(o▸h).ah.cell 0;have y:ag d.drew g:=o▸f;have b0:ag (d.drew.alloc (Y #[Z W 0] 3 (0,0))) g:=(y.alloc _).right;have c0:ag (d.drew.alloc (Y #[Z W k] 3 (0,0))) g:=(y.alloc _).right
 have p:ag ((d.setCell ⟨i,0,X⟩ (Z W m)).alloc (Y #[Z W k] 3 (0,0))).drew (pt d.heap.size (Y #[Z W k] 3 (0,0))*g):=by
  have h:=(f.setCell 0 (Z W m)).alloc (Y #[Z W k] 3 (0,0));rw [show (d.setCell ⟨i,0,X⟩ (Z W m)).heap.size=d.heap.size by simp [World.setCell]] at h;rw [o];exact h.to (by simp only [D9,D8])
 have q:∀ b,ag b g->ag b (bZ r l*(pt j (Y #[S (V ⟨r,0,X⟩)] 181 (0,0))*(pt i (Y #[Z W m] 3 (0,0))*F))):=fun b h=>(o▸h).u00
 have Hp:Hid (∀ b,ag b g->Calls R 180 #[S (V ⟨r,0,X⟩),Z W a] b (nr k b)):=fun b h=>by
  have:=dS b r l a _ (q b h) x H
  rwa [s] at this
 have D:Hid (∀ b,ag b g->Calls R 175 #[S (V ⟨r,0,X⟩)] b (nr l.length b)):=fun b h=>tM b r l _ (q b h);have A:(if l.length<m then (l.length:Int) else (m:Int))=(m:Int):=if_neg Y'
 have B:(if (l.length:Int)<(if (m:Int)<0 then 0 else (m:Int)) then (l.length:Int) else if (m:Int)<0 then 0 else (m:Int))=(m:Int):=by
  rw [if_neg (by omega:¬ (m:Int)<0),if_neg Y']
 have t:=ae A;have u:=ae B;have C:=ae o;clear h s I f o G E q A B
 go_region_held3 (fun b=>ag b g) (first|assumption|(rw [t.o];exact p.right)|(rw [u.o];exact p.right)|exact p.right) (first
  | (go_at_call 180;(with_reducible apply (Hp.o _ As0).mono);rintro e J ⟨rfl,rfl⟩)
  | (go_at_call 175;(with_reducible apply (D.o _ As0).mono);rintro e J ⟨rfl,rfl⟩))
 all_goals
  first|rw [t.o]|rw [u.o]
  go_wp2
  go_ret
  refine ⟨i,j,d.heap.size,rfl,?_,((z.setCell _ _).alloc _).drew⟩;exact p.to (by rw [C.o];unfold kn;ac_rfl)
def places (n first m:Nat):List Nat:=(List.range m).map fun i=>(first+i)%n
def pF (n first m:Nat):(places n first m).length=m:=by simp [places]
def CT (n first m k:Nat) (h:k<m):(places n first m).take k++[(first+k)%n]=(places n first m).take (k+1):=by
 rw [L5 (by rw [pF];exact h)];simp [places]
def Bz (l:List Int) (p:Nat) (a:Array M):ai:=fact (a=#[Z W (p:Int),Z W (l.getD p 0)])
def Ql (A:List Nat->ai) (n first m:Nat) (a:ai) (w0:Q) (i:M) (wr:Q):Prop:=
 ∃ k:Nat,k<=m/\i = Z W (k:Int)/\aj w0 wr/\ag wr (A ((places n first m).take k)*a)
def JS (n:Nat) (d b f r:Nat) (l:List Int) (m first:Nat) (B:0<l.length) (P:l.length<=1048576) (hm:m<=l.length) (hf:first<l.length) :
  oM (CU (bZ r l)) Fence.wide n R 245 #[S (V ⟨d,0,X⟩),S (V ⟨b,0,X⟩),S (V ⟨f,0,X⟩)] (kn d b f r m first) (Bz l)
   (fun o=>o=places l.length first m) (fun o=>o <+: places l.length first m):=by
 rintro lp _ Ax G w0 w ⟨A,rfl⟩ hY hs u;have a:ag w (pt d (Y #[Z W (m:Int)] 3 (0,0))*(pt b (Y #[S (V ⟨r,0,X⟩)] 181 (0,0))*(pt f (Y #[Z W (first:Int)] 3 (0,0))*(bZ r l*(A []*G))))):=u.to (by unfold kn;dsimp only;ac_rfl);have K:=a.cell 0;have e0:(m:Int)<=1048576:=Y'
 have c0:(l.length:Int)<=1048576:=Y'
 clear a;refine callsIn_of_wp func245 rfl trivial ?_ rfl;simp only [ntmps245,D7,D6,B1,D5,D4,D3,D1,E5,E2,B2,E1]
 gi_wp2
 gi_loopw [8] (fun i wr=>Ql (fun o=>bZ r l*A o) l.length first m (kn d b f r m first*G) w0 i wr) (fun i _=>m-(intOf i).toNat)
 case atStart=>exact ⟨0,L6 _,rfl,hs,u⟩
 case round=>
  clear u K;obtain ⟨k,hk,rfl,H,j⟩:=hrel;replace j:ag wr ((bZ r l*A ((places l.length first m).take k))*(kn d b f r m first*G)):=j;have a:ag wr (pt d (Y #[Z W (m:Int)] 3 (0,0))*(pt b (Y #[S (V ⟨r,0,X⟩)] 181 (0,0))*(pt f (Y #[Z W (first:Int)] 3 (0,0))*(bZ r l*(A ((places l.length first m).take k)*G))))):=j.to (by unfold kn;ac_rfl)
  by_cases b0:k<m
  .have d0:(k:Int)<(m:Int):=Y'
   have c3:=a.ah.cell 0;have c7:=a.au.cell 0;have s:=zu wr r l (first:Int) (k:Int) _ a.aA B P;have E:((first:Int)+(k:Int))%(l.length:Int)=(((first+k)%l.length:Nat):Int):=Si0
   rw [E] at s;have F:(first+k)%l.length<l.length:=Nat.mod_lt _ B;have q:=CT l.length first m k b0
   have t:(places l.length first m).take k++[(first+k)%l.length] <+: places l.length first m:=by rw [q];exact List.take_prefix _ _
   generalize (first+k)%l.length=p at s F q t;have f0:(p:Int)<(l.length:Int):=Y'
   obtain ⟨g,x⟩:=a.aA.nR;have cr:=x.cell 0;have L:wr.cell? ⟨g,p,X⟩=V (Z W (l.getD p 0)):=(x.ah.cell p).trans (bK F)
   have C:ag wr ((bZ r l*A ((places l.length first m).take k))*(Bz l p #[Z W (p:Int),Z W (l.getD p 0)]*(kn d b f r m first*G))):=
    (ag.aq.2 ⟨rfl,j⟩:ag wr (fact _*_)).to (by unfold Bz;ac_rfl)
   obtain ⟨fn,g0,assign,body,hy,hR⟩:=hY _ p #[Z W (p:Int),Z W (l.getD p 0)] _ wr t H C;have I:=ae q;have J:=ae t;clear C j a q t x E;generalize l.getD p 0=v at L hy
   gi_wp2_with fail
   refine kq s ?_;rintro e w1 ⟨rfl,rfl⟩;clear s
   gi_wp2
   refine ⟨fun h=>(by cases h),hR.mono ?_⟩;rintro e W' (⟨rfl,y,z⟩|⟨rfl,y,z⟩)
   .gi_wp2
    go_roundw
    case rel=>exact ⟨k+1,Y',by go_num,y,by rw [<- I.o];exact z⟩
    case measure=>simp [intOf];omega
   .gi_wp2
    refine bodyPost_ret (results_none rfl _ _ _) rfl ?_;exact ⟨⟨_,rfl⟩,y,.inr ⟨_,J.o,z⟩⟩
  .obtain rfl:k=m:=Y'
   have D:(places l.length first k).take k=places l.length first k:=by
    have:=pF l.length first k
    exact L4 Y'
   rw [D] at j;clear a D
   gi_wp2
   go_end0
   exact ⟨⟨_,rfl⟩,H,.inl ⟨_,rfl,j⟩⟩
end Go.Proofs.Nn
namespace Go.SL
open RowKit
variable {w:Q} {F:ai}
structure Tb where
 ps:List Int
 os:List Int
 c:Int
structure Tb.Ok (T:Tb):Prop where
 n:T.ps.length<=1048576
 m:T.os.length<=1048576
 ps:∀ v ∈ T.ps,v=-1\/(0<=v/\v<T.os.length)
def told (l:List Int) (i:Int):Option Int:=if 0<=i/\i<l.length/\l.getD i.toNat 0 ≠ -1 then V (l.getD i.toNat 0) else X
def qA (o:Option Int):M:=X' #[Z W (o.getD 0),.bool o.isSome]
def Tb.fresh (b p:Nat):Tb:=⟨A3 b (-1),A3 p (-1),0⟩
def Tb.drop (T:Tb) (id:Int):Bool × Tb:=match told T.ps id with
 | some p=>(Z',⟨T.ps.set id.toNat (-1),T.os.set p.toNat (-1),cE (T.c-1)⟩)
 | none=>(O,T)
def Tb.put (T:Tb) (a place:Int):Bool × Tb:=
 if 0<=a/\a<T.ps.length/\0<=place/\place<T.os.length/\(T.os.getD place.toNat 0=-1\/T.os.getD place.toNat 0=a) then
  (Z',⟨(T.drop a).2.ps.set a.toNat place,(T.drop a).2.os.set place.toNat a,cE ((T.drop a).2.c+1)⟩)
 else (O,T)
structure Tx where
 g1:Nat
 g2:Nat
def Em (x:Tx) (t:Nat) (T:Tb):ai:=
 pt t (Y #[U (V ⟨x.g1,0,X⟩) T.ps.length T.ps.length,U (V ⟨x.g2,0,X⟩) T.os.length T.os.length,Z W T.c] 249 (0,0))*(pt x.g1 (Y (ints T.ps) 3 (0,0))*pt x.g2 (Y (ints T.os) 3 (0,0)))
def bQ (t:Nat) (T:Tb):ai:=ex fun x=>Em x t T
def ag.rP {t:Nat} {T:Tb} (h:ag w (bQ t T*F)):∃ x:Tx,ag w (pt t (Y #[U (V ⟨x.g1,0,X⟩) T.ps.length T.ps.length,U (V ⟨x.g2,0,X⟩) T.os.length T.os.length,Z W T.c] 249 (0,0))*(pt x.g1 (Y (ints T.ps) 3 (0,0))*(pt x.g2 (Y (ints T.os) 3 (0,0))*F))):=by
 obtain ⟨x,h⟩:=ag.aw.1 h;exact ⟨x,h.to (by unfold Em;ac_rfl)⟩
def ag.zY {t:Nat} {T:Tb} (x:Tx) (h:ag w (pt t (Y #[U (V ⟨x.g1,0,X⟩) T.ps.length T.ps.length,U (V ⟨x.g2,0,X⟩) T.os.length T.os.length,Z W T.c] 249 (0,0))*(pt x.g1 (Y (ints T.ps) 3 (0,0))*(pt x.g2 (Y (ints T.os) 3 (0,0))*F)))):ag w (bQ t T*F):=
 ag.aw.2 ⟨x,h.to (by unfold Em;ac_rfl)⟩
end Go.SL
namespace Go.Proofs.Nn
open RowKit SL
def gY (w:Q) (a:Option Addr) (n c:Nat) (i:Int):Calls R 178 #[U a n c,Z W i] w (vM (decide (0<=i/\i<(n:Int))) w):=by
 by_cases d:0<=i
 .by_cases b:i<(n:Int)
  .rw [show decide (0<=i/\i<(n:Int))=Z' by simp [d,b]]
   go_in
   go_wp2
   go_ret
   exact ⟨rfl,rfl⟩
  .rw [show decide (0<=i/\i<(n:Int))=O by simp [b]]
   have e:decide (i<(n:Int))=O:=by simpa using b
   go_in
   go_wp2
   go_ret
   exact ⟨rfl,rfl⟩
 .rw [show decide (0<=i/\i<(n:Int))=O by simp [d]]
  go_in
  go_wp2
  go_ret
  exact ⟨rfl,rfl⟩
def DG (o:Option Int) (w:Q) (e:Ending) (a:Q):Prop:=e = N (qA o)/\w=a
def BE (w:Q) (g:Nat) (l:List Int) (i:Int) (F:ai) (h:ag w (pt g (Y (ints l) 3 (0,0))*F)) :
  Calls R 246 #[U (V ⟨g,0,X⟩) l.length l.length,Z W i] w (DG (told l i) w):=by
 have b:=gY w (V ⟨g,0,X⟩) l.length l.length i
 by_cases a:0<=i/\i<(l.length:Int)
 .rw [show decide (0<=i/\i<(l.length:Int))=Z' by simpa using a] at b
  obtain ⟨k,rfl⟩:=B3 a.1;have s:(k:Int)<(l.length:Int):=a.2;have q:k<l.length:=Y'
  have d:w.cell? ⟨g,k,X⟩=V (Z W (l.getD k 0)):=(h.cell k).trans (bK q)
  by_cases hv:l.getD k 0=-1
  .have e:told l (k:Int)=X:=by unfold told;rw [if_neg];rintro ⟨_,_,p⟩;exact p (by rw [A2];exact hv)
   rw [e];rw [hv] at d;clear e a h hv
   go_in
   go_wp2_with (go_at_call 178;(with_reducible apply b.mono);rintro e f ⟨rfl,rfl⟩)
   go_ret2
   exact ⟨rfl,rfl⟩
  .have e:told l (k:Int)=V (l.getD k 0):=by unfold told;rw [if_pos ⟨a.1,a.2,by rw [A2];exact hv⟩,A2]
   have r:(l.getD k 0 == -1)=O:=by simpa using hv
   rw [e];clear e a h hv;generalize l.getD k 0=v at d r
   go_in
   go_wp2_with (go_at_call 178;(with_reducible apply b.mono);rintro e f ⟨rfl,rfl⟩)
   go_ret2
   exact ⟨rfl,rfl⟩
 .rw [show decide (0<=i/\i<(l.length:Int))=O by simpa using a] at b
  have e:told l i=X:=by unfold told;rw [if_neg];rintro ⟨j,o,_⟩;exact a ⟨j,o⟩
  rw [e];clear e a h
  go_in
  go_wp2_with (go_at_call 178;(with_reducible apply b.mono);rintro e f ⟨rfl,rfl⟩)
  go_ret2
  exact ⟨rfl,rfl⟩
def Lo (w:Q) (t:Nat) (T:Tb) (a:Int) (F:ai) (h:ag w (bQ t T*F)) :
  Calls R 232 #[S (V ⟨t,0,X⟩),Z W a] w (DG (told T.ps a) w):=by
 obtain ⟨x,b⟩:=h.rP;have d:=BE w x.g1 T.ps a _ b.ah;have f:w.cell? ⟨t,0,X⟩=V (U (V ⟨x.g1,0,X⟩) T.ps.length T.ps.length):=b.cell 0;generalize told T.ps a=o at d ⊢;clear h b
 go_in
 go_wp2_with (go_at_call 246;(with_reducible apply d.mono);rintro e g ⟨rfl,rfl⟩;unfold qA)
 go_ret2
 exact ⟨rfl,rfl⟩
def JB (w:Q) (t:Nat) (T:Tb) (a:Int) (F:ai) (h:ag w (bQ t T*F)) :
  Calls R 227 #[S (V ⟨t,0,X⟩),Z W a] w (DG (told T.os a) w):=by
 obtain ⟨x,b⟩:=h.rP;have d:=BE w x.g2 T.os a _ b.au;have f:w.cell? ⟨t,1,X⟩=V (U (V ⟨x.g2,0,X⟩) T.os.length T.os.length):=b.cell 1;generalize told T.os a=o at d ⊢;clear h b
 go_in
 go_wp2_with (go_at_call 246;(with_reducible apply d.mono);rintro e g ⟨rfl,rfl⟩;unfold qA)
 go_ret2
 exact ⟨rfl,rfl⟩
def th {l:List Int} {i p:Int} (h:told l i=V p):∃ k:Nat,i=(k:Int)/\k<l.length/\l.getD k 0=p/\p ≠ -1:=by
 unfold told at h
 split at h
 .rename_i d
  obtain ⟨b,e,a⟩:=d;obtain ⟨k,rfl⟩:=B3 b;rw [A2] at h a;have h:=Option.some.inj h;exact ⟨k,rfl,Y',h,by rw [<- h];exact a⟩
 .cases h
def N9 {T:Tb} (h:T.Ok) {i p:Int} (l:told T.ps i=V p):∃ j:Nat,p=(j:Int)/\j<T.os.length:=by
 obtain ⟨k,rfl,a,g,f⟩:=th l;have d:p ∈ T.ps:=by rw [<- g,List.getD,List.getElem?_eq_getElem a];exact H6 a
 rcases h.ps p d with e|⟨b,o⟩
 .exact absurd e f
 .obtain ⟨j,rfl⟩:=B3 b
  exact ⟨j,rfl,Y'⟩
def UN (t:Nat) (b:Bool) (T:Tb) (F:ai) (w:Q) (e:Ending) (a:Q):Prop:=e = N (.bool b)/\ag a (bQ t T*F)/\aj w a
def KW (w:Q) (t:Nat) (T:Tb) (g:Int) (F:ai) (h:ag w (bQ t T*F)) (l:T.Ok) :
  Calls R 179 #[S (V ⟨t,0,X⟩),Z W g] w (UN t (T.drop g).1 (T.drop g).2 F w):=by
 have i:=Lo w t T g F h;unfold Tb.drop
 match d:told T.ps g with
 | none=>
  rw [d] at i;clear d
  go_in
  go_wp2_with (go_at_call 232;(with_reducible apply i.mono);rintro e G ⟨rfl,rfl⟩;unfold qA)
  go_ret
  exact ⟨rfl,h,aj.refl w⟩
 | some p=>
  rw [d] at i;obtain ⟨k,rfl,C,_,_⟩:=th d;obtain ⟨j,rfl,B⟩:=N9 l d;obtain ⟨x,f⟩:=h.rP;have P:(k:Int)<(T.ps.length:Int):=Y'
  have L:(j:Int)<(T.os.length:Int):=Y'
  have r:w.cell? ⟨t,0,X⟩=V (U (V ⟨x.g1,0,X⟩) T.ps.length T.ps.length):=f.cell 0;have y:w.cell? ⟨t,1,X⟩=V (U (V ⟨x.g2,0,X⟩) T.os.length T.os.length):=f.cell 1;have D:w.cell? ⟨x.g1,k,X⟩=V (Z W (T.ps.getD k 0)):=(f.ah.cell k).trans (bK C);have I:=f.ah.frozen k;have b:=(f.ah.setCell k (Z W (-1)))
  have s:=b.ah.cell 0;have z:=b.ah.cell 1;have E:(w.setCell ⟨x.g1,k,X⟩ (Z W (-1))).cell? ⟨x.g2,j,X⟩=V (Z W (T.os.getD j 0)):=(b.au.cell j).trans (bK B);have J:=b.au.frozen j;have a:=b.au.setCell j (Z W (-1));have u:=a.au.cell 0;have A:=a.au.cell 1;have H:((w.setCell ⟨x.g1,k,X⟩ (Z W (-1))).setCell ⟨x.g2,j,X⟩ (Z W (-1))).cell? ⟨t,2,X⟩=V (Z W T.c):=a.au.cell 2;have K:=a.au.frozen 2;rw [gM] at a b;rw [gM] at a;have q:=ae (a.au.setCell 2 (Z W (cE (T.c-1))));simp only [A2];generalize T.ps.getD k 0=vk at D;generalize T.os.getD j 0=vj at E;clear d h f b a l
  go_in
  go_wp2_with (go_at_call 232;(with_reducible apply i.mono);rintro e G ⟨rfl,rfl⟩;unfold qA)
  go_region_held3 (fun o=>o.cell? ⟨t,0,X⟩=V (U (V ⟨x.g1,0,X⟩) T.ps.length T.ps.length)/\o.cell? ⟨t,1,X⟩=V (U (V ⟨x.g2,0,X⟩) T.os.length T.os.length)) (first|assumption|exact ⟨r,y⟩|exact ⟨s,z⟩|exact ⟨u,A⟩) (fail)
  go_wp2
  go_ret
  refine ⟨rfl,ag.zY x ?_,((((aj.refl w).setCell _ _).setCell _ _).drew).setCell _ _⟩;simp only [L8];exact (q.o.drew).to (by simp only [D9,D8,List.set_cons_succ];ac_rfl)
def zc (T:Tb) (a:Int):(T.drop a).2.ps.length=T.ps.length/\(T.drop a).2.os.length=T.os.length:=by
 unfold Tb.drop
 split <;> simp
def fp (w:Q) (t:Nat) (T:Tb) (a place:Int) (F:ai) (h:ag w (bQ t T*F)) (u:T.Ok) :
  Calls R 132 #[S (V ⟨t,0,X⟩),Z W a,Z W place] w (UN t (T.put a place).1 (T.put a place).2 F w):=by
 obtain ⟨x,p⟩:=h.rP;have J:w.cell? ⟨t,0,X⟩=V (U (V ⟨x.g1,0,X⟩) T.ps.length T.ps.length):=p.cell 0;have K:w.cell? ⟨t,1,X⟩=V (U (V ⟨x.g2,0,X⟩) T.os.length T.os.length):=p.cell 1;have g:=gY w (V ⟨x.g1,0,X⟩) T.ps.length T.ps.length a;have i:=gY w (V ⟨x.g2,0,X⟩) T.os.length T.os.length place
 by_cases b:0<=a/\a<(T.ps.length:Int)
 .rw [show decide (0<=a/\a<(T.ps.length:Int))=Z' by simpa using b] at g
  by_cases d:0<=place/\place<(T.os.length:Int)
  .rw [show decide (0<=place/\place<(T.os.length:Int))=Z' by simpa using d] at i
   obtain ⟨k,rfl⟩:=B3 b.1;obtain ⟨j,rfl⟩:=B3 d.1;have hk:k<T.ps.length:=Y'
   have L:j<T.os.length:=Y'
   have l0:(k:Int)<(T.ps.length:Int):=Y'
   have k0:(j:Int)<(T.os.length:Int):=Y'
   have I:w.cell? ⟨x.g2,j,X⟩=V (Z W (T.os.getD j 0)):=(p.au.cell j).trans (bK L)
   by_cases hv:T.os.getD j 0=-1\/T.os.getD j 0=(k:Int)
   .have e:T.put (k:Int) (j:Int)=(Z',⟨(T.drop (k:Int)).2.ps.set k (j:Int),(T.drop (k:Int)).2.os.set j (k:Int),cE ((T.drop (k:Int)).2.c+1)⟩):=by
     unfold Tb.put;rw [if_pos ⟨b.1,b.2,d.1,d.2,by simpa using hv⟩];simp
    have A:=KW w t T k F h u;obtain ⟨E,G⟩:=zc T k;rw [e];generalize hD:(T.drop (k:Int)).2=D at A E G ⊢;generalize (T.drop (k:Int)).1=db at A
    have o:((T.os.getD j 0 != -1)=O)\/((T.os.getD j 0 != -1)=Z'/\(T.os.getD j 0 != (k:Int))=O):=by
     rcases hv with hv|hv
     .left;rw [hv];rfl
     .by_cases P:T.os.getD j 0=-1
      .left;rw [P];rfl
      .right;exact ⟨by simpa using P,by rw [hv];simp⟩
    clear e hv b d h p u hD;generalize T.os.getD j 0=v at I o;have B:=ae E;have C:=ae G;clear E G;rcases o with o|⟨o,b0⟩
    all_goals
     go_in
     go_wp2_with (first
      | (go_at_call_of 178 (J3 W (k:Int));(with_reducible apply g.mono);rintro e s ⟨rfl,rfl⟩)
      | (go_at_call_of 178 (J3 W (j:Int));(with_reducible apply i.mono);rintro e s ⟨rfl,rfl⟩))
     (with_reducible apply A.mono)
     rintro e z ⟨rfl,r,d3⟩;obtain ⟨y,hy⟩:=r.rP;rw [B.o,C.o] at hy;have h0:k<D.ps.length:=by rw [B.o];exact hk
     have g0:j<D.os.length:=by rw [C.o];exact L
     have J:z.cell? ⟨t,0,X⟩=V (U (V ⟨y.g1,0,X⟩) T.ps.length T.ps.length):=hy.cell 0;have K:z.cell? ⟨t,1,X⟩=V (U (V ⟨y.g2,0,X⟩) T.os.length T.os.length):=hy.cell 1;have s1:z.cell? ⟨y.g1,k,X⟩=V (Z W (D.ps.getD k 0)):=(hy.ah.cell k).trans (bK h0);have f1:=hy.ah.frozen k;have l:=(hy.ah.setCell k (Z W (j:Int)))
     have c0:=l.ah.cell 0;have e0:=l.ah.cell 1;have s2:(z.setCell ⟨y.g1,k,X⟩ (Z W (j:Int))).cell? ⟨y.g2,j,X⟩=V (Z W (D.os.getD j 0)):=(l.au.cell j).trans (bK g0);have f2:=l.au.frozen j;have f:=l.au.setCell j (Z W (k:Int));have d0:=f.au.cell 0;have f0:=f.au.cell 1;have i0:((z.setCell ⟨y.g1,k,X⟩ (Z W (j:Int))).setCell ⟨y.g2,j,X⟩ (Z W (k:Int))).cell? ⟨t,2,X⟩=V (Z W D.c):=f.au.cell 2;have j0:=f.au.frozen 2;rw [gM] at f l;rw [gM] at f;have H4:=ae (f.au.setCell 2 (Z W (cE (D.c+1))));generalize D.ps.getD k 0=vk at s1;generalize D.os.getD j 0=vj at s2;clear A g i I r hy l f o
     go_wp2
     go_region_held3 (fun w'=>w'.cell? ⟨t,0,X⟩=V (U (V ⟨y.g1,0,X⟩) T.ps.length T.ps.length)/\w'.cell? ⟨t,1,X⟩=V (U (V ⟨y.g2,0,X⟩) T.os.length T.os.length)) (first|assumption|exact ⟨J,K⟩|exact ⟨c0,e0⟩|exact ⟨d0,f0⟩) (fail)
     go_wp2
     go_ret
     refine ⟨rfl,ag.zY y ?_,(((d3.setCell _ _).setCell _ _).drew).setCell _ _⟩;simp only [L8,B.o,C.o];exact (H4.o.drew).to (by simp only [D9,D8,List.set_cons_succ];ac_rfl)
   .have e:T.put (k:Int) (j:Int)=(O,T):=by
     unfold Tb.put;rw [if_neg];rintro ⟨_,_,_,_,h5⟩;exact hv (by simpa using h5)
    rw [e];have o:(T.os.getD j 0 != -1)=Z':=by simp only [bne_iff_ne,ne_eq];exact fun q=>hv (.inl q)
    have b0:(T.os.getD j 0 != (k:Int))=Z':=by simp only [bne_iff_ne,ne_eq];exact fun q=>hv (.inr q)
    have H:=ae h;clear e hv b d h p u;generalize T.os.getD j 0=v at I o b0
    go_in
    go_wp2_with (first
     | (go_at_call_of 178 (J3 W (k:Int));(with_reducible apply g.mono);rintro e s ⟨rfl,rfl⟩)
     | (go_at_call_of 178 (J3 W (j:Int));(with_reducible apply i.mono);rintro e s ⟨rfl,rfl⟩))
    go_ret
    exact ⟨rfl,H.o,aj.refl w⟩
  .rw [show decide (0<=place/\place<(T.os.length:Int))=O by simpa using d] at i
   have e:T.put a place=(O,T):=by
    unfold Tb.put;rw [if_neg];rintro ⟨_,_,r,h4,_⟩;exact d ⟨r,h4⟩
   rw [e];have H:=ae h;clear e b d h p u
   go_in
   go_wp2_with fail
   apply g.mono;rintro e s ⟨rfl,rfl⟩;clear g
   go_wp2_with fail
   apply i.mono;rintro e s ⟨rfl,rfl⟩;clear i
   go_wp2
   go_ret
   exact ⟨rfl,H.o,aj.refl w⟩
 .rw [show decide (0<=a/\a<(T.ps.length:Int))=O by simpa using b] at g
  have e:T.put a place=(O,T):=by
   unfold Tb.put;rw [if_neg];rintro ⟨r,h4,_⟩;exact b ⟨r,h4⟩
  rw [e];have H:=ae h;clear e b h p u i
  go_in
  go_wp2_with (go_at_call 178;(with_reducible apply g.mono);rintro e s ⟨rfl,rfl⟩)
  go_ret
  exact ⟨rfl,H.o,aj.refl w⟩
end Go.Proofs.Nn
namespace Go.Proofs.Nn
open RowKit SL
attribute [local go_sem] Oper.semAt_some
def Tv (n:Nat) (w:Q) (e:Ending) (a:Q):Prop:=∃ g,e = N (U (V ⟨g,0,X⟩) n n)/\ag a (pt g (Y (ints (A3 n (-1))) 3 (0,0))*whole w)/\aj w a
def Mw (g:Nat) (n:Nat) (w:Q) (u:M) (wr:Q):Prop:=
 ∃ k:Nat,k<=n/\u = Z W k/\ag wr (pt g (Y (ints (A3 k (-1)++A3 (n-k) 0)) 3 (0,0))*whole w)/\aj w wr
def yQ (n:Nat) (w:Q) (j:n<=1048576):Calls R 244 #[Z W n] w (Tv n w):=by
 have s:(0:Int)<=(n:Int):=Y'
 have t:(n:Int)<=1048576:=Y'
 have l:=sw n j w;have b:=((ag.whole w).alloc (Y (ints (A3 n 0)) 3 (0,0)))
 have h:=((aj.refl w).alloc (Y (ints (A3 n 0)) 3 (0,0)))
 go_in
 go_wp2
 generalize w.alloc (Y (ints (A3 n 0)) 3 (0,0))=x at b h ⊢;generalize w.heap.size=g at b ⊢;clear l
 go_loopw [11] (fun u wr=>Mw g n w u wr) (fun u _=>n-(intOf u).toNat)
 case atStart=>exact ⟨0,L6 _,rfl,b.to (by simp only [H2,B2,K3]),h⟩
 case round=>
  obtain ⟨k,p,rfl,a,i⟩:=hrel;clear b h;have e:(A3 k (-1)++A3 (n-k) (0:Int)).length=n:=by simp;omega
  by_cases f:k<n
  .have r:(k:Int)<(n:Int):=Y'
   have hv:wr.cell? ⟨g,k,X⟩=V (Z W ((A3 k (-1)++A3 (n-k) (0:Int)).getD k 0)):=(a.cell k).trans (bK (by rw [e];exact f));have o:=a.frozen k;generalize (A3 k (-1)++A3 (n-k) (0:Int)).getD k 0=q at hv;have h4:=a.setCell k (Z W (-1));rw [gM,yI n k (-1) f] at h4;have d:=ae h4;clear a h4 e
   go_wp2
   go_roundw
   case rel=>exact ⟨k+1,Y',by go_num,d.o,i.setCell _ _⟩
   case measure=>simp [intOf];omega
  .obtain rfl:k=n:=Y'
   rw [J2,H2,List.append_nil] at a;have d:=ae a;clear a e f
   go_wp2
   go_ret
   exact ⟨g,rfl,d.o,i⟩
def O7 (b p:Nat) (w:Q) (e:Ending) (a:Q):Prop:=∃ t,e = N (S (V ⟨t,0,X⟩))/\ag a (bQ t (Tb.fresh b p)*whole w)/\aj w a
def EA (b p:Nat) (w:Q) (i:b<=1048576) (j:p<=1048576):Calls R 223 #[Z W b,Z W p] w (O7 b p w):=by
 go_in
 go_wp2_with fail
 apply (yQ b w i).mono;rintro e k ⟨g1,rfl,f,a⟩
 go_wp2_with fail
 apply (yQ p k j).mono;rintro e l ⟨g2,rfl,g,d⟩;have h:=(g.under f).alloc (Y #[U (V ⟨g1,0,X⟩) b b,U (V ⟨g2,0,X⟩) p p,Z W 0] 249 (0,0))
 go_wp2
 go_ret
 refine ⟨_,rfl,ag.zY ⟨g1,g2⟩ ?_,(a.trans d).alloc _⟩;exact h.to (by simp only [Tb.fresh,K1];ac_rfl)
def CW (x:Int × Int) (a:Array M):ai:=fact (a=#[Z W x.1,Z W x.2])
end Go.Proofs.Nn

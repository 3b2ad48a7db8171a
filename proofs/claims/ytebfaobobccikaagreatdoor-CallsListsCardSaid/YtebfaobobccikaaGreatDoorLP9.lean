/- Steps. -/
import Derived.Test.YtebfaobobccikaaGreatDoorLP7
import Derived.Test.YtebfaobobccikaaGreatDoorLP8
import Derived.TacticsInMore
import Derived.LoopNIn
import Derived.LoopIn
set_option linter.all false
set_option maxRecDepth 99999
set_option maxHeartbeats 0
open Go.SL
open Go.Value renaming int->Z,slice->V,pointer->U,tuple->Y'
open Go.Obj renaming cells->Y
open Go.Ending renaming returned->O
open Go renaming World->R,Value->N
open Go.Proofs.Tryz renaming prog->S
open Option renaming some->W,none->X
open Bool renaming true->Z',false->Q
open Go.Proofs.Tryz
open List renaming replicate->A1,nil_append->K1,length_nil->L1,setIfInBounds_toArray->M1,set_cons_zero->N1,size_toArray->O1,length_cons->R1,push_toArray->X1,append_toArray->Y1,cons_append->Z1,getElem_mem->E2,replicate_zero->J2,length_map->O2,length_replicate->P2,length_set->R2,take_succ_eq_append_getElem->U2,take_of_length_le->V2
open Int renaming toNat_natCast->B1,eq_ofNat_of_zero_le->E1,emod_nonneg->A2,emod_lt_of_pos->B2
open Go.World renaming size_alloc->D1
open Nat renaming reduceAdd->T1,reduceSub->U1,sub_self->L2,le_refl->M2,sub_zero->N2,zero_le->T2
open Array renaming replicate_succ->V1,replicate_zero->W1
open Go.Value renaming slice->H2,int->K2
namespace Go.Proofs.Nn
open RowKit SL
attribute [local go_sem] Oper.semAt_some
variable {P:Program} {f:FuncId} {args:Array N} {w:R}
theorem lz {a b:Ending->R->Prop} {n m:Nat} (h:Calls P f args w a) (d:∀ e w,a e w->b e w) :
  Fence.wide.fn f/\(Fence.wide.depth.isSome=Z'->1<=m)/\CallsIn Fence.wide n P f args w b:=⟨trivial,fun h=>(by cases h),(callsIn_wide.2 h).mono d⟩
theorem nG {a b:Ending->R->Prop} {n:Nat} (h:Calls P f args w a) (d:∀ e w,a e w->b e w) :
  Fence.wide.fn f/\CallsIn Fence.wide n P f args w b:=⟨trivial,(callsIn_wide.2 h).mono d⟩
theorem rU {a b:Ending->R->Prop} {n l:Nat} (h:Calls P f args w a) (d:∀ e w,a e w->b e w) :
  Fence.wide.fn f/\CallsIn (Fence.wide.inRound l) n P f args w b:=⟨trivial,CallsIn.inRound l ((callsIn_wide.2 h).mono d)⟩
def JH (p:Option Addr) (w:R) (e:Ending) (a:R):Prop:=e = O (.func (.func 270) #[] #[U (W ⟨w.heap.size,0,X⟩)])/\a=w.alloc (Y #[.pointer p] 24 (0,0))
theorem B6 (w:R) (p:Option Addr):Calls S 249 #[.pointer p] w (JH p w):=by
 go_enter func249,ntmps249
 go_wp2
 go_ret
 exact ⟨rfl,rfl⟩
def gC (b:Nat) (x:Dx) (a:Hp) (d:Nat) (D:aC):ai:=pt b (Y #[U (W ⟨d,0,X⟩)] 24 (0,0))*gu x a d D
def KN (z:Int × N × List UInt8) (b:Array N):ai:=fact (b=#[.agg #[Z .i64 z.1,z.2.1]]/\∃ a n c,z.2.1 = V a n c)
def F2 (A:Zs->ai) (a:Zs) (b:ai) (w0:R) (i:N) (wr:R):Prop:=
 ∃ k:Nat,k<=a.length/\i = Z .i64 ((k:Int)-1)/\aj w0 wr/\ag wr (A (a.reverse.take (a.length-k))*b)
theorem MG (a:Zs) (k:Nat) (h:k<a.length):a.reverse.take (a.length-(k+1))++[a[k]]=a.reverse.take (a.length-k):=by
 have e:a.length-k=(a.length-(k+1))+1:=by omega
 rw [e,U2 (by simp;omega)];congr 2;rw [List.getElem_reverse];congr 1;omega
theorem A6 (n:Nat) (x:Dx) (j:Hp) (e d:Nat) (D:aC) (hD:D.wait.length<=1000000) :
  fW Fence.wide n S 270 #[U (W ⟨e,0,X⟩)] (gC e x j d D) KN (fun C=>C=x.Z.reverse) (fun C=>C <+: x.Z.reverse):=by
 intro l A Ax G w0 w hY hs I;have b:ag w (gu x j d D*(pt e (Y #[U (W ⟨d,0,X⟩)] 24 (0,0))*(A []*G))):=I.to (by unfold gC;ac_rfl);have b0:=b.ah.cell 0;obtain ⟨B,wc,y⟩:=b.QA;have p:=b.qj;have k1:w.cell? ⟨d,1,X⟩=W (V B x.Z.length wc):=(b.cX 1).trans (by rw [p];simp only [Dx.cells,y];rfl);have H:=ae y;have hn:(x.Z.length:Int)<=1000000:=by omega
 have j0:ag w (A (x.Z.reverse.take (x.Z.length-x.Z.length))*(gC e x j d D*G)):=by rw [L2,List.take_zero];exact I
 have E:=ae p;clear y b p;refine callsIn_of_wp func270 rfl trivial ?_ rfl;simp only [ntmps270,O1,R1,L1,T1,U1,V1,W1,X1,Y1,K1,Z1]
 gi_wp2
 gi_loopw [3] (fun i wr=>F2 A x.Z (gC e x j d D*G) w0 i wr) (fun i _=>(intOf i+1).toNat)
 case atStart=>exact ⟨x.Z.length,M2 _,rfl,hs,j0⟩
 case round=>
  obtain ⟨k,J,rfl,K,f⟩:=hrel;have b:ag wr (gu x j d D*(pt e (Y #[U (W ⟨d,0,X⟩)] 24 (0,0))*(A (x.Z.reverse.take (x.Z.length-k))*G))):=f.to (by unfold gC;ac_rfl);have b0:=b.ah.cell 0;have k1:wr.cell? ⟨d,1,X⟩=W (V B x.Z.length wc):=(b.cX 1).trans (by rw [E.out];simp only [Dx.cells,H.out];rfl)
  match k,J,f,b with
  | 0,_,f,b=>
   have e0:x.Z.reverse.take (x.Z.length-0)=x.Z.reverse:=by rw [N2,<- List.length_reverse,List.take_length]
   rw [e0] at f
   gi_wp2
   go_end0
   exact ⟨⟨_,rfl⟩,K,.inl ⟨_,rfl,f⟩⟩
  | k+1,J,f,b=>
   have r:k<x.Z.length:=by omega
   have l0:(k:Int)<(x.Z.length:Int):=by omega
   have g0:(((k+1:Nat):Int)-1)=(k:Int):=by omega
   have u:=b.bF.2.aw;obtain ⟨g,c,o⟩:=pY u (by omega);have f0:B=W ⟨g,0,X⟩/\wc=c:=by rw [H.out,<- E.out] at o;exact ⟨(Value.slice.inj o).1,(Value.slice.inj o).2.2⟩
   obtain ⟨rfl,rfl⟩:=f0;rw [o] at u;obtain ⟨c0,d0⟩:=u.jX r;have q:=MG x.Z k r;obtain ⟨z,L⟩:∃ z,x.Z[k]=z:=⟨_,rfl⟩
   rw [L] at c0 d0 q;have M:=ae q;have h0:x.Z.reverse.take (x.Z.length-(k+1))++[z] <+: x.Z.reverse:=by rw [q];exact List.take_prefix _ _
   have F:=ae h0
   have i0:∃ a n c,z.2.1 = V a n c:=by
    obtain ⟨a,c,hh⟩:=iN (b.bF.1.mF z (by rw [<- L];exact E2 r));exact ⟨_,_,_,hh⟩
   have hT:ag wr (A (x.Z.reverse.take (x.Z.length-(k+1)))*(KN z #[.agg #[Z .i64 z.1,z.2.1]]*(gC e x j d D*G))):=
    (ag.au.2 ⟨(⟨rfl,i0⟩:(#[Value.agg #[Z .i64 z.1,z.2.1]]:Array N)=#[.agg #[Z .i64 z.1,z.2.1]]/\∃ a n c,z.2.1 = V a n c),f⟩:ag wr (fact _*_)).to (by unfold KN;ac_rfl)
   obtain ⟨fn,m0,assign,body,hy,P⟩:=hY _ z #[.agg #[Z .i64 z.1,z.2.1]] _ wr F.out K hT;rw [g0]
   gi_wp2
   refine ⟨fun h=>(by cases h),P.mono ?_⟩;rintro k0 W' (⟨rfl,s,t⟩|⟨rfl,s,t⟩)
   .gi_wp2
    go_roundw
    case rel=>exact ⟨k,by omega,rfl,s,by rw [<- M.out];exact t⟩
    case measure=>simp [intOf]
   .gi_wp2
    refine bodyPost_ret (results_none rfl _ _ _) rfl ?_;exact ⟨⟨_,rfl⟩,s,.inr ⟨_,F.out,t⟩⟩
def ny (a:Hp) (d:Nat) (D:aC) (A:Int × List UInt8) (F:ai) (w:R) (e:Ending) (f:R):Prop:=
 ∃ b,e = O (Y' #[b,Z .i64 A.1])/\ag f (pN 5 A b*(aS a d D*(aq a*F)))/\aj w f
def sZ (b:Hp) (d f g:Nat) (a:Int) (e:N) (c:Int):ai:=
 pt d (Y #[Z .i64 a] 3 (0,0))*(pt f (Y #[e] 22 (0,0))*(pt g (Y #[Z .i64 c] 28 (0,0))*aq b))
def ly (b:Hp) (d e f:Nat) (a:Int) (g:Zs):ai:=fact (∀ z ∈ g,¬ z.1=a)*sZ b d e f a (V X 0 0) 0
def IV (b:Hp) (d e f:Nat) (a:Int) (c:Code) (g:Zs):ai:=ex fun p:Zs × (Int × N × List UInt8) × Nat=>
 fact (c = .ret/\g=p.1++[p.2.1]/\(∀ z ∈ p.1,¬ z.1=a)/\p.2.1.1=a)*(pt p.2.2 (Y (dP (bW 512 p.2.1.2.2)) 5 (0,0))*sZ b d e f a (V (W ⟨p.2.2,0,X⟩) 512 512) 0)
def Uq (h:Hp) (b f g j d:Nat) (a l k:Int) (o:Zs) (z:Int × N × List UInt8) (i:Act):ai:=ex fun e=>
 fact (i={ tmps:=#[U (W ⟨d,0,X⟩),Z .i64 a,undef,U (W ⟨b,0,X⟩),U (W ⟨f,0,X⟩),U (W ⟨g,0,X⟩),Z .i64 0,U (W ⟨e,0,X⟩),undef,undef,U (W ⟨d,0,X⟩),Z .i64 a,.bool Z',.bool Q,U (W ⟨d,0,X⟩),Z .i64 0,Z .i64 0,.bool Q,undef,U (W ⟨d,0,X⟩),U (W ⟨d,0,X⟩),U (W ⟨d,3,X⟩),U (W ⟨d,3,X⟩),Z .i64 k,Z .i64 l,U (W ⟨d,0,X⟩),U (W ⟨d,3,X⟩),U (W ⟨d,3,X⟩),U (W ⟨d,0,X⟩),.func (.func 270) #[] #[U (W ⟨j,0,X⟩)],.agg #[Z .i64 z.1,z.2.1],undef,undef,undef,undef,undef,undef,undef,undef,undef,undef,undef,undef,undef,undef,undef,undef,undef,undef,undef,undef,undef,undef,undef,undef,undef],defers:=[] })*(pt e (Y #[Z .i64 z.1,z.2.1] 229 (0,0))*ly h b f g a o)
theorem I6 (w:R):(zeroValue 202).run S w = .ok (.agg #[]) w:=by kernel_rfl
theorem Ge (t:List (Int × Unit)) (a:Int):(aP (gV t) a).getD (.agg #[]) = .agg #[]:=by
 have:=j7 (fun _:Unit=>Value.agg #[]) t a;rw [gV,this];cases aP t a <;> rfl
theorem Cv {b:Zs} {l:List (Int × List UInt8)} {a:Int} (e:b.map (fun z=>(z.1,z.2.2))=l) (h:∀ z ∈ b.reverse,¬ z.1=a):eo l a=X:=by
 subst e;rw [eo,Option.map_eq_none_iff,List.find?_eq_none];intro p d;rw [List.mem_reverse,List.mem_map] at d;obtain ⟨z,f,rfl⟩:=d;simpa using h z (by simpa using f)
theorem Bw {f:Zs} {l:List (Int × List UInt8)} {a:Int} (e:f.map (fun z=>(z.1,z.2.2))=l) {g:Zs} {z:Int × N × List UInt8} (b:g++[z] <+: f.reverse) (h:∀ z ∈ g,¬ z.1=a) (d:z.1=a):eo l a=W z.2.2:=by
 subst e;obtain ⟨t,i⟩:=b;rw [eo,<- List.map_reverse,<- i,List.append_assoc,List.map_append,List.find?_append,List.find?_eq_none.2]
 .simp [d]
 .intro p b
  obtain ⟨z,d,rfl⟩:=List.mem_map.1 b;simpa using h z d
theorem qR {T:TypeId} {g n:Nat} {l:List UInt8} {F:ai} (a:l.length=n) (h:ag w (pt g (Y (dP l) T (0,0))*F)) (d:n<=1000000:=by omega):ag w (bs T (V (W ⟨g,0,X⟩) n n) l*F):=by
 have b:=ag.nj (sz:=1) (n:=n) (cap:=n) h (M2 n) (by unfold maxLen;omega) (by rw [eO,a,Nat.mul_one]);refine b.to ?_;have e:(dP l).toList.take (n*1)=l.map u8:=V2 (by rw [dP,List.toList_toArray,O2,a,Nat.mul_one];exact M2 _);rw [e,bs,a]
theorem fg {a b:Nat} {v u:N} (f:args[4]?=W (U (W ⟨a,0,X⟩))) (g:args[5]?=W (U (W ⟨b,0,X⟩))) (d:w.cell? ⟨a,0,X⟩=W v) (e:w.cell? ⟨b,0,X⟩=W u) :
  (results Tryz.f230 args).run S w = .ok (Y' #[v,u]) w:=by
 simp [results,Tryz.results230,go_sem,f,g,d,e]
theorem Pn (w:R) (i:Hp) (d:Nat) (D:aC) (a:Int) (F:ai) (h:ag w (aS i d D*(aq i*F))) (hD:D.Ok) (hh:D.has a) (hb:D.cP=0) :
  Calls S 230 #[U (W ⟨d,0,X⟩),Z .i64 a] w (ny i d { D.begun with cr:=cD (D.begun.cr+1) } (D.begun.cy a) F w):=by
 have T0:=hD.up hb;obtain ⟨e,p0⟩:∃ e,e=D.begun:=⟨_,rfl⟩
 have j0:e.has a:=by rw [p0,aC.Cw hb];exact hh
 rw [<- p0] at T0 ⊢;have a1:=ae p0;clear p0;have hA:=((h.alloc (Y #[Z .i64 a] 3 (0,0))).alloc (Y #[V X 0 0] 22 (0,0))).alloc (Y #[Z .i64 0] 28 (0,0));have D0:=(((aj.refl w).alloc (Y #[Z .i64 a] 3 (0,0))).alloc (Y #[V X 0 0] 22 (0,0))).alloc (Y #[Z .i64 0] 28 (0,0));rw [D1,D1] at hA;refine (callsIn_wide (n:=9)).1 ?_;refine callsIn_of_wp_marks func230 rfl trivial ?_ rfl;simp only [ntmps230,O1,R1,L1,T1,U1,V1,W1,X1,Y1,K1,Z1]
 gi_wp2_with fail
 generalize ((w.alloc (Y #[Z .i64 a] 3 (0,0))).alloc (Y #[V X 0 0] 22 (0,0))).alloc (Y #[Z .i64 0] 28 (0,0))=w1 at hA D0 ⊢;generalize w.heap.size+1+1=k at hA ⊢;generalize w.heap.size+1=j at hA ⊢;generalize w.heap.size=r at hA ⊢;have H1:ag w1 (aS i d D*(aq i*(pt r (Y #[Z .i64 a] 3 (0,0))*(pt j (Y #[V X 0 0] 22 (0,0))*(pt k (Y #[Z .i64 0] 28 (0,0))*F))))):=hA.to (by ac_rfl);have ch:=oj w1 i d D a _ H1;rw [show decide (D.has a)=Z' by simpa using hh] at ch;have cb:=ow w1 i d D _ H1 hD;rw [hb,<- a1.out] at cb;clear hA h hb hD;refine nG ch ?_;rintro n0 w1 ⟨rfl,rfl⟩;clear ch
 gi_wp2_with fail
 refine nG cb ?_;rintro n0 w2 ⟨rfl,B,d2⟩;clear cb H1;obtain ⟨x,hx⟩:=B.xS;have G:=hx.bF.1;have k3:w2.cell? ⟨d,3,X⟩=W (Z .i64 e.cr):=hx.cX 3;have kf:=hx.oe
 have o0:ag (w2.setCell ⟨d,3,X⟩ (Z .i64 (cD (e.cr+1)))) (gu x i d { e with cr:=cD (e.cr+1) }*(aq i*(pt r (Y #[Z .i64 a] 3 (0,0))*(pt j (Y #[V X 0 0] 22 (0,0))*(pt k (Y #[Z .i64 0] 28 (0,0))*F))))):=
  ag.je ⟨G.sec,G.tE,G.wait,G.mF⟩ (hx.bF.2.setCell 3 (Z .i64 (cD (e.cr+1))))
 have W0:=(D0.trans d2).setCell ⟨d,3,X⟩ (Z .i64 (cD (e.cr+1)))
 gi_wp2_with fail
 generalize w2.setCell ⟨d,3,X⟩ (Z .i64 (wrap64 (e.cr+1)))=w3 at o0 W0 ⊢;clear k3 kf hx B D0 d2;refine nG (B6 w3 _) ?_;rintro n0 w4 ⟨rfl,rfl⟩;have H4:=o0.alloc (Y #[U (W ⟨d,0,X⟩)] 24 (0,0));have X0:=W0.alloc (Y #[U (W ⟨d,0,X⟩)] 24 (0,0))
 gi_wp2_with fail
 generalize w3.alloc (Y #[U (W ⟨d,0,X⟩)] 24 (0,0))=w4 at H4 X0 ⊢;generalize w3.heap.size=bx at H4 ⊢
 have r0:ag w4 (ly i r j k a []*(gC bx x i d { e with cr:=cD (e.cr+1) }*F)):=
  (ag.au.2 ⟨fun z P=>(by cases P),H4⟩:ag w4 (fact _*_)).to (by unfold ly sZ gC;ac_rfl)
 refine jY (w0:=w) rfl (by decide) (gf:=270) (lb:=#[U (W ⟨bx,0,X⟩)]) rfl trivial (enters func270 (by kernel_rfl) rfl)
  (A6 _ x i bx d { e with cr:=cD (e.cr+1) } T0.many) (ly i r j k a) (IV i r j k a) (Uq i r j k bx d a (wrap64 (e.cr+1)) e.cr) F ?hps X0 r0 ?assign ?body ?done ?stop
 case hps=>
  intro z vs Fr p H;obtain ⟨⟨rfl,_⟩,_⟩:=ag.au.1 H
  rfl
 case assign=>
  intro l H0 h0 z vs Fr p j1 _ c0 H hK;obtain ⟨⟨rfl,da,dn,dc,P⟩,B⟩:=ag.au.1 (H.to (aG _ _ _));obtain ⟨q,dv,M⟩:=z;simp only at P;subst P;have H3:=B.alloc (Y #[Z .i64 q,V da dn dc] 229 (0,0));clear H B H4 r0 o0
  gi_wp2
  refine hK _ _ (c0.alloc _) (ag.ax.2 ⟨p.heap.size,(ag.au.2 ⟨rfl,H3⟩:ag _ (fact _*_)).to (by ac_rfl)⟩)
 case body=>
  intro l H0 h0 z a' Fr p hp c0 H;obtain ⟨bz,H1⟩:=ag.ax.1 H;obtain ⟨rfl,B⟩:=ag.au.1 (H1.to (ay _ _ _))
  have i1:z ∈ x.Z:=by
   obtain ⟨k1,I⟩:=hp;have:z ∈ x.Z.reverse:=by rw [<- I];simp
   simpa using this
  have s:=G.mF z i1;obtain ⟨da,dc,N0⟩:=iN s;obtain ⟨q,dv,M⟩:=z;simp only at N0 s;subst N0;have H3:ag p (ly i r j k a h0*(pt bz (Y #[Z .i64 q,V da M.length dc] 229 (0,0))*(pt l (.loop H0)*Fr))):=B.to (by ac_rfl);obtain ⟨q0,J4⟩:=ag.au.1 (H3.to (ay _ _ _));have C:ag p (aq i*(pt r (Y #[Z .i64 a] 3 (0,0))*(pt j (Y #[V X 0 0] 22 (0,0))*(pt k (Y #[Z .i64 0] 28 (0,0))*(pt bz (Y #[Z .i64 q,V da M.length dc] 229 (0,0))*(pt l (.loop H0)*Fr)))))):=J4.to (by unfold sZ;ac_rfl);have c3:=C.ah.cell 0;have c1:=C.aM.cell 0;have d1:=C.aM.cell 1;have V0:=s.rd C;have h1:M.length<=9223372036854775807:=by have:=s.1;unfold small at this;omega
  have Hp:=ae q0
  by_cases hq:q=a
  .have f1:(q == a)=Z':=by simpa using hq
   have Hq:=ae hq;clear hq
   gi_wp2_with fail
   refine rU (kI p _ M V0 h1) ?_;rintro n0 w5 ⟨g,rfl,h5,d5⟩;have f:=h5.under C;have c4:=f.aD.cell 0;have f4:=f.aD.frozen;have c5:=f.aM.cell 0;have f5:=f.aM.frozen;have K0:=(f.aD.setCell 0 (V (W ⟨g,0,X⟩) 512 512)).aM.cell 0;have L0:=(f.aD.setCell 0 (V (W ⟨g,0,X⟩) 512 512)).aM.frozen;have R0:j≠k:=(f.aM.aM).ne;have E:=((f.aD.setCell 0 (V (W ⟨g,0,X⟩) 512 512)).sK.aM.setCell 0 (Z .i64 0)).yh;clear c3 c1 d1 V0 C h5 f
   gi_wp2
   refine ⟨((c0.trans d5).setCell _ _).setCell _ _,ag.ax.2 ⟨(h0,(q,V da M.length dc,M),g),(ag.au.2 ⟨(⟨rfl,rfl,Hp.out,Hq.out⟩:Code.ret = .ret/\h0++[(q,H2 da M.length dc,M)]=h0++[(q,H2 da M.length dc,M)]/\(∀ z ∈ h0,¬ z.1=a)/\q=a),E.Tk⟩:ag _ (fact _*_)).to ?_⟩⟩;unfold sZ;simp only [M1,N1]
   ac_rfl
  .have f1:(q == a)=Q:=by simpa using hq
   gi_wp2
   refine ⟨c0,(ag.au.2 ⟨?_,C.TH⟩:ag _ (fact _*_)).to (by unfold ly sZ;ac_rfl)⟩;intro z P;rcases List.mem_append.1 P with P|P
   .exact Hp.out z P
   .rw [List.mem_singleton.1 P];exact hq
 case done=>
  intro D2 ys p hS c0 H;subst hS;have B:=H;obtain ⟨S0,H3⟩:=ag.au.1 (B.to (ay _ _ _));have d0:eo e.wait a=X:=Cv G.wait S0;clear S0 r0 H4 o0 H B
  have C:ag p (gu x i d { e with cr:=cD (e.cr+1) }*(aq i*(pt r (Y #[Z .i64 a] 3 (0,0))*(pt j (Y #[V X 0 0] 22 (0,0))*(pt k (Y #[Z .i64 0] 28 (0,0))*(pt D2 (.deferred (W []))*F)))))):=
   (H3.to (by unfold sZ gC;ac_rfl:_=pt bx (Y #[U (W ⟨d,0,X⟩)] 24 (0,0))*_)).right
  obtain ⟨e0,i0⟩:∃ m0,m0=gu x i d { e with cr:=cD (e.cr+1) }*(aq i*(pt r (Y #[Z .i64 a] 3 (0,0))*(pt j (Y #[V X 0 0] 22 (0,0))*(pt k (Y #[Z .i64 0] 28 (0,0))*(pt D2 (.deferred (W []))*F))))):=⟨_,rfl⟩
  rw [<- i0] at C;have g2:∀ b,ag b e0->b.cell? ⟨d,2,X⟩=W (.map (W x.tm)):=fun b h=>(i0▸h).cX 2;have g3:∀ b,ag b e0->b.cell? ⟨r,0,X⟩=W (Z .i64 a):=fun b h=>(i0▸h).aw.cell 0
  have gl:∀ b,ag b e0->(Instr.lookup 100 (.map (W x.tm)) (Z .i64 a) Z').run S b = .ok (Y' #[.agg #[],.bool (aP e.mQ a).isSome]) b:=fun b h=>by
   have:=(i0▸h).bF.2.aD.lookup (P:=S) underlying100 underlying3 (I6 b) a Z';rw [this,Ge,DP];rfl
  have l0:ag (p.drew.alloc (Y #[] 202 (0,0))) e0:=(ag.alloc (w:=p.drew) C _).right;have HB:=ae i0;clear i0 H3
  gi_wp2
  refine wpIn_wide.2 ?_
  go_region_held3 (fun b=>ag b e0) (first|assumption|exact C.drew|exact l0) (fail)
  .have b0:ag (p.alloc (Y #[] 202 (0,0))).drew e0:=l0
   have f0:=(c0.alloc (Y #[] 202 (0,0))).drew;clear gl l0 C;generalize (p.alloc (Y #[] 202 (0,0))).drew=W6 at f0 b0 ⊢;generalize p.heap.size=bt;have f:=HB.out▸b0
   by_cases I:(aP e.mQ a).isSome=Z'
   .have u:e.cy a=(3,[]):=by rw [aC.cy,d0];simp only [I,if_true]
    have c4:=f.aD.cell 0;have f4:=f.aD.frozen;have c5:=f.aM.cell 0;have f5:=f.aM.frozen;have K0:=(f.aD.setCell 0 (V X 0 0)).aM.cell 0;have L0:=(f.aD.setCell 0 (V X 0 0)).aM.frozen;have R0:j≠k:=(f.aM.aM).ne;have E:=((f.aD.setCell 0 (V X 0 0)).aM.setCell 0 (Z .i64 3))
    have A:=ae u;have Z0:=ae f;clear u f d0 hh b0 g2 g3 HB;rw [I]
    go_wp2
    gi_wp2
    refine ⟨by simp,.inl ⟨_,_,rfl,run_takeDeferred E.dI.heap,?_⟩⟩;have H8:=E.dI.putObj (.deferred X);refine ⟨Y' #[V X 0 0,Z .i64 3],fg rfl rfl (H8.aw.cell 0) (H8.ah.cell 0),_,by rw [A.out],?_,((f0.setCell _ _).setCell _ _).putObj _ _⟩;rw [A.out];exact ag.jv (ag.devOf (H8.right.right.right.lF)) (by decide)
   .simp only [Bool.not_eq_true] at I
    have x0:x.Y.length=e.sec.length:=by rw [<- G.sec,O2]
    obtain ⟨n,rfl⟩:=E1 j0.1;have K:n<x.Y.length:=by have:=j0.2;omega
    have e1:(n:Int)<(x.Y.length:Int):=by omega
    have u:e.cy (n:Int)=(0,bW 512 x.Y[n].2):=by
     rw [aC.cy,d0];simp only [I,Bool.false_eq_true,if_false,B1,<- G.sec];simp [K]
    have s:=G.tE _ (E2 K);obtain ⟨va,vc,hv⟩:=iN s;have g0:(x.Y.map Prod.fst)[n]?=W (V va x.Y[n].2.length vc):=by rw [<- hv];simp [K]
    rw [hv] at s;generalize x.Y[n].2=t at u s g0;obtain ⟨o,y⟩:∃ m0,m0=gu x i d { e with cr:=cD (e.cr+1) }*(aq i*(pt r (Y #[Z .i64 (n:Int)] 3 (0,0))*(pt D2 (.deferred (W []))*F))):=⟨_,rfl⟩
    have E:ag W6 (o*(pt j (Y #[V X 0 0] 22 (0,0))*pt k (Y #[Z .i64 0] 28 (0,0)))):=f.to (by rw [y];ac_rfl);have G0:∀ b,ag b o->b.cell? ⟨d,0,X⟩=W (V (W ⟨x.sg,0,X⟩) x.Y.length x.Y.length):=fun b h=>(y▸h).cX 0;have G3:∀ b,ag b o->b.cell? ⟨r,0,X⟩=W (Z .i64 (n:Int)):=fun b h=>(y▸h).aw.cell 0;have Gs:∀ b,ag b o->b.cell? ⟨x.sg,n,X⟩=W (V va t.length vc):=fun b h=>((y▸h).bF.2.ah.cell n).trans (by simpa using g0);have Gr:Hid (∀ b,ag b o->Rd b (V va t.length vc) t):=fun b h=>s.rd ((y▸h).ah);have F0:t.length<=9223372036854775807:=by have:=s.1;unfold small at this;omega
    have A:=ae u;have u0:=ae y;have b1:=ae K;clear u f d0 hh j0 b0 g2 g3 HB y s g0 hv K x0;rw [I]
    go_wp2
    gi_wp2
    refine wpIn_wide.2 ?_;have s0:=E;have k0:ag W6.drew o:=E.left
    go_region_held3 (fun b=>ag b o) (first|assumption|exact k0) (first
     | (go_at_call 219;(with_reducible refine (kI _ _ t (Gr.out _ k0) F0).mono ?_);rintro n0 L ⟨g,rfl,h7,d7⟩;have J7:=h7.under s0;have Jb:ag L o:=J7.right.left;have K4:ag L (pt j (Y #[V X 0 0] 22 (0,0))*(pt k (Y #[Z .i64 0] 28 (0,0))*(pt g (Y (dP (bW 512 t)) 5 (0,0))*o))):=J7.to (by ac_rfl);have c4:=K4.cell 0;have f4:=K4.frozen;have K5:=(K4.setCell 0 (V (W ⟨g,0,X⟩) 512 512)).ah;have c5:=K5.cell 0;have f5:=K5.frozen;have K6:=K5.setCell 0 (Z .i64 0);have S1:ag (L.setCell ⟨j,0,X⟩ (V (W ⟨g,0,X⟩) 512 512)) o:=K5.right.right.right;have S2:ag ((L.setCell ⟨j,0,X⟩ (V (W ⟨g,0,X⟩) 512 512)).setCell ⟨k,0,X⟩ (Z .i64 0)) o:=K6.right.right.right))
    gi_wp2
    have K7:ag ((L.setCell ⟨j,0,X⟩ (V (W ⟨g,0,X⟩) 512 512)).setCell ⟨k,0,X⟩ (Z .i64 0)) (pt D2 (.deferred (W []))*(pt k (Y #[Z .i64 0] 28 (0,0))*(pt j (Y #[V (W ⟨g,0,X⟩) 512 512] 22 (0,0))*(pt g (Y (dP (bW 512 t)) 5 (0,0))*(gu x i d { e with cr:=cD (e.cr+1) }*(aq i*(pt r (Y #[Z .i64 (n:Int)] 3 (0,0))*F))))))):=
     K6.to (by rw [u0.out];simp only [M1,N1];ac_rfl)
    refine ⟨by simp,.inl ⟨_,_,rfl,run_takeDeferred K7.heap,?_⟩⟩;have J:=K7.putObj (.deferred X);refine ⟨Y' #[V (W ⟨g,0,X⟩) 512 512,Z .i64 0],fg rfl rfl (J.aw.cell 0) (J.ah.cell 0),_,by rw [A.out],?_,(((f0.drew.trans d7).setCell _ _).setCell _ _).putObj _ _⟩;rw [A.out];have K9:=qR (cm 512 t) J.right.right.right;exact ag.te ((ag.devOf K9.ah.kD).MZ)
  .have b0:ag (p.alloc (Y #[] 202 (0,0))).drew e0:=l0
   have f0:=(c0.alloc (Y #[] 202 (0,0))).drew;clear gl l0 C;generalize (p.alloc (Y #[] 202 (0,0))).drew=W6 at f0 b0 ⊢;generalize p.heap.size=bt;have f:=HB.out▸b0
   by_cases I:(aP e.mQ a).isSome=Z'
   .have u:e.cy a=(3,[]):=by rw [aC.cy,d0];simp only [I,if_true]
    have c4:=f.aD.cell 0;have f4:=f.aD.frozen;have c5:=f.aM.cell 0;have f5:=f.aM.frozen;have K0:=(f.aD.setCell 0 (V X 0 0)).aM.cell 0;have L0:=(f.aD.setCell 0 (V X 0 0)).aM.frozen;have R0:j≠k:=(f.aM.aM).ne;have E:=((f.aD.setCell 0 (V X 0 0)).aM.setCell 0 (Z .i64 3))
    have A:=ae u;have Z0:=ae f;clear u f d0 hh b0 g2 g3 HB;rw [I]
    go_wp2
    gi_wp2
    refine ⟨by simp,.inl ⟨_,_,rfl,run_takeDeferred E.dI.heap,?_⟩⟩;have H8:=E.dI.putObj (.deferred X);refine ⟨Y' #[V X 0 0,Z .i64 3],fg rfl rfl (H8.aw.cell 0) (H8.ah.cell 0),_,by rw [A.out],?_,((f0.setCell _ _).setCell _ _).putObj _ _⟩;rw [A.out];exact ag.jv (ag.devOf (H8.right.right.right.lF)) (by decide)
   .simp only [Bool.not_eq_true] at I
    have x0:x.Y.length=e.sec.length:=by rw [<- G.sec,O2]
    obtain ⟨n,rfl⟩:=E1 j0.1;have K:n<x.Y.length:=by have:=j0.2;omega
    have e1:(n:Int)<(x.Y.length:Int):=by omega
    have u:e.cy (n:Int)=(0,bW 512 x.Y[n].2):=by
     rw [aC.cy,d0];simp only [I,Bool.false_eq_true,if_false,B1,<- G.sec];simp [K]
    have s:=G.tE _ (E2 K);obtain ⟨va,vc,hv⟩:=iN s;have g0:(x.Y.map Prod.fst)[n]?=W (V va x.Y[n].2.length vc):=by rw [<- hv];simp [K]
    rw [hv] at s;generalize x.Y[n].2=t at u s g0;obtain ⟨o,y⟩:∃ m0,m0=gu x i d { e with cr:=cD (e.cr+1) }*(aq i*(pt r (Y #[Z .i64 (n:Int)] 3 (0,0))*(pt D2 (.deferred (W []))*F))):=⟨_,rfl⟩
    have E:ag W6 (o*(pt j (Y #[V X 0 0] 22 (0,0))*pt k (Y #[Z .i64 0] 28 (0,0)))):=f.to (by rw [y];ac_rfl);have G0:∀ b,ag b o->b.cell? ⟨d,0,X⟩=W (V (W ⟨x.sg,0,X⟩) x.Y.length x.Y.length):=fun b h=>(y▸h).cX 0;have G3:∀ b,ag b o->b.cell? ⟨r,0,X⟩=W (Z .i64 (n:Int)):=fun b h=>(y▸h).aw.cell 0;have Gs:∀ b,ag b o->b.cell? ⟨x.sg,n,X⟩=W (V va t.length vc):=fun b h=>((y▸h).bF.2.ah.cell n).trans (by simpa using g0);have Gr:Hid (∀ b,ag b o->Rd b (V va t.length vc) t):=fun b h=>s.rd ((y▸h).ah);have F0:t.length<=9223372036854775807:=by have:=s.1;unfold small at this;omega
    have A:=ae u;have u0:=ae y;have b1:=ae K;clear u f d0 hh j0 b0 g2 g3 HB y s g0 hv K x0;rw [I]
    go_wp2
    gi_wp2
    refine wpIn_wide.2 ?_;have s0:=E;have k0:ag W6.drew o:=E.left
    go_region_held3 (fun b=>ag b o) (first|assumption|exact k0) (first
     | (go_at_call 219;(with_reducible refine (kI _ _ t (Gr.out _ k0) F0).mono ?_);rintro n0 L ⟨g,rfl,h7,d7⟩;have J7:=h7.under s0;have Jb:ag L o:=J7.right.left;have K4:ag L (pt j (Y #[V X 0 0] 22 (0,0))*(pt k (Y #[Z .i64 0] 28 (0,0))*(pt g (Y (dP (bW 512 t)) 5 (0,0))*o))):=J7.to (by ac_rfl);have c4:=K4.cell 0;have f4:=K4.frozen;have K5:=(K4.setCell 0 (V (W ⟨g,0,X⟩) 512 512)).ah;have c5:=K5.cell 0;have f5:=K5.frozen;have K6:=K5.setCell 0 (Z .i64 0);have S1:ag (L.setCell ⟨j,0,X⟩ (V (W ⟨g,0,X⟩) 512 512)) o:=K5.right.right.right;have S2:ag ((L.setCell ⟨j,0,X⟩ (V (W ⟨g,0,X⟩) 512 512)).setCell ⟨k,0,X⟩ (Z .i64 0)) o:=K6.right.right.right))
    gi_wp2
    have K7:ag ((L.setCell ⟨j,0,X⟩ (V (W ⟨g,0,X⟩) 512 512)).setCell ⟨k,0,X⟩ (Z .i64 0)) (pt D2 (.deferred (W []))*(pt k (Y #[Z .i64 0] 28 (0,0))*(pt j (Y #[V (W ⟨g,0,X⟩) 512 512] 22 (0,0))*(pt g (Y (dP (bW 512 t)) 5 (0,0))*(gu x i d { e with cr:=cD (e.cr+1) }*(aq i*(pt r (Y #[Z .i64 (n:Int)] 3 (0,0))*F))))))):=
     K6.to (by rw [u0.out];simp only [M1,N1];ac_rfl)
    refine ⟨by simp,.inl ⟨_,_,rfl,run_takeDeferred K7.heap,?_⟩⟩;have J:=K7.putObj (.deferred X);refine ⟨Y' #[V (W ⟨g,0,X⟩) 512 512,Z .i64 0],fg rfl rfl (J.aw.cell 0) (J.ah.cell 0),_,by rw [A.out],?_,(((f0.drew.trans d7).setCell _ _).setCell _ _).putObj _ _⟩;rw [A.out];have K9:=qR (cm 512 t) J.right.right.right;exact ag.te ((ag.devOf K9.ah.kD).MZ)
 case stop=>
  intro D2 c ys p hp c0 H;obtain ⟨⟨h0,z,g⟩,H1⟩:=ag.ax.1 H;obtain ⟨⟨rfl,rfl,q0,Y0⟩,B⟩:=ag.au.1 (H1.to (ay _ _ _));have u:e.cy a=(0,bW 512 z.2.2):=by rw [aC.cy,Bw G.wait hp q0 Y0]
  have A:=ae u
  have K7:ag p (pt D2 (.deferred (W []))*(pt k (Y #[Z .i64 0] 28 (0,0))*(pt j (Y #[V (W ⟨g,0,X⟩) 512 512] 22 (0,0))*(pt g (Y (dP (bW 512 z.2.2)) 5 (0,0))*(gu x i d { e with cr:=cD (e.cr+1) }*(aq i*(pt r (Y #[Z .i64 a] 3 (0,0))*(pt bx (Y #[U (W ⟨d,0,X⟩)] 24 (0,0))*F)))))))):=
   B.to (by unfold sZ gC;ac_rfl)
  clear H H1 B hp q0 Y0 u r0 H4 o0
  gi_wp2
  refine ⟨by simp,.inl ⟨_,_,rfl,run_takeDeferred K7.heap,?_⟩⟩;have J:=K7.putObj (.deferred X);refine ⟨Y' #[V (W ⟨g,0,X⟩) 512 512,Z .i64 0],fg rfl rfl (J.aw.cell 0) (J.ah.cell 0),_,by rw [A.out],?_,c0.putObj _ _⟩;rw [A.out];have K9:=qR (cm 512 z.2.2) J.right.right.right;exact ag.te ((ag.devOf K9.ah.kD.kD).MZ)
theorem yM (w:R) (g:Hp) (d:Nat) (D:aC) (a:Int) (F:ai) (h:ag w (aS g d D*(aq g*F))) (r:¬ D.has a) :
  Calls S 230 #[U (W ⟨d,0,X⟩),Z .i64 a] w (ny g d D (1,[]) F w):=by
 have f:=((h.alloc (Y #[Z .i64 a] 3 (0,0))).alloc (Y #[V X 0 0] 22 (0,0))).alloc (Y #[Z .i64 0] 28 (0,0));have l:=(((aj.refl w).alloc (Y #[Z .i64 a] 3 (0,0))).alloc (Y #[V X 0 0] 22 (0,0))).alloc (Y #[Z .i64 0] 28 (0,0));rw [D1,D1] at f;refine (callsIn_wide (n:=9)).1 ?_;refine callsIn_of_wp_marks func230 rfl trivial ?_ rfl;simp only [ntmps230,O1,R1,L1,T1,U1,V1,W1,X1,Y1,K1,Z1]
 gi_wp2_with fail
 generalize ((w.alloc (Y #[Z .i64 a] 3 (0,0))).alloc (Y #[V X 0 0] 22 (0,0))).alloc (Y #[Z .i64 0] 28 (0,0))=k at f l ⊢;generalize w.heap.size+1+1=p at f ⊢;generalize w.heap.size+1=o at f ⊢;generalize w.heap.size=q at f ⊢;have b:ag k (aS g d D*(aq g*(pt q (Y #[Z .i64 a] 3 (0,0))*(pt o (Y #[V X 0 0] 22 (0,0))*(pt p (Y #[Z .i64 0] 28 (0,0))*F))))):=f.to (by ac_rfl);have j:=oj k g d D a _ b;rw [show decide (D.has a)=Q by simpa using r] at j;clear f h;refine nG j ?_;rintro e k ⟨rfl,rfl⟩;have s:=b.aD.cell 0;have x:=b.aD.frozen;have u:=(b.aD.setCell 0 (V X 0 0)).aM.cell 0;have z:=(b.aD.setCell 0 (V X 0 0)).aM.frozen;have A:o≠p:=(b.aM.aM).ne;have t:=b.aM.cell 0;have y:=b.aM.frozen;have i:=((b.aD.setCell 0 (V X 0 0)).aM.setCell 0 (Z .i64 1))
 clear j b
 gi_wp2
 refine ⟨_,fg rfl rfl (i.ah.cell 0) (i.cell 0),?_⟩;exact ⟨_,rfl,ag.jv (i.right.right.lF) (by decide),(l.setCell _ _).setCell _ _⟩
theorem Je (w:R) (f:Hp) (d:Nat) (D:aC) (a:Int) (F:ai) (h:ag w (aS f d D*(aq f*F))) (o:D.Ok) (q:D.has a) (p:D.cP=2) :
  Calls S 230 #[U (W ⟨d,0,X⟩),Z .i64 a] w (ny f d D.begun (2,[]) F w):=by
 have g:=((h.alloc (Y #[Z .i64 a] 3 (0,0))).alloc (Y #[V X 0 0] 22 (0,0))).alloc (Y #[Z .i64 0] 28 (0,0));have r:=(((aj.refl w).alloc (Y #[Z .i64 a] 3 (0,0))).alloc (Y #[V X 0 0] 22 (0,0))).alloc (Y #[Z .i64 0] 28 (0,0));rw [D1,D1] at g;refine (callsIn_wide (n:=9)).1 ?_;refine callsIn_of_wp_marks func230 rfl trivial ?_ rfl;simp only [ntmps230,O1,R1,L1,T1,U1,V1,W1,X1,Y1,K1,Z1]
 gi_wp2_with fail
 generalize ((w.alloc (Y #[Z .i64 a] 3 (0,0))).alloc (Y #[V X 0 0] 22 (0,0))).alloc (Y #[Z .i64 0] 28 (0,0))=i at g r ⊢;generalize w.heap.size+1+1=t at g ⊢;generalize w.heap.size+1=s at g ⊢;generalize w.heap.size=u at g ⊢;have b:ag i (aS f d D*(aq f*(pt u (Y #[Z .i64 a] 3 (0,0))*(pt s (Y #[V X 0 0] 22 (0,0))*(pt t (Y #[Z .i64 0] 28 (0,0))*F))))):=g.to (by ac_rfl);have l:=oj i f d D a _ b;rw [show decide (D.has a)=Z' by simpa using q] at l;have k:=ow i f d D _ b o;rw [p] at k;clear g h b o p q;refine nG l ?_;rintro e i ⟨rfl,rfl⟩;clear l
 gi_wp2_with fail
 refine nG k ?_;rintro e H ⟨rfl,b,x⟩;have y:=b.aD.cell 0;have B:=b.aD.frozen;have A:=(b.aD.setCell 0 (V X 0 0)).aM.cell 0;have E:=(b.aD.setCell 0 (V X 0 0)).aM.frozen;have G:s≠t:=(b.aM.aM).ne;have z:=b.aM.cell 0;have C:=b.aM.frozen;have j:=((b.aD.setCell 0 (V X 0 0)).aM.setCell 0 (Z .i64 2))
 clear k b
 gi_wp2
 refine ⟨_,fg rfl rfl (j.ah.cell 0) (j.cell 0),?_⟩;exact ⟨_,rfl,ag.jv (j.right.right.lF) (by decide),((r.trans x).setCell _ _).setCell _ _⟩
theorem nu (w:R) (b:Hp) (d:Nat) (D:aC) (a:Int) (F:ai) (h:ag w (aS b d D*(aq b*F))) (g:D.Ok) :
  Calls S 230 #[U (W ⟨d,0,X⟩),Z .i64 a] w (ny b d (D.read a).2 (D.read a).1 F w):=by
 unfold aC.read
 by_cases f:D.has a
 .rw [if_pos f]
  rcases D.lN with e|e
  .rw [if_pos e];exact Pn w b d D a F h g f e
  .rw [if_neg (by rw [e];decide)];exact Je w b d D a F h g f e
 .rw [if_neg f];exact yM w b d D a F h f
theorem GI (n:Nat):madeCells #[H2 X 0 0] n=(A1 n (H2 X 0 0)).toArray:=by
 apply Array.ext
 .simp [size_madeCells]
 .intro i a b
  simp [madeCells,Nat.mod_one]
def QQ (n:Nat) (w:R) (e:Ending) (a:R):Prop:=
 ∃ d,e = O (Y' #[U (W ⟨d,0,X⟩),Z .i64 0])/\(∀ b,ag a (aS b d (aC.fresh n)*whole w))/\aj w a
theorem zf (n:Nat) (o:1<=n) (p:n<=20000) (w:R) :
  Calls S 25 #[Z .i64 n] w (QQ n w):=by
 have r:(1:Int)<=(n:Int):=by omega
 have s:(n:Int)<=20000:=by omega
 obtain ⟨k,d,f,e,b⟩:=info_parts DE;have h:=run_make (P:=S) w 99 22 k _ underlying99 d f .i64 .i64 n n (by omega) (by omega) (by rw [b];omega) (by omega);rw [e] at h;have q:=@run_makeMap S;have a:=(((ag.whole w).alloc (Y (madeCells #[V X 0 0] n) 22 (0,0))).alloc (.map #[] 0)).alloc (Y #[V (W ⟨w.heap.size,0,X⟩) n n,V X 0 0,.map (W (w.heap.size+1)),Z .i64 0,Z .i64 0,Z .i64 0,.bool Q,.bool Q,Z .i64 0,V X 0 0] 106 (0,0));have i:=(((aj.refl w).alloc (Y (madeCells #[V X 0 0] n) 22 (0,0))).alloc (.map #[] 0)).alloc (Y #[V (W ⟨w.heap.size,0,X⟩) n n,V X 0 0,.map (W (w.heap.size+1)),Z .i64 0,Z .i64 0,Z .i64 0,.bool Q,.bool Q,Z .i64 0,V X 0 0] 106 (0,0));rw [D1,D1] at a;clear d f e b
 go_enter func25,ntmps25
 go_wp2
 go_ret2
 refine ⟨_,rfl,fun l=>?_,i⟩;have g:=((a.ah.tD isMap_empty).aw.eQ 229 2).eQ 3 1;refine ag.devOf (x:=⟨w.heap.size,w.heap.size+1,V X 0 0,V X 0 0,A1 n (V X 0 0,[]),[]⟩) (ag.je ⟨by simp [aC.fresh],fun y j=>?_,rfl,by simp⟩ (g.to ?_))
 .rw [List.eq_of_mem_replicate j];exact ⟨by simp [small],.inl ⟨rfl,rfl⟩⟩
 .simp only [Dx.cells,aC.fresh,P2,List.map_replicate,gV,List.map_nil,iJ,bR,List.flatMap_nil,L1,GI]
  ac_rfl
end Go.Proofs.Nn
namespace Go.SL
open RowKit
variable {w:R} {F:ai}
def BX (g r:Nat) (l:List Int):ai:=pt r (Y #[V (W ⟨g,0,X⟩) l.length l.length] 285 (0,0))*pt g (Y (ints l) 3 (0,0))
def bX (r:Nat) (l:List Int):ai:=ex fun g=>BX g r l
theorem ag.ni {r:Nat} {l:List Int} (h:ag w (bX r l*F)):∃ g,ag w (pt r (Y #[V (W ⟨g,0,X⟩) l.length l.length] 285 (0,0))*(pt g (Y (ints l) 3 (0,0))*F)):=by
 obtain ⟨g,h⟩:=ag.ax.1 h;exact ⟨g,h.to (ay _ _ _)⟩
theorem ag.KJ {g r:Nat} {l:List Int} (h:ag w (pt r (Y #[V (W ⟨g,0,X⟩) l.length l.length] 285 (0,0))*(pt g (Y (ints l) 3 (0,0))*F))):ag w (bX r l*F):=
 ag.ax.2 ⟨g,h.to (ay _ _ _).symm⟩
end Go.SL
namespace Go.Proofs.Nn
open RowKit SL
theorem um:(prog.info? 3).map (fun i=>(i.zero,i.size,i.bytes))=W (W (Z .i64 0),1,8):=by kernel_rfl
theorem rJ (n:Nat) (f:n<=1048576) (w:R):(Instr.makeSlice 104 (Z .i64 n) (Z .i64 n)).run S w =
  .ok (V (W ⟨w.heap.size,0,X⟩) n n) (w.alloc (Y (ints (A1 n 0)) 3 (0,0))):=by
 obtain ⟨i,b,e,d,a⟩:=info_parts um;have:=run_make (P:=S) w 104 3 i _ underlying104 b e .i64 .i64 n n (by omega) (by omega) (by rw [a];omega) (by omega);rw [this,d];simp only [B1];rw [Gj]
theorem sM (w:R) (r:Nat) (l:List Int) (F:ai) (h:ag w (bX r l*F)) :
  Calls S 178 #[U (W ⟨r,0,X⟩)] w (mE l.length w):=by
 obtain ⟨g,h⟩:=h.ni;have a:w.cell? ⟨r,0,X⟩=W (V (W ⟨g,0,X⟩) l.length l.length):=h.cell 0;clear h
 go_enter func178,ntmps178
 go_wp2
 go_ret
 exact ⟨rfl,rfl⟩
theorem zr {a n:Int} (b:0<n):a%n=if a.tmod n<0 then a.tmod n+n else a.tmod n:=by
 rw [Int.tmod_eq_emod];have d:=A2 a (by omega:n≠0);have e:=B2 a b
 split <;> split <;> omega
theorem dN (w:R) (r:Nat) (l:List Int) (a:Int) (F:ai) (h:ag w (bX r l*F)) (j:0<l.length) (i:l.length<=1048576) :
  Calls S 183 #[U (W ⟨r,0,X⟩),Z .i64 a] w (mE (a%(l.length:Int)) w):=by
 obtain ⟨g,h⟩:=h.ni;have o:w.cell? ⟨r,0,X⟩=W (V (W ⟨g,0,X⟩) l.length l.length):=h.cell 0;have e:0<(l.length:Int):=by omega
 have p:(l.length:Int)<=1048576:=by omega
 have b:=zr (a:=a) e
 have f:-(l.length:Int)<a.tmod l.length/\a.tmod l.length<l.length:=by
  rw [Int.tmod_eq_emod];have i:=A2 a (by omega:(l.length:Int)≠0);have k:=B2 a e
  split <;> omega
 obtain ⟨f,q⟩:=f;rw [b];clear h b;have s:-1048576<=a.tmod l.length:=by omega
 have t:a.tmod l.length<=1048576:=by omega
 by_cases d:a.tmod l.length<0
 .rw [if_pos d]
  go_enter func183,ntmps183
  go_wp2
  go_ret
  exact ⟨rfl,rfl⟩
 .rw [if_neg d]
  go_enter func183,ntmps183
  go_wp2
  go_ret
  exact ⟨rfl,rfl⟩
theorem ov (a:Int) {n:Nat} (d:0<n):∃ k:Nat,a%(n:Int)=(k:Int)/\k<n:=by
 obtain ⟨k,b⟩:=E1 (A2 a (by omega:(n:Int)≠0));exact ⟨k,b,by have:=B2 a (by omega:(0:Int)<n);omega⟩
theorem FQ (w:R) (r:Nat) (l:List Int) (a:Int) (F:ai) (h:ag w (bX r l*F)) (f:0<l.length) (j:l.length<=1048576) :
  Calls S 180 #[U (W ⟨r,0,X⟩),Z .i64 a] w fun e b=>e = O (Z .i64 (l.getD (a%(l.length:Int)).toNat 0))/\ag b (whole w)/\aj w b:=by
 obtain ⟨k,d,q⟩:=ov a f;have s:=dN w r l a F h f j;rw [d] at s;obtain ⟨g,i⟩:=h.ni;have p:w.cell? ⟨r,0,X⟩=W (V (W ⟨g,0,X⟩) l.length l.length):=i.cell 0;have o:w.cell? ⟨g,k,X⟩=W (Z .i64 (l.getD k 0)):=(i.ah.cell k).trans (bG q);have u:(k:Int)<(l.length:Int):=by omega
 have t:Calls S 183 #[U (W ⟨r,0,X⟩),Z .i64 a] w.drew (mE k w.drew):=by
  have:=dN w.drew r l a F h f j
  rwa [d] at this
 rw [d,B1];generalize l.getD k 0=v at o;clear h i d
 go_enter func180,ntmps180
 go_wp2_with fail
 go_region_held3 (fun b=>b.cell? ⟨r,0,X⟩=W (V (W ⟨g,0,X⟩) l.length l.length)/\b.cell? ⟨g,k,X⟩=W (Z .i64 v)) (first|assumption|exact ⟨p,o⟩) (first
  | (go_at_call 183;(with_reducible refine t.mono ?_);rintro e x ⟨rfl,rfl⟩))
 go_wp2
 go_ret
 exact ⟨rfl,(ag.whole w).drew,(aj.refl w).drew⟩
theorem ub (w:R) (r:Nat) (l:List Int) (a x:Int) (F:ai) (h:ag w (bX r l*F)) (j:0<l.length) (p:l.length<=1048576) :
  Calls S 226 #[U (W ⟨r,0,X⟩),Z .i64 a,Z .i64 x] w fun e d=>e = O (Y' #[])/\ag d (bX r (l.set (a%(l.length:Int)).toNat x)*F)/\aj w d:=by
 obtain ⟨k,i,t⟩:=ov a j
 have u:Calls S 183 #[U (W ⟨r,0,X⟩),Z .i64 a] w.drew (mE k w.drew):=by
  have:=dN w.drew r l a F h j p
  rwa [i] at this
 obtain ⟨g,b⟩:=h.ni;have q:w.cell? ⟨r,0,X⟩=W (V (W ⟨g,0,X⟩) l.length l.length):=b.cell 0;have y:w.cell? ⟨g,k,X⟩=W (Z .i64 (l.getD k 0)):=(b.ah.cell k).trans (bG t);have z:w.frozen? ⟨g,k,X⟩=Q:=b.ah.frozen k;have A:(k:Int)<(l.length:Int):=by omega
 have f:=(b.ah.setCell k (Z .i64 x)).ah;have s:=f.cell 0;have o:=ae f;rw [i,B1];generalize l.getD k 0=v at y;clear h b i f
 go_enter func226,ntmps226
 go_region_held3 (fun d=>d.cell? ⟨r,0,X⟩=W (V (W ⟨g,0,X⟩) l.length l.length)) (first|assumption|exact q|exact s) (first
  | (go_at_call 183;(with_reducible refine u.mono ?_);rintro e B ⟨rfl,rfl⟩))
 go_wp2
 go_end0
 have e:(l.set k x).length=l.length:=R2;refine ⟨rfl,ag.KJ (g:=g) ?_,((aj.refl w).setCell _ _).drew⟩;rw [e,<- gH];exact o.out
theorem zG (w:R) (r:Nat) (l:List Int) (a b:Int) (F:ai) (h:ag w (bX r l*F)) (f:0<l.length) (g:l.length<=1048576) :
  Calls S 137 #[U (W ⟨r,0,X⟩),Z .i64 a,Z .i64 b] w (mE ((a+b)%(l.length:Int)) w):=by
 have i:=dN w r l a F h f g;have j:=dN w r l b F h f g;have d:=dN w r l (a%(l.length:Int)+b%(l.length:Int)) F h f g;rw [<- Int.add_emod] at d;have q:=A2 a (by omega:(l.length:Int)≠0);have o:=B2 a (by omega:(0:Int)<l.length);have t:=A2 b (by omega:(l.length:Int)≠0);have p:=B2 b (by omega:(0:Int)<l.length);have a3:a%(l.length:Int)<=1048576:=by omega
 have u:b%(l.length:Int)<=1048576:=by omega
 generalize (a+b)%(l.length:Int)=s at d ⊢;generalize a%(l.length:Int)=x at *;generalize b%(l.length:Int)=y at *;clear h o p
 go_enter func137,ntmps137
 go_wp2_with fail
 refine i.mono ?_;rintro e k ⟨rfl,rfl⟩;clear i
 go_wp2_with fail
 refine j.mono ?_;rintro e k ⟨rfl,rfl⟩;clear j
 go_wp2_with fail
 refine d.mono ?_;rintro e k ⟨rfl,rfl⟩;clear d
 go_wp2
 go_ret
 exact ⟨rfl,rfl⟩
def Kp (n:Nat) (v:Int) (w:R) (e:Ending) (a:R):Prop:=∃ r,e = O (U (W ⟨r,0,X⟩))/\ag a (bX r (A1 n v)*whole w)/\aj w a
def Ep (g r:Nat) (n:Nat) (v:Int) (w:R) (u:N) (wr:R):Prop:=
 ∃ k:Nat,k<=n/\u = Z .i64 k/\ag wr (BX g r (A1 k v++A1 (n-k) 0)*whole w)/\aj w wr
theorem xG (n k:Nat) (v:Int) (h:k<n):(A1 k v++A1 (n-k) (0:Int)).set k v=A1 (k+1) v++A1 (n-(k+1)) 0:=by
 have e:n-k=(n-(k+1))+1:=by omega
 rw [e,List.replicate_succ,List.set_append_right _ _ (by simp)];simp [List.replicate_succ']
theorem Cb (n:Nat) (v:Int) (w:R) (z:1<=n) (s:n<=1048576) :
  Calls S 224 #[Z .i64 n,Z .i64 v] w (Kp n v w):=by
 have E:(1:Int)<=(n:Int):=by omega
 have F:(n:Int)<=1048576:=by omega
 have t:=rJ n s w;have d:=((ag.whole w).alloc (Y (ints (A1 n 0)) 3 (0,0))).alloc (Y #[V (W ⟨w.heap.size,0,X⟩) n n] 285 (0,0));have l:=((aj.refl w).alloc (Y (ints (A1 n 0)) 3 (0,0))).alloc (Y #[V (W ⟨w.heap.size,0,X⟩) n n] 285 (0,0));rw [D1] at d
 go_enter func224,ntmps224
 go_wp2
 generalize (w.alloc (Y (ints (A1 n 0)) 3 (0,0))).alloc (Y #[V (W ⟨w.heap.size,0,X⟩) n n] 285 (0,0))=G at d l ⊢;generalize w.heap.size+1=r at d ⊢;generalize w.heap.size=g at d ⊢;clear t
 go_loopw [18] (fun u wr=>Ep g r n v w u wr) (fun u _=>n-(intOf u).toNat)
 case atStart=>exact ⟨0,T2 _,rfl,d.to (by unfold BX;simp only [J2,K1,N2,P2];ac_rfl),l⟩
 case round=>
  obtain ⟨k,C,rfl,a,o⟩:=hrel;clear d l;have f:(A1 k v++A1 (n-k) (0:Int)).length=n:=by simp;omega
  have b:ag wr (pt g (Y (ints (A1 k v++A1 (n-k) 0)) 3 (0,0))*(pt r (Y #[V (W ⟨g,0,X⟩) n n] 285 (0,0))*whole w)):=by
   unfold BX at a;rw [f] at a;exact a.to (by ac_rfl)
  have A:=b.ah.cell 0
  by_cases j:k<n
  .have D:(k:Int)<(n:Int):=by omega
   have x:wr.cell? ⟨g,k,X⟩=W (Z .i64 ((A1 k v++A1 (n-k) (0:Int)).getD k 0)):=(b.cell k).trans (bG (by rw [f];exact j));have B:=b.frozen k;generalize (A1 k v++A1 (n-k) (0:Int)).getD k 0=q at x;have i:=b.setCell k (Z .i64 v);rw [gH,xG n k v j] at i;have h:=ae i;have y:=ae f;clear b a i f
   go_wp2
   go_roundw
   case rel=>
    refine ⟨k+1,by omega,by go_num,h.out.to ?_,o.setCell _ _⟩;have e:(A1 (k+1) v++A1 (n-(k+1)) (0:Int)).length=n:=by simp;omega
    unfold BX;rw [e];ac_rfl
   case measure=>simp [intOf];omega
  .obtain rfl:k=n:=by omega
   rw [L2,J2,List.append_nil] at a;have h:=ae a;clear b a f j
   go_wp2
   go_ret
   exact ⟨r,rfl,h.out.fp fun _ p=>⟨g,p⟩,o⟩
end Go.Proofs.Nn
namespace Go.Proofs.Nn
open RowKit SL
attribute [local go_sem] Oper.semAt_some
def j8 (b a d r:Nat) (m first:Nat):ai:=
 pt b (Y #[Z .i64 (m:Int)] 3 (0,0))*(pt a (Y #[U (W ⟨r,0,X⟩)] 180 (0,0))*pt d (Y #[Z .i64 (first:Int)] 3 (0,0)))
def T3 (r:Nat) (l:List Int) (m first:Nat) (F:ai) (w:R) (e:Ending) (f:R):Prop:=
 ∃ b a d,e = O (.func (.func 247) #[] #[U (W ⟨b,0,X⟩),U (W ⟨a,0,X⟩),U (W ⟨d,0,X⟩)])/\ag f (j8 b a d r m first*(bX r l*F))/\aj w f
theorem Lg (w:R) (r:Nat) (l:List Int) (a:Int) (m:Nat) (F:ai) (h:ag w (bX r l*F)) (x:0<l.length) (I:l.length<=1048576) (hm:m<=l.length) :
  Calls S 228 #[U (W ⟨r,0,X⟩),Z .i64 a,Z .i64 m] w (T3 r l m (a%(l.length:Int)).toNat F w):=by
 obtain ⟨k,s,d0⟩:=ov a x;have f:=(h.alloc (Y #[U (W ⟨r,0,X⟩)] 180 (0,0))).alloc (Y #[Z .i64 m] 3 (0,0));have z:=((aj.refl w).alloc (Y #[U (W ⟨r,0,X⟩)] 180 (0,0))).alloc (Y #[Z .i64 m] 3 (0,0));rw [D1] at f;rw [s,B1];have g0:0<=(m:Int):=by omega
 have h0:(m:Int)<=(l.length:Int):=by omega
 go_enter func228,ntmps228
 go_wp2_with fail
 generalize (w.alloc (Y #[U (W ⟨r,0,X⟩)] 180 (0,0))).alloc (Y #[Z .i64 m] 3 (0,0))=d at f z ⊢;generalize w.heap.size+1=i at f ⊢;generalize w.heap.size=j at f ⊢;have J:ag d (bX r l*(pt j (Y #[U (W ⟨r,0,X⟩)] 180 (0,0))*(pt i (Y #[Z .i64 m] 3 (0,0))*F))):=f.to (by ac_rfl);have H:d.cell? ⟨i,0,X⟩=W (Z .i64 m):=f.cell 0;have L:d.frozen? ⟨i,0,X⟩=Q:=f.frozen 0;have G:d.cell? ⟨j,0,X⟩=W (U (W ⟨r,0,X⟩)):=f.ah.cell 0;have f0:i<d.heap.size:=f.lt;have e0:j<d.heap.size:=f.ah.lt;obtain ⟨g,o⟩:∃ E,E=pt i (Y #[Z .i64 m] 3 (0,0))*(pt j (Y #[U (W ⟨r,0,X⟩)] 180 (0,0))*(bX r l*F)):=⟨_,rfl⟩
 have P:∀ b,ag b g->b.cell? ⟨i,0,X⟩=W (Z .i64 m):=fun b h=>(o▸h).cell 0;have M:∀ b,ag b g->b.cell? ⟨j,0,X⟩=W (U (W ⟨r,0,X⟩)):=fun b h=>(o▸h).ah.cell 0;have y:ag d.drew g:=o▸f;have b0:ag (d.drew.alloc (Y #[Z .i64 0] 3 (0,0))) g:=(y.alloc _).right;have c0:ag (d.drew.alloc (Y #[Z .i64 k] 3 (0,0))) g:=(y.alloc _).right
 have p:ag ((d.setCell ⟨i,0,X⟩ (Z .i64 m)).alloc (Y #[Z .i64 k] 3 (0,0))).drew (pt d.heap.size (Y #[Z .i64 k] 3 (0,0))*g):=by
  have h:=(f.setCell 0 (Z .i64 m)).alloc (Y #[Z .i64 k] 3 (0,0));rw [show (d.setCell ⟨i,0,X⟩ (Z .i64 m)).heap.size=d.heap.size by simp [World.setCell]] at h;rw [o];exact h.to (by simp only [M1,N1])
 have q:∀ b,ag b g->ag b (bX r l*(pt j (Y #[U (W ⟨r,0,X⟩)] 180 (0,0))*(pt i (Y #[Z .i64 m] 3 (0,0))*F))):=fun b h=>(o▸h).to (by ac_rfl)
 have Hp:Hid (∀ b,ag b g->Calls S 183 #[U (W ⟨r,0,X⟩),Z .i64 a] b (mE k b)):=fun b h=>by
  have:=dN b r l a _ (q b h) x I
  rwa [s] at this
 have D:Hid (∀ b,ag b g->Calls S 178 #[U (W ⟨r,0,X⟩)] b (mE l.length b)):=fun b h=>sM b r l _ (q b h);have A:(if l.length<m then (l.length:Int) else (m:Int))=(m:Int):=if_neg (by omega)
 have B:(if (l.length:Int)<(if (m:Int)<0 then 0 else (m:Int)) then (l.length:Int) else if (m:Int)<0 then 0 else (m:Int))=(m:Int):=by
  rw [if_neg (by omega:¬ (m:Int)<0),if_neg (by omega)]
 have t:=ae A;have u:=ae B;have C:=ae o;clear h s J f o H G q A B
 go_region_held3 (fun b=>ag b g) (first|assumption|(rw [t.out];exact p.right)|(rw [u.out];exact p.right)|exact p.right) (first
  | (go_at_call 183;(with_reducible refine (Hp.out _ (by assumption)).mono ?_);rintro e K ⟨rfl,rfl⟩)
  | (go_at_call 178;(with_reducible refine (D.out _ (by assumption)).mono ?_);rintro e K ⟨rfl,rfl⟩))
 all_goals
  first|rw [t.out]|rw [u.out]
  go_wp2
  go_ret
  refine ⟨i,j,d.heap.size,rfl,?_,((z.setCell _ _).alloc _).drew⟩;exact p.to (by rw [C.out];unfold j8;ac_rfl)
def places (n first m:Nat):List Nat:=(List.range m).map fun i=>(first+i)%n
theorem oV (n first m:Nat):(places n first m).length=m:=by simp [places]
theorem Ag (n first m k:Nat) (h:k<m):(places n first m).take k++[(first+k)%n]=(places n first m).take (k+1):=by
 rw [U2 (by rw [oV];exact h)];simp [places]
def Bg (l:List Int) (p:Nat) (a:Array N):ai:=fact (a=#[Z .i64 (p:Int),Z .i64 (l.getD p 0)])
def NK (A:List Nat->ai) (n first m:Nat) (a:ai) (w0:R) (i:N) (wr:R):Prop:=
 ∃ k:Nat,k<=m/\i = Z .i64 (k:Int)/\aj w0 wr/\ag wr (A ((places n first m).take k)*a)
theorem Gm (n:Nat) (d b f r:Nat) (l:List Int) (m first:Nat) (B:0<l.length) (M:l.length<=1048576) (hm:m<=l.length) (hf:first<l.length) :
  oF (Ch (bX r l)) Fence.wide n S 247 #[U (W ⟨d,0,X⟩),U (W ⟨b,0,X⟩),U (W ⟨f,0,X⟩)] (j8 d b f r m first) (Bg l)
   (fun o=>o=places l.length first m) (fun o=>o <+: places l.length first m):=by
 rintro lp _ Ax G w0 w ⟨A,rfl⟩ hY hs u;have a:ag w (pt d (Y #[Z .i64 (m:Int)] 3 (0,0))*(pt b (Y #[U (W ⟨r,0,X⟩)] 180 (0,0))*(pt f (Y #[Z .i64 (first:Int)] 3 (0,0))*(bX r l*(A []*G))))):=u.to (by unfold j8;dsimp only;ac_rfl);have K:=a.cell 0;have e0:(m:Int)<=1048576:=by omega
 have c0:(l.length:Int)<=1048576:=by omega
 clear a;refine callsIn_of_wp func247 rfl trivial ?_ rfl;simp only [ntmps247,O1,R1,L1,T1,U1,V1,W1,X1,Y1,K1,Z1]
 gi_wp2
 gi_loopw [8] (fun i wr=>NK (fun o=>bX r l*A o) l.length first m (j8 d b f r m first*G) w0 i wr) (fun i _=>m-(intOf i).toNat)
 case atStart=>exact ⟨0,T2 _,rfl,hs,u⟩
 case round=>
  clear u K;obtain ⟨k,hk,rfl,H,j⟩:=hrel;replace j:ag wr ((bX r l*A ((places l.length first m).take k))*(j8 d b f r m first*G)):=j;have a:ag wr (pt d (Y #[Z .i64 (m:Int)] 3 (0,0))*(pt b (Y #[U (W ⟨r,0,X⟩)] 180 (0,0))*(pt f (Y #[Z .i64 (first:Int)] 3 (0,0))*(bX r l*(A ((places l.length first m).take k)*G))))):=j.to (by unfold j8;ac_rfl)
  by_cases b0:k<m
  .have d0:(k:Int)<(m:Int):=by omega
   have c3:=a.ah.cell 0;have c7:=a.aw.cell 0;have s:=zG wr r l (first:Int) (k:Int) _ a.aD B M;have E:((first:Int)+(k:Int))%(l.length:Int)=(((first+k)%l.length:Nat):Int):=by simp
   rw [E] at s;have F:(first+k)%l.length<l.length:=Nat.mod_lt _ B;have q:=Ag l.length first m k b0
   have t:(places l.length first m).take k++[(first+k)%l.length] <+: places l.length first m:=by rw [q];exact List.take_prefix _ _
   generalize (first+k)%l.length=p at s F q t;have f0:(p:Int)<(l.length:Int):=by omega
   obtain ⟨g,x⟩:=a.aD.ni;have cr:=x.cell 0;have L:wr.cell? ⟨g,p,X⟩=W (Z .i64 (l.getD p 0)):=(x.ah.cell p).trans (bG F)
   have C:ag wr ((bX r l*A ((places l.length first m).take k))*(Bg l p #[Z .i64 (p:Int),Z .i64 (l.getD p 0)]*(j8 d b f r m first*G))):=
    (ag.au.2 ⟨rfl,j⟩:ag wr (fact _*_)).to (by unfold Bg;ac_rfl)
   obtain ⟨fn,g0,assign,body,hy,P⟩:=hY _ p #[Z .i64 (p:Int),Z .i64 (l.getD p 0)] _ wr t H C;have I:=ae q;have J:=ae t;clear C j a q t x E;generalize l.getD p 0=v at L hy
   gi_wp2_with fail
   refine lz s ?_;rintro e w1 ⟨rfl,rfl⟩;clear s
   gi_wp2
   refine ⟨fun h=>(by cases h),P.mono ?_⟩;rintro e W' (⟨rfl,y,z⟩|⟨rfl,y,z⟩)
   .gi_wp2
    go_roundw
    case rel=>exact ⟨k+1,by omega,by go_num,y,by rw [<- I.out];exact z⟩
    case measure=>simp [intOf];omega
   .gi_wp2
    refine bodyPost_ret (results_none rfl _ _ _) rfl ?_;exact ⟨⟨_,rfl⟩,y,.inr ⟨_,J.out,z⟩⟩
  .obtain rfl:k=m:=by omega
   have D:(places l.length first k).take k=places l.length first k:=by
    have:=oV l.length first k
    exact V2 (by omega)
   rw [D] at j;clear a D
   gi_wp2
   go_end0
   exact ⟨⟨_,rfl⟩,H,.inl ⟨_,rfl,j⟩⟩
end Go.Proofs.Nn
namespace Go.SL
open RowKit
variable {w:R} {F:ai}
structure Tb where
 ps:List Int
 os:List Int
 c:Int
structure Tb.Ok (T:Tb):Prop where
 n:T.ps.length<=1048576
 m:T.os.length<=1048576
 ps:∀ v ∈ T.ps,v=-1\/(0<=v/\v<T.os.length)
def told (l:List Int) (i:Int):Option Int:=if 0<=i/\i<l.length/\l.getD i.toNat 0 ≠ -1 then W (l.getD i.toNat 0) else X
def qu (o:Option Int):N:=Y' #[Z .i64 (o.getD 0),.bool o.isSome]
def Tb.fresh (b p:Nat):Tb:=⟨A1 b (-1),A1 p (-1),0⟩
def Tb.drop (T:Tb) (id:Int):Bool × Tb:=match told T.ps id with
 | some p=>(Z',⟨T.ps.set id.toNat (-1),T.os.set p.toNat (-1),cD (T.c-1)⟩)
 | none=>(Q,T)
def Tb.put (T:Tb) (a place:Int):Bool × Tb:=
 if 0<=a/\a<T.ps.length/\0<=place/\place<T.os.length/\(T.os.getD place.toNat 0=-1\/T.os.getD place.toNat 0=a) then
  (Z',⟨(T.drop a).2.ps.set a.toNat place,(T.drop a).2.os.set place.toNat a,cD ((T.drop a).2.c+1)⟩)
 else (Q,T)
structure Tx where
 g1:Nat
 g2:Nat
def CM (x:Tx) (t:Nat) (T:Tb):ai:=
 pt t (Y #[V (W ⟨x.g1,0,X⟩) T.ps.length T.ps.length,V (W ⟨x.g2,0,X⟩) T.os.length T.os.length,Z .i64 T.c] 248 (0,0))*(pt x.g1 (Y (ints T.ps) 3 (0,0))*pt x.g2 (Y (ints T.os) 3 (0,0)))
def bO (t:Nat) (T:Tb):ai:=ex fun x=>CM x t T
theorem ag.qU {t:Nat} {T:Tb} (h:ag w (bO t T*F)):∃ x:Tx,ag w (pt t (Y #[V (W ⟨x.g1,0,X⟩) T.ps.length T.ps.length,V (W ⟨x.g2,0,X⟩) T.os.length T.os.length,Z .i64 T.c] 248 (0,0))*(pt x.g1 (Y (ints T.ps) 3 (0,0))*(pt x.g2 (Y (ints T.os) 3 (0,0))*F))):=by
 obtain ⟨x,h⟩:=ag.ax.1 h;exact ⟨x,h.to (by unfold CM;ac_rfl)⟩
theorem ag.yT {t:Nat} {T:Tb} (x:Tx) (h:ag w (pt t (Y #[V (W ⟨x.g1,0,X⟩) T.ps.length T.ps.length,V (W ⟨x.g2,0,X⟩) T.os.length T.os.length,Z .i64 T.c] 248 (0,0))*(pt x.g1 (Y (ints T.ps) 3 (0,0))*(pt x.g2 (Y (ints T.os) 3 (0,0))*F)))):ag w (bO t T*F):=
 ag.ax.2 ⟨x,h.to (by unfold CM;ac_rfl)⟩
end Go.SL
namespace Go.Proofs.Nn
open RowKit SL
theorem gP (w:R) (a:Option Addr) (n c:Nat) (i:Int):Calls S 181 #[V a n c,Z .i64 i] w (uE (decide (0<=i/\i<(n:Int))) w):=by
 by_cases d:0<=i
 .by_cases b:i<(n:Int)
  .rw [show decide (0<=i/\i<(n:Int))=Z' by simp [d,b]]
   go_enter func181,ntmps181
   go_wp2
   go_ret
   exact ⟨rfl,rfl⟩
  .rw [show decide (0<=i/\i<(n:Int))=Q by simp [b]]
   have e:decide (i<(n:Int))=Q:=by simpa using b
   go_enter func181,ntmps181
   go_wp2
   go_ret
   exact ⟨rfl,rfl⟩
 .rw [show decide (0<=i/\i<(n:Int))=Q by simp [d]]
  go_enter func181,ntmps181
  go_wp2
  go_ret
  exact ⟨rfl,rfl⟩
def CY (o:Option Int) (w:R) (e:Ending) (a:R):Prop:=e = O (qu o)/\w=a
theorem AK (w:R) (g:Nat) (l:List Int) (i:Int) (F:ai) (h:ag w (pt g (Y (ints l) 3 (0,0))*F)) :
  Calls S 248 #[V (W ⟨g,0,X⟩) l.length l.length,Z .i64 i] w (CY (told l i) w):=by
 have d:=gP w (W ⟨g,0,X⟩) l.length l.length i
 by_cases a:0<=i/\i<(l.length:Int)
 .rw [show decide (0<=i/\i<(l.length:Int))=Z' by simpa using a] at d
  obtain ⟨k,rfl⟩:=E1 a.1;have t:(k:Int)<(l.length:Int):=a.2;have r:k<l.length:=by omega
  have f:w.cell? ⟨g,k,X⟩=W (Z .i64 (l.getD k 0)):=(h.cell k).trans (bG r)
  by_cases b:l.getD k 0=-1
  .have e:told l (k:Int)=X:=by unfold told;rw [if_neg];rintro ⟨_,_,q⟩;exact q (by rw [B1];exact b)
   rw [e];rw [b] at f;clear e a h b
   go_enter func248,ntmps248
   go_wp2_with (go_at_call 181;(with_reducible refine d.mono ?_);rintro e j ⟨rfl,rfl⟩)
   go_ret2
   exact ⟨rfl,rfl⟩
  .have e:told l (k:Int)=W (l.getD k 0):=by unfold told;rw [if_pos ⟨a.1,a.2,by rw [B1];exact b⟩,B1]
   have s:(l.getD k 0 == -1)=Q:=by simpa using b
   rw [e];clear e a h b;generalize l.getD k 0=v at f s
   go_enter func248,ntmps248
   go_wp2_with (go_at_call 181;(with_reducible refine d.mono ?_);rintro e j ⟨rfl,rfl⟩)
   go_ret2
   exact ⟨rfl,rfl⟩
 .rw [show decide (0<=i/\i<(l.length:Int))=Q by simpa using a] at d
  have e:told l i=X:=by unfold told;rw [if_neg];rintro ⟨o,p,_⟩;exact a ⟨o,p⟩
  rw [e];clear e a h
  go_enter func248,ntmps248
  go_wp2_with (go_at_call 181;(with_reducible refine d.mono ?_);rintro e j ⟨rfl,rfl⟩)
  go_ret2
  exact ⟨rfl,rfl⟩
theorem Md (w:R) (t:Nat) (T:Tb) (a:Int) (F:ai) (h:ag w (bO t T*F)) :
  Calls S 234 #[U (W ⟨t,0,X⟩),Z .i64 a] w (CY (told T.ps a) w):=by
 obtain ⟨x,b⟩:=h.qU;have d:=AK w x.g1 T.ps a _ b.ah;have f:w.cell? ⟨t,0,X⟩=W (V (W ⟨x.g1,0,X⟩) T.ps.length T.ps.length):=b.cell 0;generalize told T.ps a=o at d ⊢;clear h b
 go_enter func234,ntmps234
 go_wp2_with (go_at_call 248;(with_reducible refine d.mono ?_);rintro e g ⟨rfl,rfl⟩;unfold qu)
 go_ret2
 exact ⟨rfl,rfl⟩
theorem GU (w:R) (t:Nat) (T:Tb) (a:Int) (F:ai) (h:ag w (bO t T*F)) :
  Calls S 229 #[U (W ⟨t,0,X⟩),Z .i64 a] w (CY (told T.os a) w):=by
 obtain ⟨x,b⟩:=h.qU;have d:=AK w x.g2 T.os a _ b.aw;have f:w.cell? ⟨t,1,X⟩=W (V (W ⟨x.g2,0,X⟩) T.os.length T.os.length):=b.cell 1;generalize told T.os a=o at d ⊢;clear h b
 go_enter func229,ntmps229
 go_wp2_with (go_at_call 248;(with_reducible refine d.mono ?_);rintro e g ⟨rfl,rfl⟩;unfold qu)
 go_ret2
 exact ⟨rfl,rfl⟩
theorem sI {l:List Int} {i p:Int} (h:told l i=W p):∃ k:Nat,i=(k:Int)/\k<l.length/\l.getD k 0=p/\p ≠ -1:=by
 unfold told at h
 split at h
 .rename_i d
  obtain ⟨b,e,a⟩:=d;obtain ⟨k,rfl⟩:=E1 b;rw [B1] at h a;have h:=Option.some.inj h;exact ⟨k,rfl,by omega,h,by rw [<- h];exact a⟩
 .cases h
theorem La {T:Tb} (h:T.Ok) {i p:Int} (l:told T.ps i=W p):∃ j:Nat,p=(j:Int)/\j<T.os.length:=by
 obtain ⟨k,rfl,a,g,f⟩:=sI l;have d:p ∈ T.ps:=by rw [<- g,List.getD,List.getElem?_eq_getElem a];exact E2 a
 rcases h.ps p d with e|⟨b,o⟩
 .exact absurd e f
 .obtain ⟨j,rfl⟩:=E1 b
  exact ⟨j,rfl,by omega⟩
def Sq (t:Nat) (b:Bool) (T:Tb) (F:ai) (w:R) (e:Ending) (a:R):Prop:=e = O (.bool b)/\ag a (bO t T*F)/\aj w a
theorem KO (w:R) (t:Nat) (T:Tb) (g:Int) (F:ai) (h:ag w (bO t T*F)) (l:T.Ok) :
  Calls S 182 #[U (W ⟨t,0,X⟩),Z .i64 g] w (Sq t (T.drop g).1 (T.drop g).2 F w):=by
 have i:=Md w t T g F h;unfold Tb.drop
 match d:told T.ps g with
 | none=>
  rw [d] at i;clear d
  go_enter func182,ntmps182
  go_wp2_with (go_at_call 234;(with_reducible refine i.mono ?_);rintro e G ⟨rfl,rfl⟩;unfold qu)
  go_ret
  exact ⟨rfl,h,aj.refl w⟩
 | some p=>
  rw [d] at i;obtain ⟨k,rfl,C,_,_⟩:=sI d;obtain ⟨j,rfl,B⟩:=La l d;obtain ⟨x,f⟩:=h.qU;have M:(k:Int)<(T.ps.length:Int):=by omega
  have L:(j:Int)<(T.os.length:Int):=by omega
  have r:w.cell? ⟨t,0,X⟩=W (V (W ⟨x.g1,0,X⟩) T.ps.length T.ps.length):=f.cell 0;have y:w.cell? ⟨t,1,X⟩=W (V (W ⟨x.g2,0,X⟩) T.os.length T.os.length):=f.cell 1;have D:w.cell? ⟨x.g1,k,X⟩=W (Z .i64 (T.ps.getD k 0)):=(f.ah.cell k).trans (bG C);have I:=f.ah.frozen k;have b:=(f.ah.setCell k (Z .i64 (-1)))
  have s:=b.ah.cell 0;have z:=b.ah.cell 1;have E:(w.setCell ⟨x.g1,k,X⟩ (Z .i64 (-1))).cell? ⟨x.g2,j,X⟩=W (Z .i64 (T.os.getD j 0)):=(b.aw.cell j).trans (bG B);have J:=b.aw.frozen j;have a:=b.aw.setCell j (Z .i64 (-1));have u:=a.aw.cell 0;have A:=a.aw.cell 1;have H:((w.setCell ⟨x.g1,k,X⟩ (Z .i64 (-1))).setCell ⟨x.g2,j,X⟩ (Z .i64 (-1))).cell? ⟨t,2,X⟩=W (Z .i64 T.c):=a.aw.cell 2;have K:=a.aw.frozen 2;rw [gH] at a b;rw [gH] at a;have q:=ae (a.aw.setCell 2 (Z .i64 (cD (T.c-1))));simp only [B1];generalize T.ps.getD k 0=vk at D;generalize T.os.getD j 0=P at E;clear d h f b a l
  go_enter func182,ntmps182
  go_wp2_with (go_at_call 234;(with_reducible refine i.mono ?_);rintro e G ⟨rfl,rfl⟩;unfold qu)
  go_region_held3 (fun o=>o.cell? ⟨t,0,X⟩=W (V (W ⟨x.g1,0,X⟩) T.ps.length T.ps.length)/\o.cell? ⟨t,1,X⟩=W (V (W ⟨x.g2,0,X⟩) T.os.length T.os.length)) (first|assumption|exact ⟨r,y⟩|exact ⟨s,z⟩|exact ⟨u,A⟩) (fail)
  go_wp2
  go_ret
  refine ⟨rfl,ag.yT x ?_,((((aj.refl w).setCell _ _).setCell _ _).drew).setCell _ _⟩;simp only [R2];exact (q.out.drew).to (by simp only [M1,N1,List.set_cons_succ];ac_rfl)
theorem yA (T:Tb) (a:Int):(T.drop a).2.ps.length=T.ps.length/\(T.drop a).2.os.length=T.os.length:=by
 unfold Tb.drop
 split <;> simp
theorem eZ (w:R) (t:Nat) (T:Tb) (a place:Int) (F:ai) (h:ag w (bO t T*F)) (A:T.Ok) :
  Calls S 136 #[U (W ⟨t,0,X⟩),Z .i64 a,Z .i64 place] w (Sq t (T.put a place).1 (T.put a place).2 F w):=by
 obtain ⟨x,r⟩:=h.qU;have M:w.cell? ⟨t,0,X⟩=W (V (W ⟨x.g1,0,X⟩) T.ps.length T.ps.length):=r.cell 0;have P:w.cell? ⟨t,1,X⟩=W (V (W ⟨x.g2,0,X⟩) T.os.length T.os.length):=r.cell 1;have i:=gP w (W ⟨x.g1,0,X⟩) T.ps.length T.ps.length a;have l:=gP w (W ⟨x.g2,0,X⟩) T.os.length T.os.length place
 by_cases d:0<=a/\a<(T.ps.length:Int)
 .rw [show decide (0<=a/\a<(T.ps.length:Int))=Z' by simpa using d] at i
  by_cases f:0<=place/\place<(T.os.length:Int)
  .rw [show decide (0<=place/\place<(T.os.length:Int))=Z' by simpa using f] at l
   obtain ⟨k,rfl⟩:=E1 d.1;obtain ⟨j,rfl⟩:=E1 f.1;have hk:k<T.ps.length:=by omega
   have hj:j<T.os.length:=by omega
   have l0:(k:Int)<(T.ps.length:Int):=by omega
   have k0:(j:Int)<(T.os.length:Int):=by omega
   have L:w.cell? ⟨x.g2,j,X⟩=W (Z .i64 (T.os.getD j 0)):=(r.aw.cell j).trans (bG hj)
   by_cases b:T.os.getD j 0=-1\/T.os.getD j 0=(k:Int)
   .have e:T.put (k:Int) (j:Int)=(Z',⟨(T.drop (k:Int)).2.ps.set k (j:Int),(T.drop (k:Int)).2.os.set j (k:Int),cD ((T.drop (k:Int)).2.c+1)⟩):=by
     unfold Tb.put;rw [if_pos ⟨d.1,d.2,f.1,f.2,by simpa using b⟩];simp
    have C:=KO w t T k F h A;obtain ⟨J,K⟩:=yA T k;rw [e];generalize hD:(T.drop (k:Int)).2=D at C J K ⊢;generalize (T.drop (k:Int)).1=db at C
    have p:((T.os.getD j 0 != -1)=Q)\/((T.os.getD j 0 != -1)=Z'/\(T.os.getD j 0 != (k:Int))=Q):=by
     rcases b with b|b
     .left;rw [b];rfl
     .by_cases hq:T.os.getD j 0=-1
      .left;rw [hq];rfl
      .right;exact ⟨by simpa using hq,by rw [b];simp⟩
    clear e b d f h r A hD;generalize T.os.getD j 0=v at L p;have E:=ae J;have G:=ae K;clear J K;rcases p with p|⟨p,b0⟩
    all_goals
     go_enter func136,ntmps136
     go_wp2_with (first
      | (go_at_call_of 181 (K2 .i64 (k:Int));(with_reducible refine i.mono ?_);rintro e z ⟨rfl,rfl⟩)
      | (go_at_call_of 181 (K2 .i64 (j:Int));(with_reducible refine l.mono ?_);rintro e z ⟨rfl,rfl⟩))
     (with_reducible refine C.mono ?_)
     rintro e B ⟨rfl,u,d3⟩;obtain ⟨y,s⟩:=u.qU;rw [E.out,G.out] at s;have h0:k<D.ps.length:=by rw [E.out];exact hk
     have g0:j<D.os.length:=by rw [G.out];exact hj
     have M:B.cell? ⟨t,0,X⟩=W (V (W ⟨y.g1,0,X⟩) T.ps.length T.ps.length):=s.cell 0;have P:B.cell? ⟨t,1,X⟩=W (V (W ⟨y.g2,0,X⟩) T.os.length T.os.length):=s.cell 1;have s1:B.cell? ⟨y.g1,k,X⟩=W (Z .i64 (D.ps.getD k 0)):=(s.ah.cell k).trans (bG h0);have f1:=s.ah.frozen k;have o:=(s.ah.setCell k (Z .i64 (j:Int)))
     have c0:=o.ah.cell 0;have e0:=o.ah.cell 1;have s2:(B.setCell ⟨y.g1,k,X⟩ (Z .i64 (j:Int))).cell? ⟨y.g2,j,X⟩=W (Z .i64 (D.os.getD j 0)):=(o.aw.cell j).trans (bG g0);have f2:=o.aw.frozen j;have g:=o.aw.setCell j (Z .i64 (k:Int));have d0:=g.aw.cell 0;have f0:=g.aw.cell 1;have i0:((B.setCell ⟨y.g1,k,X⟩ (Z .i64 (j:Int))).setCell ⟨y.g2,j,X⟩ (Z .i64 (k:Int))).cell? ⟨t,2,X⟩=W (Z .i64 D.c):=g.aw.cell 2;have j0:=g.aw.frozen 2;rw [gH] at g o;rw [gH] at g;have H4:=ae (g.aw.setCell 2 (Z .i64 (cD (D.c+1))));generalize D.ps.getD k 0=vk at s1;generalize D.os.getD j 0=vj at s2;clear C i l L u s o g p
     go_wp2
     go_region_held3 (fun w'=>w'.cell? ⟨t,0,X⟩=W (V (W ⟨y.g1,0,X⟩) T.ps.length T.ps.length)/\w'.cell? ⟨t,1,X⟩=W (V (W ⟨y.g2,0,X⟩) T.os.length T.os.length)) (first|assumption|exact ⟨M,P⟩|exact ⟨c0,e0⟩|exact ⟨d0,f0⟩) (fail)
     go_wp2
     go_ret
     refine ⟨rfl,ag.yT y ?_,(((d3.setCell _ _).setCell _ _).drew).setCell _ _⟩;simp only [R2,E.out,G.out];exact (H4.out.drew).to (by simp only [M1,N1,List.set_cons_succ];ac_rfl)
   .have e:T.put (k:Int) (j:Int)=(Q,T):=by
     unfold Tb.put;rw [if_neg];rintro ⟨_,_,_,_,h5⟩;exact b (by simpa using h5)
    rw [e];have p:(T.os.getD j 0 != -1)=Z':=by simp only [bne_iff_ne,ne_eq];exact fun q=>b (.inl q)
    have b0:(T.os.getD j 0 != (k:Int))=Z':=by simp only [bne_iff_ne,ne_eq];exact fun q=>b (.inr q)
    have H:=ae h;clear e b d f h r A;generalize T.os.getD j 0=v at L p b0
    go_enter func136,ntmps136
    go_wp2_with (first
     | (go_at_call_of 181 (K2 .i64 (k:Int));(with_reducible refine i.mono ?_);rintro e z ⟨rfl,rfl⟩)
     | (go_at_call_of 181 (K2 .i64 (j:Int));(with_reducible refine l.mono ?_);rintro e z ⟨rfl,rfl⟩))
    go_ret
    exact ⟨rfl,H.out,aj.refl w⟩
  .rw [show decide (0<=place/\place<(T.os.length:Int))=Q by simpa using f] at l
   have e:T.put a place=(Q,T):=by
    unfold Tb.put;rw [if_neg];rintro ⟨_,_,u,I,_⟩;exact f ⟨u,I⟩
   rw [e];have H:=ae h;clear e d f h r A
   go_enter func136,ntmps136
   go_wp2_with fail
   refine i.mono ?_;rintro e z ⟨rfl,rfl⟩;clear i
   go_wp2_with fail
   refine l.mono ?_;rintro e z ⟨rfl,rfl⟩;clear l
   go_wp2
   go_ret
   exact ⟨rfl,H.out,aj.refl w⟩
 .rw [show decide (0<=a/\a<(T.ps.length:Int))=Q by simpa using d] at i
  have e:T.put a place=(Q,T):=by
   unfold Tb.put;rw [if_neg];rintro ⟨u,I,_⟩;exact d ⟨u,I⟩
  rw [e];have H:=ae h;clear e d h r A l
  go_enter func136,ntmps136
  go_wp2_with (go_at_call 181;(with_reducible refine i.mono ?_);rintro e z ⟨rfl,rfl⟩)
  go_ret
  exact ⟨rfl,H.out,aj.refl w⟩
end Go.Proofs.Nn
namespace Go.Proofs.Nn
open RowKit SL
attribute [local go_sem] Oper.semAt_some
def RM (n:Nat) (w:R) (e:Ending) (a:R):Prop:=∃ g,e = O (V (W ⟨g,0,X⟩) n n)/\ag a (pt g (Y (ints (A1 n (-1))) 3 (0,0))*whole w)/\aj w a
def Lj (g:Nat) (n:Nat) (w:R) (u:N) (wr:R):Prop:=
 ∃ k:Nat,k<=n/\u = Z .i64 k/\ag wr (pt g (Y (ints (A1 k (-1)++A1 (n-k) 0)) 3 (0,0))*whole w)/\aj w wr
theorem yi (n:Nat) (w:R) (l:n<=1048576):Calls S 246 #[Z .i64 n] w (RM n w):=by
 have x:(0:Int)<=(n:Int):=by omega
 have y:(n:Int)<=1048576:=by omega
 have o:=rJ n l w;have b:=((ag.whole w).alloc (Y (ints (A1 n 0)) 3 (0,0)))
 have i:=((aj.refl w).alloc (Y (ints (A1 n 0)) 3 (0,0)))
 go_enter func246,ntmps246
 go_wp2
 generalize w.alloc (Y (ints (A1 n 0)) 3 (0,0))=z at b i ⊢;generalize w.heap.size=g at b ⊢;clear o
 go_loopw [11] (fun u wr=>Lj g n w u wr) (fun u _=>n-(intOf u).toNat)
 case atStart=>exact ⟨0,T2 _,rfl,b.to (by simp only [J2,K1,N2]),i⟩
 case round=>
  obtain ⟨k,s,rfl,a,j⟩:=hrel;clear b i;have f:(A1 k (-1)++A1 (n-k) (0:Int)).length=n:=by simp;omega
  by_cases h:k<n
  .have t:(k:Int)<(n:Int):=by omega
   have p:wr.cell? ⟨g,k,X⟩=W (Z .i64 ((A1 k (-1)++A1 (n-k) (0:Int)).getD k 0)):=(a.cell k).trans (bG (by rw [f];exact h));have r:=a.frozen k;generalize (A1 k (-1)++A1 (n-k) (0:Int)).getD k 0=q at p;have e:=a.setCell k (Z .i64 (-1));rw [gH,xG n k (-1) h] at e;have d:=ae e;clear a e f
   go_wp2
   go_roundw
   case rel=>exact ⟨k+1,by omega,by go_num,d.out,j.setCell _ _⟩
   case measure=>simp [intOf];omega
  .obtain rfl:k=n:=by omega
   rw [L2,J2,List.append_nil] at a;have d:=ae a;clear a f h
   go_wp2
   go_ret
   exact ⟨g,rfl,d.out,j⟩
def Oe (b p:Nat) (w:R) (e:Ending) (a:R):Prop:=∃ t,e = O (U (W ⟨t,0,X⟩))/\ag a (bO t (Tb.fresh b p)*whole w)/\aj w a
theorem CS (b p:Nat) (w:R) (i:b<=1048576) (j:p<=1048576):Calls S 225 #[Z .i64 b,Z .i64 p] w (Oe b p w):=by
 go_enter func225,ntmps225
 go_wp2_with fail
 refine (yi b w i).mono ?_;rintro e k ⟨g1,rfl,f,a⟩
 go_wp2_with fail
 refine (yi p k j).mono ?_;rintro e l ⟨g2,rfl,g,d⟩;have h:=(g.under f).alloc (Y #[V (W ⟨g1,0,X⟩) b b,V (W ⟨g2,0,X⟩) p p,Z .i64 0] 248 (0,0))
 go_wp2
 go_ret
 refine ⟨_,rfl,ag.yT ⟨g1,g2⟩ ?_,(a.trans d).alloc _⟩;exact h.to (by simp only [Tb.fresh,P2];ac_rfl)
def Au (x:Int × Int) (a:Array N):ai:=fact (a=#[Z .i64 x.1,Z .i64 x.2])
end Go.Proofs.Nn

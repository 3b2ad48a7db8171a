/- Steps. -/
import Derived.Test.YtiomanbgcfjblaaGreatDoorLP11
import Derived.Lib.AppendZeros
set_option linter.all false
set_option maxRecDepth 99999
set_option maxHeartbeats 0
open Go.SL
open Go.Value renaming int->V,slice->X
open Go.IntKind renaming i64->R
open Go.Obj renaming cells->Y
open Go renaming World->O,Value->M
open Go.Proofs.Tryz renaming prog->N
open Option renaming some->U,none->W
open Bool renaming false->Y'
open Go.SL renaming Om0->Q
open Go.Proofs.Tryz
open Prod renaming fst->B3
open List renaming getD->D6,length_append->D3,getElem?_eq_getElem->E5,map_append->E4,length_nil->E3,length_map->G3,getElem_mem->J7,nodup_append->J3,length_cons->K9,take_length->K6,setIfInBounds_toArray->K5,set_cons_zero->K4,map_map->L6,foldl_cons->L5,mem_cons_of_mem->L4,mem_cons_self->L3,append_assoc->S9,getElem?_set->S8,mem_append->S5,length_replicate->T4,getElem?_replicate->U6,length_filter_le->W6
open Int renaming toNat_natCast->H3,emod_nonneg->J4,toNat_of_nonneg->K8,eq_ofNat_of_zero_le->K7,emod_eq_of_lt->S7,emod_lt_of_pos->S6,natCast_add->S4,emod_add_mul_ediv->W4,sub_mul_emod_self_left->X9
open Nat renaming le_refl->J5,zero_add->L8,add_assoc->P3
open Option renaming getD_some->K3,isSome_some->T5
namespace Go.Proofs.Nn
open RowKit SL
attribute [local go_sem] Oper.semAt_some
variable {S S':Hp} {F G:ai} {w:O}
def oe:(prog.info? 179).map (fun i=>(i.zero,i.size,i.bytes))=U (U (.agg #[V R 0,X W 0 0]),2,32):=Kr0
def TY (S:Hp) (j d r t m:Nat) (own:KV) (c:Mv) (F:ai) (w:O) (e:Ending) (g:O):Prop:=
 ∃ (f:Hp) (v:M) (Z:Zs),Ext S f/\e = .returned (.tuple #[v,V R c.1.1])/\Z.map (fun z=>(z.1,z.2.2))=c.1.2/\(∀ z ∈ Z,qJ 5 f z.2.1 z.2.2) /\
  ah g (j9 j d r t c.2.1*(aD f d c.2.2*(al f*(sl 179 2 v Z.length (bK Z)*(mp m own*F)))))/\ak w g
def lD (S:Hp) (d m bl bj bo b6 b7 j:Nat) (own:KV) (J:Jr) (D:aw) (F:ai) (ys:List (Int × Int)):ai:=ex fun q:Hp × M × Zs=>
 fact (Ext S q.1/\(J.bQ D own ys).1.1=0/\q.2.2.map (fun z=>(z.1,z.2.2))=(J.bQ D own ys).1.2/\∀ z ∈ q.2.2,qJ 5 q.1 z.2.1 z.2.2) *
  (pt bl (Y #[q.2.1] 147 (0,0))*(sl 179 2 q.2.1 q.2.2.length (bK q.2.2)*(aD q.1 d (J.bQ D own ys).2.2*(al q.1 *
   (pt bj (Y #[ax j] 130 (0,0))*(pt bo (Y #[.map (U m)] 212 (0,0))*(pt b6 (Y #[X W 0 0] 147 (0,0))*(pt b7 (Y #[V R 0] 31 (0,0))*(mp m own*F)))))))))
def Eb (S:Hp) (j d r t m b6 b7:Nat) (own:KV) (J:Jr) (D:aw) (F:ai) (ys:List (Int × Int)):ai:=ex fun c:Hp=>
 fact (Ext S c/\(J.bQ D own ys).1.1≠0/\(J.bQ D own ys).1.2=[])*(j9 j d r t (J.bQ D own ys).2.1*(pt b6 (Y #[X W 0 0] 147 (0,0))*(pt b7 (Y #[V R (J.bQ D own ys).1.1] 31 (0,0))*(aD c d (J.bQ D own ys).2.2*(al c*(mp m own*F))))))
def tY {d m bl bj bo b6 b7 j:Nat} {own:KV} {J:Jr} {D:aw} {ys:List (Int × Int)} (h:ah w (lD S d m bl bj bo b6 b7 j own J D F ys*G)) :
  ∃ (S':Hp) (v:M) (Z:Zs),Ext S S'/\(J.bQ D own ys).1.1=0/\Z.map (fun z=>(z.1,z.2.2))=(J.bQ D own ys).1.2/\(∀ z ∈ Z,qJ 5 S' z.2.1 z.2.2) /\
   ah w (pt bl (Y #[v] 147 (0,0))*(sl 179 2 v Z.length (bK Z)*(aD S' d (J.bQ D own ys).2.2*(al S' *
   (pt bj (Y #[ax j] 130 (0,0))*(pt bo (Y #[.map (U m)] 212 (0,0))*(pt b6 (Y #[X W 0 0] 147 (0,0))*(pt b7 (Y #[V R 0] 31 (0,0))*(mp m own*(F*G)))))))))):=by
 obtain ⟨q,h⟩:=ah.aq.1 h;obtain ⟨⟨c,e,f,h4⟩,h5⟩:=ah.ao.1 (h.to (ar _ _ _));exact ⟨q.1,q.2.1,q.2.2,c,e,f,h4,h5.u00⟩
def oa {d m bl bj bo b6 b7 j:Nat} {own:KV} {J:Jr} {D:aw} {ys:List (Int × Int)} {v:M} {Z:Zs} (c:Ext S S') (e:(J.bQ D own ys).1.1=0)
  (f:Z.map (fun z=>(z.1,z.2.2))=(J.bQ D own ys).1.2) (h4:∀ z ∈ Z,qJ 5 S' z.2.1 z.2.2)
  (h:ah w (pt bl (Y #[v] 147 (0,0))*(sl 179 2 v Z.length (bK Z)*(aD S' d (J.bQ D own ys).2.2*(al S' *
   (pt bj (Y #[ax j] 130 (0,0))*(pt bo (Y #[.map (U m)] 212 (0,0))*(pt b6 (Y #[X W 0 0] 147 (0,0))*(pt b7 (Y #[V R 0] 31 (0,0))*(mp m own*(F*G))))))))))):ah w (lD S d m bl bj bo b6 b7 j own J D F ys*G):=
 by
 unfold lD;exact ah.aq.2 ⟨(S',v,Z),(ah.ao.2 ⟨⟨c,e,f,h4⟩,h⟩:ah w (fact (_/\_/\_/\_)*_)).u00⟩
def BZ {j d r t m b6 b7:Nat} {own:KV} {J:Jr} {D:aw} {ys:List (Int × Int)} (c:Ext S S') (e:(J.bQ D own ys).1.1≠0) (f:(J.bQ D own ys).1.2=[])
  (h:ah w (j9 j d r t (J.bQ D own ys).2.1*(pt b6 (Y #[X W 0 0] 147 (0,0))*(pt b7 (Y #[V R (J.bQ D own ys).1.1] 31 (0,0))*(aD S' d (J.bQ D own ys).2.2*(al S'*(mp m own*(F*G)))))))) :
  ah w (Eb S j d r t m b6 b7 own J D F ys*G):=
 by
 unfold Eb;exact ah.aq.2 ⟨S',(ah.ao.2 ⟨⟨c,e,f⟩,h⟩:ah w (fact (_/\_/\_)*_)).u00⟩
def pS {c:Array M} {b6 b7:Nat} {v u:M} (f:c[6]?=U (.pointer (U ⟨b6,0,W⟩))) (g:c[7]?=U (.pointer (U ⟨b7,0,W⟩))) (d:w.cell? ⟨b6,0,W⟩=U v) (e:w.cell? ⟨b7,0,W⟩=U u) :
  (results Tryz.f166 c).run N w = .ok (.tuple #[v,u]) w:=by
 simp [results,Tryz.results166,go_sem,f,g,d,e]
def FN (Z:Zs) (z:Int × M × List UInt8):bK (Z++[z])=bK Z++[V R z.1,z.2.1]:=by simp [bK]
def FU (w:O) (S:Hp) (j d r t m:Nat) (J:Jr) (D:aw) (own:KV) (n:Nat) (F:ai) (c0:ah w (j9 j d r t J*(aD S d D*(al S*(mp m own*F))))) (hJ:J.Ok) (hD:D.Ok) (hn:n<=J.P) :
  Calls N 166 #[ax j,V R (n:Int),.map (U m)] w (TY S j d r t m own (J.bQ D own (bO J.T J.P (Jr.tail J) n)) F w):=by
 obtain ⟨i0,hi,hz,G0,F0⟩:=info_parts oe;refine (callsIn_wide (n:=9)).1 ?_;refine callsIn_of_wp_marks func166 rfl trivial ?_ rfl;simp only [ntmps166,List.size_toArray,K9,E3,Nat.reduceAdd,Nat.reduceSub,Array.replicate_succ,Array.replicate_zero,List.push_toArray,List.append_toArray,List.nil_append,List.cons_append];have K:=((((c0.alloc (Y #[ax j] 130 (0,0))).alloc (Y #[.map (U m)] 212 (0,0))).alloc (Y #[X W 0 0] 147 (0,0))).alloc (Y #[V R 0] 31 (0,0))).alloc (Y #[X W 0 0] 147 (0,0));have d1:=(((((ak.refl w).alloc (Y #[ax j] 130 (0,0))).alloc (Y #[.map (U m)] 212 (0,0))).alloc (Y #[X W 0 0] 147 (0,0))).alloc (Y #[V R 0] 31 (0,0))).alloc (Y #[X W 0 0] 147 (0,0));simp only [World.size_alloc] at K
 gi_wp2_with fail
 generalize ((((w.alloc (Y #[ax j] 130 (0,0))).alloc (Y #[.map (U m)] 212 (0,0))).alloc (Y #[X W 0 0] 147 (0,0))).alloc (Y #[V R 0] 31 (0,0))).alloc (Y #[X W 0 0] 147 (0,0))=w1 at K d1 ⊢;generalize w.heap.size+1+1+1+1=u at K ⊢;generalize w.heap.size+1+1+1=g at K ⊢;generalize w.heap.size+1+1=f at K ⊢;generalize w.heap.size+1=B at K ⊢;generalize w.heap.size=bj at K ⊢;refine lq (P5 w1 j (n:Int)) ?_;rintro c1 w2 ⟨rfl,rfl⟩;have h2:=(K.alloc (Y #[ax j] 130 (0,0))).alloc (Y #[V R (n:Int)] 3 (0,0));have d2:=(d1.alloc (Y #[ax j] 130 (0,0))).alloc (Y #[V R (n:Int)] 3 (0,0));simp only [World.size_alloc] at h2
 gi_wp2_with fail
 generalize (w1.alloc (Y #[ax j] 130 (0,0))).alloc (Y #[V R (n:Int)] 3 (0,0))=w2 at h2 d2 ⊢;generalize w1.heap.size+1=cn at h2 ⊢;generalize w1.heap.size=cj at h2 ⊢;clear K d1 c0
 have hE:ah w2 ((j9 j d r t J*lD S d m u bj B f g j own J D F [])*(iq cj cn j n*emp)):=by
  have h3:=h2.dR 179 2
  have h4:ah w2 (lD S d m u bj B f g j own J D F []*(iq cj cn j n*j9 j d r t J)):=oa (S':=S) (v:=X W 0 0) (Z:=[]) (Ext.refl S) rfl rfl Si0
   (h3.to (by unfold iq;simp only [Jr.bQ,List.foldl_nil,E3,bK,List.flatMap_nil];ac_rfl))
  exact h4.to (by rw [l7];ac_rfl)
 clear h2
 refine na (w0:=w) rfl De0 (gf:=292) (lb:=#[.pointer (U ⟨cj,0,W⟩),.pointer (U ⟨cn,0,W⟩)]) rfl trivial (enters func292 Kr0 rfl)
  (Ko _ cj cn j d r t J n hJ hn)
  (fun x tt=>(((tt.setIfInBounds 18 (V R x.1)).setIfInBounds 19 (V R x.2)).setIfInBounds 9 (V R x.1)).setIfInBounds 10 (V R x.2))
  (fun G=>j9 j d r t J*lD S d m u bj B f g j own J D F G) (fun b1=>xK (BL _ _) b1)
  (fun c G=>fact (c = .ret)*Eb S j d r t m f g own J D F G)
  (fun z x=>j9 j d r t J*lD S d m u bj B f g j own J D F z) emp ?hps d2 hE ?assign ?body ?done ?stop
 case hps=>
  intro x vs E s c0;unfold CX at c0;obtain ⟨rfl,_⟩:=ah.ao.1 c0
  rfl
 case assign=>
  intro l P z x vs E s g1 _ b0 H hK;have H1:=H.aj;unfold CX at H1;obtain ⟨rfl,o⟩:=ah.ao.1 H1;clear H H1
  gi_wp2
  exact hK _ b0 o
 case done=>
  intro D2 G s hS b0 H;subst hS;obtain ⟨h,v,Z,d0,C,hZ,hV,o⟩:=tY (H.u00:ah s (lD S d m u bj B f g j own J D F (bO J.T J.P (Jr.tail J) n)*(j9 j d r t J*(iq cj cn j n*(pt D2 (.deferred (U []))*emp)))));have kl:s.cell? ⟨u,0,W⟩=U v:=o.cell 0;have k6:s.cell? ⟨f,0,W⟩=U (X W 0 0):=o.eN.cell 0;have f6:s.frozen? ⟨f,0,W⟩=Y':=o.eN.frozen 0;have I:=(o.eN.setCell 0 v).mE;have k7:(s.setCell ⟨f,0,W⟩ v).cell? ⟨g,0,W⟩=U (V R 0):=I.cell 0;have f7:(s.setCell ⟨f,0,W⟩ v).frozen? ⟨g,0,W⟩=Y':=I.frozen 0;have H4:=I.setCell 0 (V R 0);have d4:=(b0.setCell ⟨f,0,W⟩ v).setCell ⟨g,0,W⟩ (V R 0);obtain ⟨va,vc,rfl⟩:=az o.aj;have hj:=Jr.vP C;generalize J.bQ D own (bO J.T J.P (Jr.tail J) n)=l0 at *;obtain ⟨⟨rc,rl⟩,J',D'⟩:=l0;simp only at C hj hZ;subst C hj;have HH:=ae H4;clear H o I H4 hE d2;have HD:=ae d4;clear d4
  gi_wp2
  generalize (s.setCell ⟨f,0,W⟩ (X va Z.length vc)).setCell ⟨g,0,W⟩ (V R 0)=W3 at HH HD ⊢
  have H5:ah W3 (pt D2 (.deferred (U []))*(pt f (Y #[X va Z.length vc] 147 (0,0))*(pt g (Y #[V R 0] 31 (0,0))*(j9 j d r t J'*(aD h d D'*(al h*(sl 179 2 (X va Z.length vc) Z.length (bK Z)*(mp m own*F)))))))):=by
   have c0:=HH.o;simp only [K5,K4] at c0;exact (c0.t00 ((pt u (Y #[X va Z.length vc] 147 (0,0))*(pt bj (Y #[ax j] 130 (0,0))*(pt B (Y #[.map (U m)] 212 (0,0))*(iq cj cn j n*emp))))*(pt D2 (.deferred (U []))*(pt f (Y #[X va Z.length vc] 147 (0,0))*(pt g (Y #[V R 0] 31 (0,0))*(j9 j d r t J'*(aD h d D'*(al h*(sl 179 2 (X va Z.length vc) Z.length (bK Z)*(mp m own*F)))))))))).right
  have hK:=H5.heap;have H6:=(H5.putObj (.deferred W)).right;refine ⟨Si0,.inl ⟨_,_,rfl,run_takeDeferred hK,?_⟩⟩;exact ⟨_,pS rfl rfl (H6.cell 0) (H6.aj.cell 0),h,_,Z,d0,rfl,hZ,hV,H6.right.right,HD.o.putObj _ _⟩
 case stop=>
  intro D2 c G s f0 b0 H0;obtain ⟨rfl,H⟩:=ah.ao.1 (H0.to (ar _ _ _));obtain ⟨h,H1⟩:=ah.aq.1 H;obtain ⟨⟨d0,C,S0⟩,o⟩:=ah.ao.1 (H1.to (ar _ _ _));have e:=Jr.FA C f0
  have I:ah s (pt D2 (.deferred (U []))*(pt f (Y #[X W 0 0] 147 (0,0))*(pt g (Y #[V R (J.bQ D own G).1.1] 31 (0,0))*(j9 j d r t (J.bQ D own G).2.1*(aD h d (J.bQ D own G).2.2*(al h*(mp m own*F))))))):=
   (o.t00 ((iq cj cn j n*emp)*(pt D2 (.deferred (U []))*(pt f (Y #[X W 0 0] 147 (0,0))*(pt g (Y #[V R (J.bQ D own G).1.1] 31 (0,0))*(j9 j d r t (J.bQ D own G).2.1*(aD h d (J.bQ D own G).2.2*(al h*(mp m own*F))))))))).right
  rw [e];have hK:=I.heap;have H4:=(I.putObj (.deferred W)).right;have H5:=H4.right.right.dR 179 2;have HD:=ae (b0.putObj D2 (.deferred W));have HN:=ae S0;have K0:=ae H4;have Z0:=ae H5;generalize J.bQ D own G=l0 at *;clear H0 H H1 o I H4 H5 hE d2 e C S0
  gi_wp2
  refine ⟨Si0,.inl ⟨_,_,rfl,run_takeDeferred hK,?_⟩⟩;exact ⟨_,pS rfl rfl (K0.o.cell 0) (K0.o.aj.cell 0),h,X W 0 0,[],d0,rfl,by rw [HN.o];rfl,Si0,Z0.o.u00,HD.o⟩
 case body=>
  intro l P z x E s f0 b0 H;obtain ⟨id,p⟩:=x;obtain ⟨h,v,Z,d0,C,hZ,hV,o⟩:=tY (H.u00:ah s (lD S d m u bj B f g j own J D F z*(j9 j d r t J*(pt l (.loop P)*E))));have e:=J.Fm D own z (id,p);unfold Jr.cK at e;rw [if_neg (by simpa using C),Jr.vP C] at e;dsimp only at e
  have p1:Z.length<=n:=by
   have K:=f0.length_le;have h2:=lh J.T J.P (Jr.tail J) n;have h3:=Jr.yY (J:=J) (D:=D) (own:=own) z;rw [<- hZ,G3] at h3;simp only [D3,K9,E3] at K;omega
  have hP:=hJ.p1;have N0:(J.bQ D own z).2.2.Ok:=(J.uk hD own z).ok hD (by have:=hD.many;omega);have kj:s.cell? ⟨bj,0,W⟩=U (ax j):=o.aI.cell 0;have ko:s.cell? ⟨B,0,W⟩=U (.map (U m)):=o.et.cell 0;have g0:=ah.lookup (P:=N) underlying212 underlying3 (z:=V R 0) Kr0 o.lO id true
  cases hk:aA own id with
  | some q=>
   rw [hk] at e g0;simp only [T5,if_true,K3] at e g0
   have I:ah s ((j9 j d r t J*lD S d m u bj B f g j own J D F (z++[(id,p)]))*(pt l (.loop P)*E)):=by
    have:=oa (S:=S) (S':=h) (own:=own) (J:=J) (D:=D) (ys:=z++[(id,p)]) (F:=F) (G:=j9 j d r t J*(pt l (.loop P)*E)) (v:=v) (Z:=Z) d0 (by rw [e];exact C) (by rw [e];exact hZ) hV (by rw [e];exact o);exact this.u00
   have Y0:=ae I;clear H o I e hk f0 hE d2
   gi_wp2
   exact ⟨b0,Y0.o⟩
  | none=>
   rw [hk] at e g0;simp only [Option.isSome_none,if_true,Option.getD_none,if_neg Bool.false_ne_true] at e g0
   have hl:=zn s h j d r t J (J.bQ D own z).2.2 id p _ (o.t00 (j9 j d r t J*(aD h d (J.bQ D own z).2.2*(al h*(pt u (Y #[v] 147 (0,0))*(sl 179 2 v Z.length (bK Z) *
    (pt bj (Y #[ax j] 130 (0,0))*(pt B (Y #[.map (U m)] 212 (0,0))*(pt f (Y #[X W 0 0] 147 (0,0))*(pt g (Y #[V R 0] 31 (0,0))*(mp m own*(F*(pt l (.loop P)*E))))))))))))) hJ N0
   have o0:=rT (J:=J) (D:=(J.bQ D own z).2.2) (id:=id) (p:=p);have p0:=Jr.Ij (J:=J) (D:=(J.bQ D own z).2.2) (id:=id) (p:=p);have q1:Z.length+1<=20001:=Q
   generalize hR:J.load (J.bQ D own z).2.2 id p=l0 at hl e o0 p0;obtain ⟨⟨rc,rl⟩,J',D'⟩:=l0;dsimp only at hl e o0 p0;have k0:=ae e;have s0:=ae o0;have u0:=ae p0;have HZ:=ae hZ;have HV:=ae hV;have L0:=ae d0;clear H o e hk f0 hE d2 hR o0 p0 hZ hV d0 N0 C
   gi_wp2_with fail
   refine sF hl ?_;rintro c1 w3 ⟨dv,rfl,h3,d3⟩;clear hl kj ko g0
   by_cases e0:rc=0
   .subst e0
    obtain rfl:=u0.o rfl;have e:=k0.o;rw [if_pos rfl] at e;have e1:=s0.o rfl
    obtain ⟨S3,m0,D0,h4⟩:=ah.AS (h3.n9.t00 (al h*(bs 5 dv rl*(pt u (Y #[v] 147 (0,0))*(sl 179 2 v Z.length (bK Z)*(j9 j d r t J'*(aD h d D' *
     (pt bj (Y #[ax j] 130 (0,0))*(pt B (Y #[.map (U m)] 212 (0,0))*(pt f (Y #[X W 0 0] 147 (0,0))*(pt g (Y #[V R 0] 31 (0,0))*(mp m own*(F*(pt l (.loop P)*E)))))))))))))) (by unfold small;omega)
    obtain ⟨da,dc,rfl⟩:∃ da dc,dv = X da rl.length dc:=by
     rcases D0.2 with ⟨rfl,C⟩|⟨j1,h1,i1,rfl,_⟩
     .exact ⟨_,_,by rw [C];rfl⟩
     .exact ⟨_,_,rfl⟩
    have h5:ah w3 (sl 179 2 v Z.length (bK Z)*(pt u (Y #[v] 147 (0,0))*(aD S3 d D'*(al S3*(pt bj (Y #[ax j] 130 (0,0))*(pt B (Y #[.map (U m)] 212 (0,0))*(pt f (Y #[X W 0 0] 147 (0,0))*(pt g (Y #[V R 0] 31 (0,0))*(mp m own*(F*(j9 j d r t J'*(pt l (.loop P)*E)))))))))))):=
     ((h4.t00 (aD h d D'*(sl 179 2 v Z.length (bK Z)*(pt u (Y #[v] 147 (0,0))*(al S3*(pt bj (Y #[ax j] 130 (0,0))*(pt B (Y #[.map (U m)] 212 (0,0))*(pt f (Y #[X W 0 0] 147 (0,0))*(pt g (Y #[V R 0] 31 (0,0))*(mp m own*(F*(j9 j d r t J'*(pt l (.loop P)*E))))))))))))).ib (yE m0)).u00
    have k1:w3.cell? ⟨u,0,W⟩=U v:=h5.aj.cell 0;have m1:=h5.aj.frozen 0;have x0:=h5.alloc (Y #[V R id,X da rl.length dc] 179 (0,0))
    have R0:nt (w3.alloc (Y #[V R id,X da rl.length dc] 179 (0,0))) 2 (X (U ⟨w3.heap.size,0,W⟩) 1 1) 1 [V R id,X da rl.length dc]:=
     ⟨rfl,.inr ⟨_,_,rfl,fun j s1 hu=>by
      rw [Addr.add_lit,L8];exact (x0.cell j).trans (by simpa using hu)⟩⟩
    obtain ⟨v',w',T0,h0,W0⟩:=ah.append (P:=N) (ty:=147) underlying147 hi hz G0 F0 rfl x0.right R0 (by simp [Value.oneCell']) (by unfold maxLen;omega) Q;obtain ⟨aa,ac,rfl⟩:=az h0;obtain ⟨wa,wc,rfl⟩:=az h5;have l1:=h0.aj.cell 0;have o1:=h0.aj.frozen 0;have V0:=h0.aj.setCell 0 (X aa (Z.length+1) ac);have D5:=(((b0.trans d3).alloc (Y #[V R id,X da rl.length dc] 179 (0,0))).trans W0).setCell ⟨u,0,W⟩ (X aa (Z.length+1) ac)
    have H6:=oa (S:=S) (S':=S3) (d:=d) (m:=m) (bl:=u) (bj:=bj) (bo:=B) (b6:=f) (b7:=g) (j:=j) (own:=own) (J:=J') (D:=D) (ys:=z++[(id,p)]) (F:=F) (G:=j9 j d r t J'*(pt l (.loop P)*E)) (v:=X aa (Z.length+1) ac) (Z:=Z++[(id,X da rl.length dc,rl)]) (L0.o.trans m0) (by rw [e])
     (by rw [e,E4,HZ.o];rfl) (fun f1 hz=>by
      rcases List.mem_append.1 hz with hz|hz
      .exact (HV.o f1 hz).mono m0
      .rw [List.mem_singleton.1 hz];exact D0) (by
      rw [e];refine V0.to ?_;simp only [K5,K4,FN,D3,K9,E3,L8])
    have a1:=ae T0;have r0:=ae H6;have q0:=ae D5;clear T0 R0 x0 hi hz G0 F0 h4 h5 h0 V0 H6 D5 e e1 D0 m0 h3 W0 k0 s0 u0 d3
    gi_wp2_with (gi_at_builtin;refine cm a1.o _ _ rfl rfl rfl rfl rfl ?_)
    exact ⟨q0.o,r0.o.u00⟩
   .have e:=k0.o
    rw [if_neg e0] at e;have h4:=(h3.xn e0).2;obtain rfl:=(h3.xn e0).1;have r1:(rc == 0)=Y':=by simpa using e0
    have k6:w3.cell? ⟨f,0,W⟩=U (X W 0 0):=h4.mE.cell 0;have f6:w3.frozen? ⟨f,0,W⟩=Y':=h4.mE.frozen 0;have H7:=(h4.mE.setCell 0 (X W 0 0)).lO;have k7:=H7.cell 0;have f7:(w3.setCell ⟨f,0,W⟩ (X W 0 0)).frozen? ⟨g,0,W⟩=Y':=H7.frozen 0;have H8:=H7.setCell 0 (V R rc);simp only [K5,K4] at H8;have D5:=((b0.trans d3).setCell ⟨f,0,W⟩ (X W 0 0)).setCell ⟨g,0,W⟩ (V R rc)
    have H6:=BZ (S:=S) (S':=h) (j:=j) (d:=d) (r:=r) (t:=t) (m:=m) (b6:=f) (b7:=g) (own:=own) (J:=J) (D:=D) (ys:=z++[(id,p)]) (F:=F) (G:=pt l (.loop P)*E) L0.o (by rw [e];exact e0) (by rw [e]) (by
     rw [e];exact (H8.t00 ((pt u (Y #[v] 147 (0,0))*(sl 179 2 v Z.length (bK Z)*(pt bj (Y #[ax j] 130 (0,0))*pt B (Y #[.map (U m)] 212 (0,0)))))*(j9 j d r t J'*(pt f (Y #[X W 0 0] 147 (0,0))*(pt g (Y #[V R rc] 31 (0,0))*(aD h d D'*(al h*(mp m own*(F*(pt l (.loop P)*E)))))))))).right)
    have r0:=ae H6;have q0:=ae D5;clear hi hz G0 F0 h3 h4 H7 H8 H6 D5 e k0 s0 u0 e0 d3
    gi_wp2
    exact ⟨q0.o,(ah.ao.2 ⟨rfl,r0.o⟩:ah _ (fact (Code.ret=Code.ret)*_)).to (ar _ _ _).symm⟩
end Go.Proofs.Nn
namespace Go.Proofs.Nn
open RowKit SL
def WZ (w:O) (e:Ending) (c:O):Prop:=∃ v,e = .returned v/\ah c (sl 179 2 v 0 []*whole w)/\ak w c
def OP (w:O) (n:Nat) (I:n<=1000000):Calls N 233 #[X W 0 0,V R (n:Int)] w (WZ w):=by
 obtain ⟨F,B,E,C,s⟩:=info_parts oe
 by_cases l:n=0
 .subst l
  go_in
  go_wp2
  go_ret
  exact ⟨_,rfl,(ah.whole w).dR _ _,ak.refl w⟩
 .have c:=fun w=>Lib.run_append_nil_zeros (P:=N) w 147 3 147 179 F _ R R underlying147 underlying3 B E n Q (by rw [C];decide) Q (by rw [s];omega)
  have z:=grownCap_ge w n 0 179;have f:=grownCap_le_maxLen w n 0 179 (by unfold maxLen;omega);have c:=c w;generalize H:grownCap w n 0 179=e at c z f;generalize o:Builtin.zeroCells (Value.agg #[V R 0,X W 0 0]).cells n++Builtin.zeroCells (Value.agg #[V R 0,X W 0 0]).cells (e-n)=d at c;have r:d.size=e*2:=by rw [<- o];simp [size_zeroCells,Value.cells];omega
  have u:ah (w.drew.alloc (Y d 179)) (sl 179 2 (X (U ⟨w.heap.size,0,W⟩) 0 e) 0 []*whole w):=by
   have m:=((ah.whole w).drew.alloc (Y d 179 (0,0))).nz (n:=0) (sz:=2) Q f r;simpa using m
  have j:=(ak.refl w).drew.alloc (Y d 179 (0,0));have G:(0:Int)<(n:Int):=Q
  have h:=ae u;have g:=ae j
  go_in
  go_wp2_with (at_builtin;refine Lib.wpList_append_run _ rfl _ _ _ _ rfl _ _ rfl rfl _ _ c ?_)
  go_ret
  exact ⟨_,rfl,h.o,g.o⟩
def upto {c:Type} (k:Nat) (x y z:c):c:=if k=0 then x else if k=1 then y else z
def RL (n:Nat) (d:List M) (w:O) (e:Ending) (c:O):Prop:=∃ v,e = .returned v/\ah c (sl 179 2 v n d*whole w)/\ak w c
def Kd (n m:Nat) (c d:List M) (w:O) (u i:M) (wr:O):Prop:=
 ∃ k:Nat,k<=2/\i = V R (k:Int)/\ah wr (sl 179 2 u (upto k 0 n (n+m)) (upto k [] c (c++d))*whole w)/\ak w wr
def Gp (w:O) (g n m:Nat) (E F:Option Addr) (G H:Nat) (f j:List M) (h0:w.cell? ⟨g,0,W⟩=U (X E n G)) (h1:w.cell? ⟨g,1,W⟩=U (X F m H))
  (hx:nt w 2 (X E n G) n f) (hy:nt w 2 (X F m H) m j) (ox:∀ u ∈ f,u.oneCell'=true) (oy:∀ u ∈ j,u.oneCell'=true) (hn:n<=500000) (hm:m<=500000) :
  Calls N 167 #[X (U ⟨g,0,W⟩) 2 2] w (RL (n+m) (f++j) w):=by
 obtain ⟨i0,hi,hz,c0,b0⟩:=info_parts oe;have I:=OP w (n+m) Q;rw [show ((n+m:Nat):Int)=(n:Int)+(m:Int) by omega] at I;have K:=ae hx;have P:=ae hy;have S:=ae ox;have OY:=ae oy;have z:=ae hi;have C:=ae hz;have B:=ae c0;have s:=ae b0
 go_in
 go_wp2_with fail
 go_loop [3,11] (fun u i=>∃ k:Nat,k<=2/\i = V R (k:Int)/\u = V R (upto k 0 (n:Int) ((n:Int)+(m:Int)))) (fun _ i=>2-(intOf i).toNat)
 case atStart=>exact ⟨0,Q,rfl,rfl⟩
 case round=>
  obtain ⟨k,hk,rfl,rfl⟩:=hrel;obtain rfl|rfl|rfl:k=0\/k=1\/k=2:=Q
  .simp only [upto,if_true]
   go_wp2_with fail
   go_round
   case rel=>exact ⟨1,Q,by go_num,by simp [upto]⟩
   case measure=>simp [intOf]
  .simp only [upto,if_true,if_neg (show ¬ (1:Nat)=0 by decide)]
   go_wp2_with fail
   go_round
   case rel=>exact ⟨2,Q,by go_num,by simp [upto]⟩
   case measure=>simp [intOf]
  .simp only [upto,if_neg (show ¬ (2:Nat)=0 by decide),if_neg (show ¬ (2:Nat)=1 by decide)]
   go_wp2_with fail
   (apply I.mono)
   rintro d0 w1 ⟨v,rfl,h2,d2⟩
   go_wp2_with fail
   go_loopw [6,27] (fun u i wr=>Kd n m f j w u i wr) (fun _ i _=>2-(intOf i).toNat)
   case atStart=>exact ⟨0,Q,rfl,h2,d2⟩
   case round=>
    obtain ⟨k,hk,rfl,c,o⟩:=hrel;have k0:=c.bX h0;have k1:=c.bX h1;obtain rfl|rfl|rfl:k=0\/k=1\/k=2:=Q
    .simp only [upto,if_true] at c
     obtain ⟨va,vc,rfl⟩:=az c;obtain ⟨v',w',l,e,r⟩:=ah.append (P:=N) (ty:=147) underlying147 z.o C.o B.o s.o rfl c (K.o.carry fun a u h=>c.bX h) S.o (by unfold maxLen;omega) Q;have d:=ae e;have Hd:=ae (o.trans r);obtain ⟨ba,bc,rfl⟩:=az e
     go_wp2_with (at_builtin;refine wpList_append_run l _ _ rfl rfl rfl rfl rfl ?_)
     go_roundw
     case rel=>exact ⟨1,Q,by go_num,by simpa [upto] using d.o,Hd.o⟩
     case measure=>simp [intOf]
    .simp only [upto,if_true,if_neg (show ¬ (1:Nat)=0 by decide)] at c
     obtain ⟨va,vc,rfl⟩:=az c;obtain ⟨v',w',l,e,r⟩:=ah.append (P:=N) (ty:=147) underlying147 z.o C.o B.o s.o rfl c (P.o.carry fun a u h=>c.bX h) OY.o (by unfold maxLen;omega) Q;have d:=ae e;have Hd:=ae (o.trans r);obtain ⟨ba,bc,rfl⟩:=az e
     go_wp2_with (at_builtin;refine wpList_append_run l _ _ rfl rfl rfl rfl rfl ?_)
     go_roundw
     case rel=>exact ⟨2,Q,by go_num,by simpa [upto] using d.o,Hd.o⟩
     case measure=>simp [intOf]
    .simp only [upto,if_neg (show ¬ (2:Nat)=0 by decide),if_neg (show ¬ (2:Nat)=1 by decide)] at c
     have d:=ae c;have Hd:=ae o
     go_wp2
     go_ret
     exact ⟨_,rfl,d.o,Hd.o⟩
end Go.Proofs.Nn
namespace Go.SL
open RowKit
abbrev Bl:=List (Int × List UInt8)
def bU (Z:List Wr):Bl:=Z.map fun z=>(z.1,z.2.2)
def eQ (L:Bl):List Wr:=L.map fun x=>(x.1,X W 0 0,x.2)
def kB (L:Bl):bU (eQ L)=L:=by
 unfold bU eQ;rw [L6];exact List.map_id L
def jX (Z:List Wr):(bU Z).length=Z.length:=by simp [bU]
def ea (Z:List Wr) (k:Nat):(Z.getD k Wr.nil).1=((bU Z).getD k (0,[])).1/\(Z.getD k Wr.nil).2.2=((bU Z).getD k (0,[])).2:=by
 simp only [bU,D6,List.getElem?_map];cases Z[k]? <;> simp [Wr.nil]
def Jr.Ab (J:Jr) (D:aw) {Z Z':List Wr} (h:bU Z=bU Z') (k:Nat):J.bg D Z k=J.bg D Z' k:=by
 have c:Z.length=Z'.length:=by rw [<- jX,h,jX]
 induction k with
 | zero=>rfl
 | succ k d=>
  rw [Jr.bg,Jr.bg,d,(ea Z k).1,(ea Z k).2,(ea Z' k).1,(ea Z' k).2,h,c]
def Ff {Z Z':List Wr} (h:bU Z=bU Z') (k:Nat):fE Z k=fE Z' k:=by
 induction k with
 | zero=>rfl
 | succ k c=>rw [fE,fE,c,(ea Z k).1,(ea Z' k).1,h]
def Jr.fL (J:Jr) (L:Bl):Nat->Tb
 | 0=>J.T
 | k+1=>((Jr.fL J L k).put (L.getD k (0,[])).1 ((J.hd+(k:Int))%(J.P:Int))).2
def Jr.aJ (J:Jr) (n:Nat):Int:=if J.us<2*(n:Int) then J.us else 2*(n:Int)
def Jr.done (J:Jr) (L:Bl) (c:Int):Jr:=
 { J with T:=J.fL L L.length,sq:=J.sq+1,hd:=(J.hd+(L.length:Int))%(J.P:Int),us:=J.us+((L.length:Int)-c),fr:=c }
structure Tb.Ls (T:Tb):Prop where
 os:∀ v ∈ T.os,v=-1\/(0<=v/\v<T.ps.length)
def mem_set {l:List Int} {i:Nat} {x v:Int} (h:v ∈ l.set i x):v=x\/v ∈ l:=Gr0
def Tb.BG {T:Tb} (h:T.Ls) (id p:Int):(T.put id p).2.Ls:=by
 refine ⟨fun v hv=>?_⟩;rw [(T.oI id p).1];unfold Tb.put at hv
 split at hv
 .rename_i c
  rcases mem_set hv with hv|hv
  .exact .inr ⟨Q,Q⟩
  .unfold Tb.drop at hv
   split at hv
   .rcases mem_set hv with hv|hv
    .exact .inl hv
    .exact h.os v hv
   .exact h.os v hv
 .exact h.os v hv
def Jr.wX (J:Jr) (L:Bl) (k:Nat):(J.fL L k).ps.length=J.T.ps.length/\(J.fL L k).os.length=J.T.os.length:=by
 induction k with
 | zero=>exact ⟨rfl,rfl⟩
 | succ k c=>exact ⟨((Jr.fL J L k).oI _ _).1.trans c.1,((Jr.fL J L k).oI _ _).2.trans c.2⟩
def Jr.Lw {J:Jr} (h:J.T.Ls) (L:Bl) (k:Nat):(J.fL L k).Ls:=by
 induction k with
 | zero=>exact h
 | succ k c=>exact Tb.BG c _ _
structure Jr.Kk (J:Jr):Prop where
 Mj:1<=J.ep
 Vz:J.ep<4294967296
 Tp:1<=J.st
 bS:J.st<=J.sq+1
 Qg:0<=J.sq
 Vu:J.sq<=281474976710655
 n1:J.n<=3840
 own:J.T.Ls
def Jr.Kk.numbers {J:Jr} (h:J.Kk) (c:J.sq<281474976710655):J.uU:=⟨h.Mj,h.Vz,h.Tp,h.bS,h.Qg,c⟩
def Jr.eI {J:Jr} (c:0<=J.us) (n:Nat):0<=J.aJ n/\J.aJ n<=J.us/\J.aJ n<=2*n:=by
 unfold Jr.aJ
 split <;> omega
end Go.SL
namespace Go.Proofs.Nn
open RowKit SL
variable {w:O}
def Gz {J:Jr} (h:J.T.Ok) (L:Bl) (k:Nat):(J.fL L k).Ok:=by
 induction k with
 | zero=>exact h
 | succ k c=>exact Tb.O7 c _ _
def eP (J:Jr) (D:aw) (L:Bl):Mv:=J.bQ D (fE (eQ L) L.length) (bO J.T J.P (Jr.tail J) (J.aJ L.length).toNat)
def qI (J:Jr) (D:aw) (L:Bl):Int × Jr × aw:=
 if (eP J D L).1.1≠0 then ((eP J D L).1.1,(eP J D L).2)
 else if (J.P:Int)-J.us-J.fr<((L++(eP J D L).1.2).length:Int) then (9,J,(eP J D L).2.2)
 else if (J.bg (eP J D L).2.2 (eQ (L++(eP J D L).1.2)) (L++(eP J D L).1.2).length).1≠0 then
  ((J.bg (eP J D L).2.2 (eQ (L++(eP J D L).1.2)) (L++(eP J D L).1.2).length).1,{ J with br:=true },(J.bg (eP J D L).2.2 (eQ (L++(eP J D L).1.2)) (L++(eP J D L).1.2).length).2)
 else (0,J.done (L++(eP J D L).1.2) (J.aJ L.length),(J.bg (eP J D L).2.2 (eQ (L++(eP J D L).1.2)) (L++(eP J D L).1.2).length).2)
def dJ (J:Jr) (D:aw) (ok:Bool) (L:Bl):Int × Jr × aw:=
 if ok=Y' then (1,J,D)
 else if 281474976710655<=J.sq then (12,J,D)
 else if (J.flush D).1≠0 then J.flush D
 else qI J (J.flush D).2.2 L
def Ln {J:Jr} {D:aw} (h:(J.flush D).1=0):(J.flush D).2.1=J/\(J.flush D).2.2=D.flush.2/\J.br=Y'/\D.flush.1=0:=by
 unfold Jr.flush at h ⊢
 split
 .rename_i c;rw [if_pos c] at h;exact absurd h (show (2:Int)≠0 by decide)
 .rename_i c
  rw [if_neg c] at h
  split
  .rename_i d;exact ⟨rfl,rfl,by simpa using c,d⟩
  .rename_i d;rw [if_neg d] at h;exact absurd h (show (2:Int)≠0 by decide)
def I1 {J:Jr} (r:J.Ok) (j:J.Kk) {D:aw} {own:KV} {P first m:Nat}:∀ x ∈ (J.bQ D own (bO J.T P first m)).1.2,0<=x.1/\x.1<3840:=by
 have B:∀ y ∈ bO J.T P first m,0<=y.1/\y.1<3840:=by
  intro y hy;obtain ⟨p,_,d⟩:=List.mem_filterMap.1 hy
  cases f:told J.T.os (p:Int) with
  | none=>rw [f] at d;cases d
  | some id=>
   rw [f] at d;injection d with d
   obtain ⟨k,_,l,hv,w⟩:=tj f;have u:id ∈ J.T.os:=by rw [<- hv,D6,E5 l];exact J7 l
   have:=j.n1;have:=r.ps;rcases j.own.os id u with e|⟨o,F⟩
   .exact absurd e w
   .rw [<- d];exact ⟨o,by show id<3840;omega⟩
 have:∀ (L:List (Int × Int)) (s:Mv),(∀ y ∈ L,0<=y.1/\y.1<3840)->(∀ x ∈ s.1.2,0<=x.1/\x.1<3840)->∀ x ∈ (L.foldl (Jr.cK own) s).1.2,0<=x.1/\x.1<3840:=by
  intro L
  induction L with
  | nil=>intro s _ h;exact h
  | cons y L E=>
   intro s g h;rw [L5];refine E _ (fun z C=>g z (L4 _ C)) ?_;unfold Jr.cK
   split
   .exact h
   .split
    .exact h
    .split
     .intro x c
      rcases List.mem_append.1 c with c|c
      .exact h x c
      .rw [List.mem_singleton.1 c];exact g y L3
     .intro x c;cases c
 exact this _ _ B Si0
def GB (S:Hp) (j d:Nat) (c:Int × Jr × aw) (F:ai) (w:O) (e:Ending) (g:O):Prop:=
 ∃ f,Ext S f/\e = .returned (V R c.1)/\ah g (nA j d c.2.1*(aD f d c.2.2*(al f*F)))/\ak w g
def TN {v:M} {Z:List Wr} (h:Xn w v Z):nt w 2 v Z.length (bK Z):=by
 refine ⟨rN Z,?_⟩;rcases h with ⟨rfl,rfl⟩|⟨g,o,c,rfl,_,_,r⟩
 .exact .inl ⟨rfl,rfl⟩
 .refine .inr ⟨_,_,rfl,fun i u d=>?_⟩
  have B:=rN Z;have z:i<Z.length*2:=Gr0
  rw [Addr.add_lit];obtain ⟨k,s⟩:∃ k,i=k*2\/i=k*2+1:=⟨i/2,Q⟩
  have e:k<Z.length:=Q
  obtain ⟨l,m⟩:=yA Z k e;obtain ⟨f,j⟩:=r k e;rw [D6,E5 e] at f j;rcases s with rfl|rfl
  .rw [l] at d;injection d with d;rw [<- d];exact f
  .rw [m] at d;injection d with d;rw [<- d];exact j
def yM (Z:List Wr) (h:∀ z ∈ Z,∃ a n c,z.2.1 = X a n c):∀ u ∈ bK Z,u.oneCell'=true:=by
 intro u d;obtain ⟨z,f,d⟩:=List.mem_flatMap.1 d;obtain ⟨a,n,c,e⟩:=h z f;simp only [List.mem_cons,List.not_mem_nil,or_false] at d;rcases d with rfl|rfl
 .rfl
 .rw [e];rfl
def yP {T:TypeId} {v:M} {Z:List Wr} {F:ai} (h:ah w (sl T 2 v Z.length (bK Z)*F)):Xn w v Z:=by
 rcases h.cH with ⟨rfl,e,_,_⟩|⟨g,d,m,rfl,f,h4,h5,o,_⟩
 .exact .inl ⟨rfl,List.eq_nil_of_length_eq_zero e⟩
 .refine .inr ⟨g,0,d,rfl,f,h4,fun k c=>?_⟩
  obtain ⟨j,l⟩:=h.kI c;rw [L8,D6,E5 c];exact ⟨j,l⟩
def MG {n:Int} {Z:List Wr} (h:JM n Z) {z:Wr} (d:z ∈ Z):0<=z.1/\z.1<n/\z.2.2.length=480:=by
 obtain ⟨k,c,rfl⟩:=List.getElem_of_mem d;have:=h.ok k c;unfold okW at this;rw [D6,E5 c] at this;exact ⟨this.1,this.2.1,this.2.2.1⟩
def Fa {T:TypeId} {S:Hp} {v:M} {l:List UInt8} (h:qJ T S v l):∃ a n c,v = X a n c:=by
 rcases h.2 with ⟨rfl,_⟩|⟨g,d,e,rfl,_⟩ <;> exact ⟨_,_,_,rfl⟩
def Ed {D:aw} (h:D.flush.1=0):D.flush.2.wait=[]:=by
 unfold aw.flush at h ⊢
 split
 .rfl
 .rename_i c;rw [if_neg c] at h;exact absurd h (show (2:Int)≠0 by decide)
def xY:∀ c w,(callFunc 171 c).run N w = .ok (.enter 171 c) w:=enters func171 Kr0 rfl
def ES (n t:Nat) (J:Jr) (L:Bl) (c:ai) (w:O) (i:M) (wr:O):Prop:=
 ∃ k:Nat,k<=n/\i = V R (k:Int)/\ah wr (bG t (J.fL L k)*c)/\ak w wr
def tF (w:O) (S:Hp) (j d:Nat) (J:Jr) (D:aw) (F:ai) (v:M) (Z:List Wr) (h:ah w (nA j d J*(aD S d D*(al S*F)))) (I:J.Ok) (hN:J.Kk) (hD:D.Ok)
  (hl:Z.length<=1000000) (hr:Reads S v Z F) (x0:Bool) (hB:x0=true↔JM J.n Z) :
  Calls N 93 #[ax j,v] w (GB S j d (dJ J D x0 (bU Z)) F w):=by
 have hv:=hr S (nA j d J*aD S d D) w (Ext.refl S) (h.u00);have M1:∀ z ∈ Z,∃ a c,z.2.1 = X a z.2.2.length c:=fun z s=>(hv.2 z s).shape;have hb:=DW w j d J _ h v Z hv.1 M1 hl x0 hB
 obtain ⟨aa,ac,P2⟩:∃ aa ac,v = X aa Z.length ac:=by
  rcases hv.1 with ⟨rfl,h⟩|⟨a2,o,c,rfl,_⟩
  .rw [h];exact ⟨_,_,rfl⟩
  .exact ⟨_,_,rfl⟩
 subst P2;obtain ⟨x,hx⟩:=h.sD;obtain ⟨t,hx⟩:=hx;have c6:w.cell? ⟨j,6,W⟩=U (V .u64 J.sq):=hx.cell 6;clear hx hv;obtain ⟨V1,g⟩:=Mn0 (dJ J D x0 (bU Z))
 rw [<- g];unfold dJ at g
 cases x0 with
 | false=>
  have HR:=ae hr;rw [if_pos rfl] at g;have r:=ae g;clear hB hr c6 g
  go_in
  go_wp2_with fail
  (with_reducible apply hb.mono)
  rintro e w1 ⟨rfl,E,d1⟩;have h2:=E.cU h;clear hb E
  go_wp2
  go_ret
  exact ⟨S,Ext.refl S,by rw [r.o];rfl,by rw [r.o];exact h2,d1⟩
 | true=>
  have L0:=hB.1 rfl;rw [if_neg Si0] at g
  by_cases hq:281474976710655<=J.sq
  .rw [if_pos hq] at g
   have r:=ae g;have HM:=ae L0;have HR:=ae hr;clear hB L0 hr g
   go_in
   go_wp2_with fail
   (with_reducible apply hb.mono)
   rintro e w1 ⟨l0,rfl,E,d1⟩;have h2:=(E.under h).right;have u1:w1.cell? ⟨j,6,W⟩=U (V .u64 J.sq):=E.bX c6;clear hb E h c6
   go_wp2
   go_ret
   exact ⟨S,Ext.refl S,by rw [r.o];rfl,by rw [r.o];exact h2,d1⟩
  .rw [if_neg hq] at g
   have Z2:=hN.numbers Q;have i3:Z.length<=24:=L0.n1;have l3:(Z.length:Int)<=24:=Q
   have HM:=ae L0;have HR:=ae hr;have r:=ae g;clear hB L0 hr g
   go_in
   go_wp2_with fail
   (with_reducible apply hb.mono)
   rintro e w1 ⟨l0,rfl,E,d1⟩;have h2:=E.under h;have u1:w1.cell? ⟨j,6,W⟩=U (V .u64 J.sq):=E.bX c6;clear hb E h c6;have i0:=xk w1 S j d J D (al S*(mp l0 (fE Z Z.length)*F)) (h2.u00) hD
   by_cases d0:(J.flush D).1=0
   .obtain ⟨e1,e2,R2,o2⟩:=Ln d0
    have g:=r.o;rw [if_neg (by simpa using d0)] at g;clear r;have a1:(J.flush D).2.2.Ok:=by rw [e2];exact (aw.iA hD).ok hD (by have:=hD.many;omega)
    have N1:(J.flush D).2.2.wait=[]:=by rw [e2];exact Ed o2
    have u2:fE (eQ (bU Z)) (bU Z).length=fE Z Z.length:=by rw [jX];exact Ff (kB _) _
    have K1:=Jr.eI I.uH Z.length;have s3:=I.LV;have h1:=fun (w2:O) (u0 t:Nat) h=>FU w2 S j d u0 t l0 J (J.flush D).2.2 (fE Z Z.length) (J.aJ Z.length).toNat F h I a1 Q;rw [K8 K1.1] at h1;have m2:J.flush D=(0,J,(J.flush D).2.2):=Prod.ext d0 (Prod.ext e1 rfl);unfold qI eP at g;rw [u2,jX] at g;generalize (J.flush D).2.2=D1 at *;rw [m2] at i0;have k2:=Jr.vP (J:=J) (D:=D1) (own:=fE Z Z.length) (L:=bO J.T J.P (Jr.tail J) (J.aJ Z.length).toNat);have c1:=Jr.uk J a1 (fE Z Z.length) (bO J.T J.P (Jr.tail J) (J.aJ Z.length).toNat);have A1:=Jr.yY (J:=J) (D:=D1) (own:=fE Z Z.length) (bO J.T J.P (Jr.tail J) (J.aJ Z.length).toNat);have j2:=I1 I hN (D:=D1) (own:=fE Z Z.length) (P:=J.P) (first:=Jr.tail J) (m:=(J.aJ Z.length).toNat);have f2:=Lx (J:=J) (D:=D1) (own:=fE Z Z.length) (L:=bO J.T J.P (Jr.tail J) (J.aJ Z.length).toNat)
    replace A1:(J.bQ D1 (fE Z Z.length) (bO J.T J.P (Jr.tail J) (J.aJ Z.length).toNat)).1.2.length<=48:=by
     have:=lh J.T J.P (Jr.tail J) (J.aJ Z.length).toNat;omega
    generalize J.bQ D1 (fE Z Z.length) (bO J.T J.P (Jr.tail J) (J.aJ Z.length).toNat)=m0 at *;have g2:m0.2.2.Ok:=c1.ok a1 (by rw [N1];simp);have l2:m0.2.2.wait.length=0:=by have:=c1.many;rw [N1] at this;simpa using this
    have hc:(J.us<2*(Z.length:Int)/\J.aJ Z.length=J.us)\/(¬ J.us<2*(Z.length:Int)/\J.aJ Z.length=2*(Z.length:Int)):=by
     unfold Jr.aJ
     split
     .exact .inl ⟨As0,rfl⟩
     .exact .inr ⟨As0,rfl⟩
    have r:=ae g;have f3:=ae K1;have o1:=ae c1;have W0:=ae A1;have V0:=ae j2;have T0:=ae f2;have m1:=ae g2;have r1:=ae l2;have p1:=ae k2;clear d0 e1 e2 o2 R2 u2 h2 g m2 K1 a1 N1 c1 A1 j2 f2 g2 l2 k2;rcases hc with ⟨S2,f1⟩|⟨S2,f1⟩
    all_goals
     have K2:=ae f1;rw [f1] at h1;clear f1
     go_wp2_with fail
     (with_reducible apply i0.mono)
     rintro e w2 ⟨rfl,h3,d2⟩;obtain ⟨u0,t,h4⟩:=h3.IC;have k8:w2.cell? ⟨j,8,W⟩=U (V R J.us):=h4.Iv.cell 8;have t2:=h1 w2 u0 t h4;clear h1 i0 h3 u1 h4
     go_wp2_with fail
     (with_reducible apply t2.mono)
     rintro e w3 ⟨H,v3,l,o0,rfl,G0,H1,h5,d3⟩;clear t2 k8
     by_cases p0:m0.1.1=0
     .have i2:=p1.o p0
      obtain ⟨⟨mc,ml⟩,f,mD⟩:=m0;dsimp only at p0 i2 G0 h5 r o1 W0 V0 T0 m1 r1;subst p0 i2;have g:=r.o;rw [if_neg Si0] at g;obtain ⟨va,vc,rfl⟩:=az h5.aC;have G:=h5.alloc (Y #[X aa Z.length ac,X va l.length vc] 147 (0,0));have dA:=((d1.trans d2).trans d3).alloc (Y #[X aa Z.length ac,X va l.length vc] 147 (0,0));have v2:=HR.o H (pt w3.heap.size (Y #[X aa Z.length ac,X va l.length vc] 147 (0,0))*(j9 j d u0 t f*(aD H d mD*(sl 179 2 (X va l.length vc) l.length (bK l)*mp l0 (fE Z Z.length))))) _ o0 (G.u00);have m3:l.length<=48:=by have:=W0.o;rw [<- G0,G3] at this;exact this
      have H0:=Gp (w3.alloc (Y #[X aa Z.length ac,X va l.length vc] 147 (0,0))) w3.heap.size Z.length l.length aa va ac vc (bK Z) (bK l) (G.cell 0) (G.cell 1) (TN v2.1) G.aI.ny
       (yM Z fun z s=>by obtain ⟨a,c,e⟩:=M1 z s;exact ⟨a,_,c,e⟩) (yM l fun z s=>Fa (H1 z s)) Q Q
      have e5:bK Z++bK l=bK (Z++l):=by simp [bK]
      have e6:bU Z++ml=bU (Z++l):=by rw [<- G0];simp [bU]
      rw [e5] at H0;rw [e6,jX,Jr.Ab f (Z:=eQ (bU (Z++l))) (Z':=Z++l) mD (kB _),D3] at g;have Y2:Z.length+l.length<=72:=Q
      have L1:∀ z ∈ Z++l,0<=z.1/\z.1<3840/\z.2.2.length=480:=by
       intro z s;rcases List.mem_append.1 s with s|s
       .have:=MG HM.o s
        have:=hN.n1;exact ⟨Q,Q,Q⟩
       .have hm:(z.1,z.2.2) ∈ ml:=by rw [<- G0];exact List.mem_map.2 ⟨z,s,rfl⟩
        have E:=V0.o _ hm;exact ⟨E.1,E.2,T0.o _ hm⟩
      have R0:∀ v5,Reads H v5 (Z++l) (sl 179 2 v5 (Z++l).length (bK (Z++l))*F):=by
       intro v5 S' X1 w' e hs;refine ⟨yP (hs.t00 (sl 179 2 v5 (Z++l).length (bK (Z++l))*(X1*(al S'*F)))),fun z s=>?_⟩;rcases List.mem_append.1 s with s|s
       .exact (HR.o S' (X1*sl 179 2 v5 (Z++l).length (bK (Z++l))) w' (o0.trans e) (hs.u00)).2 z s
       .exact ((H1 z s).mono e).rd hs.aj
      have K0:(Z++l).length=Z.length+l.length:=D3;rw [K0] at R0;generalize Z++l=m at H0 g L1 R0 K0;generalize Z.length+l.length=u at H0 g Y2 R0 K0;have g0:=ae g;have L2:=ae L1;have t1:=ae R0;have F0:=ae K0;have T1:=ae G;have p3:(u:Int)<=72:=Q
      clear g r v2 e5 e6 L1 R0 K0 h5 H1 G0 o1 W0 V0 T0 p1 HR HM G M1
      go_wp2_with fail
      (with_reducible apply H0.mono)
      rintro e w5 ⟨v5,rfl,h6,d6⟩
      have H7:ah w5 (nA j d f*(aD H d mD*(al H*(sl 179 2 v5 u (bK m)*F)))):=
       ((h6.under T1.o).t00 ((pt w3.heap.size (Y #[X aa Z.length ac,X va l.length vc] 147 (0,0))*(sl 179 2 (X va l.length vc) l.length (bK l)*mp l0 (fE Z Z.length)))*(j9 j d u0 t f*(aD H d mD*(al H*(sl 179 2 v5 u (bK m)*F)))))).right.GJ
      have D7:=dA.trans d6;obtain ⟨ba,bc,rfl⟩:=az h6;have y2:=MN w5 j d f _ H7 I;clear H0 T1 h6 d6 dA d1 d2 d3
      go_wp2_with fail
      (with_reducible apply y2.mono)
      rintro e w6 ⟨rfl,h8,d8⟩;have H8:=h8.cU H7;have D8:=D7.trans d8;clear y2 h8 d8 H7 D7
      by_cases r2:(f.P:Int)-f.us-f.fr<(u:Int)
      .have g:=g0.o
       rw [if_pos r2] at g;have h0:=ae g;have D2:=ae H8;clear g g0 H8
       go_wp2
       go_ret
       exact ⟨H,o0,by rw [h0.o];rfl,by rw [h0.o];exact (D2.o.t00 (sl 179 2 (X ba u bc) u (bK m)*(nA j d f*(aD H d mD*(al H*F))))).right,D8⟩
      .have g:=g0.o
       rw [if_neg r2] at g;have S0:=Ea w6 H j d f mD _ (X ba u bc) m H8 I Z2 m1.o (by have:=r1.o;have:=F0.o;omega) (by have:=F0.o;omega) L2.o (t1.o _);rw [F0.o] at S0;generalize hW:f.bg mD m u=Y0 at S0 g;obtain ⟨rc,D4⟩:=Y0;dsimp only at S0 g;have h0:=ae g;clear g g0 H8 hW
       go_wp2_with fail
       (with_reducible apply S0.mono)
       rintro e w7 ⟨K,z1,rfl,B,d9⟩;have D9:=D8.trans d9;clear S0 d9 D8
       by_cases k0:rc=0
       .have g:=h0.o
        dsimp only at B;rw [if_neg (by simpa using k0)] at g;rw [if_pos k0] at B;subst k0;have z2:∀ z ∈ m,∃ a c,z.2.1 = X a z.2.2.length c:=fun z s=>((t1.o _ K (nA j d f*aD K d D4) w7 z1 (B.u00)).2 z s).shape;obtain ⟨C,t4,c2⟩:=B.IC;obtain ⟨W1,E1⟩:=Mn0 (aD K d D4*(al K*F))
        have R1:ah w7 (bG t4 (f.fL (bU m) 0)*(pt j (Y (f.cells d C t4) 184 (0,0))*(bC C (bW f.P)*(sl 179 2 (X ba u bc) u (bK m)*W1)))):=
         c2.Iv.to (by rw [E1];show _=bG t4 f.T*_;ac_rfl)
        have H2:=ae E1;have N2:=ae z2;have D0:=ae g;clear B c2 E1 z2 g h0 t1
        go_wp2_with fail
        go_loopw [70] (fun i wr=>ES u t4 f (bU m) (pt j (Y (f.cells d C t4) 184 (0,0))*(bC C (bW f.P)*(sl 179 2 (X ba u bc) u (bK m)*W1))) w i wr) (fun i _=>u-(intOf i).toNat)
        case atStart=>exact ⟨0,Nat.zero_le _,rfl,R1,D9⟩
        case round=>
         clear R1 D9;obtain ⟨k,hk,rfl,r0,i1⟩:=hrel
         by_cases n3:k<u
         .have o3:(k:Int)<(u:Int):=Q
          have T2:=F0.o;have g1:k<m.length:=Q
          obtain ⟨a2,gc,hg⟩:=re r0.aC Q;obtain ⟨rfl,rfl⟩:ba=U ⟨a2,0,W⟩/\bc=gc:=by injection hg with e1 e2 e3;exact ⟨e1,e3⟩
          obtain ⟨q1,q2⟩:=r0.aC.kI g1;obtain ⟨da,dc,hd⟩:=N2.o _ (J7 g1);have q0:=(ea m k).1;rw [D6,E5 g1,K3] at q0;have b3:=Tb.oI;have j1:f.fL (bU m) (k+1)=((f.fL (bU m) k).put m[k].1 ((f.hd+(k:Int))%(f.P:Int))).2:=by rw [q0];rfl
          have n2:=Gz I.T (bU m) k;generalize m[k]=z at q1 q2 hd j1;obtain ⟨id,dv,db⟩:=z;dsimp only at q1 q2 hd j1;subst hd;generalize db.length=dl at q2;have G:=r0.alloc (Y #[V R id,X da dl dc] 179 (0,0));have dA:=i1.alloc (Y #[V R id,X da dl dc] 179 (0,0));have O2:=ae j1;have J2:=ae n2;clear r0 i1 j1 n2 q0 b3 T2 g1 hg
          go_wp2_with fail
          generalize wr.alloc (Y #[V R id,X da dl dc] 179 (0,0))=P at G dA ⊢;generalize wr.heap.size=bw at G ⊢;have s0:P.cell? ⟨bw,0,W⟩=U (V R id):=G.cell 0;have s1:P.cell? ⟨j,1,W⟩=U (ax C):=G.au.cell 1;have s2:P.cell? ⟨j,2,W⟩=U (ax t4):=G.au.cell 2;have s7:P.cell? ⟨j,7,W⟩=U (V R f.hd):=G.au.cell 7;have x1:=ah.drew G;have e0:=xE P.drew C (bW f.P) f.hd (k:Int) _ x1.aC (by rw [aO];exact I.p0) (by rw [aO];have:=I.p1;omega);rw [aO] at e0;have N0:=fA P.drew t4 (f.fL (bU m) k) id ((f.hd+(k:Int))%(f.P:Int)) _ x1.aj J2.o;rw [<- O2.o] at N0;generalize (f.hd+(k:Int))%(f.P:Int)=pl at e0 N0;generalize ((f.fL (bU m) k).put id pl).1=pb at N0;clear G x1 q1 q2
          go_region_held3 (fun w'=>w'.cell? ⟨bw,0,W⟩=U (V R id)/\w'.cell? ⟨j,1,W⟩=U (ax C)/\w'.cell? ⟨j,2,W⟩=U (ax t4)/\w'.cell? ⟨j,7,W⟩=U (V R f.hd)) (first|(with_reducible exact ⟨b0,b1,b2,b7⟩)|exact ⟨s0,s1,s2,s7⟩) (first
           | (go_at_call 171;(with_reducible apply e0.mono);rintro e w9 ⟨rfl,rfl⟩)
           | (go_at_call 170;(with_reducible apply N0.mono);rintro e w9 ⟨rfl,B,d9⟩;have b0:w9.cell? ⟨bw,0,W⟩=U (V R id):=B.aj.cell 0;have b1:w9.cell? ⟨j,1,W⟩=U (ax C):=B.au.cell 1;have b2:w9.cell? ⟨j,2,W⟩=U (ax t4):=B.au.cell 2;have b7:w9.cell? ⟨j,7,W⟩=U (V R f.hd):=B.au.cell 7))
          have H9:=ae B.fT;have DD:=ae (dA.drew.trans d9);clear B d9 dA e0 N0 s0 s1 s2 s7 b0 b1 b2 b7
          go_wp2
          go_roundw
          case rel=>exact ⟨k+1,Q,by go_num,H9.o,DD.o⟩
          case measure=>simp [intOf];omega
         .obtain rfl:k=u:=Q
          have hB:=r0.aj;have k6:wr.cell? ⟨j,6,W⟩=U (V .u64 f.sq):=hB.cell 6;have f6:=hB.frozen 6;have c0:=hB.setCell 6 (V .u64 (f.sq+1));have v1:=i1.setCell ⟨j,6,W⟩ (V .u64 (f.sq+1))
          have q3:IntKind.u64.wrap (f.sq+1)=f.sq+1:=by
           have:=hN.Qg;rw [IntKind.wrap_u64];omega
          have k1:=ae c0;clear r0 i1 hB c0
          go_wp2_with fail
          generalize wr.setCell ⟨j,6,W⟩ (V .u64 (f.sq+1))=P at k1 v1 ⊢;have c0:=k1.o;have s1:P.cell? ⟨j,1,W⟩=U (ax C):=c0.cell 1;have s7:P.cell? ⟨j,7,W⟩=U (V R f.hd):=c0.cell 7;have f7:=c0.frozen 7;have W2:=c0.lt;have e0:=xE P.drew C (bW f.P) f.hd (k:Int) _ (c0.au.drew) (by rw [aO];exact I.p0) (by rw [aO];have:=I.p1;omega);rw [aO] at e0;generalize q0:(f.hd+(k:Int))%(f.P:Int)=pl at e0;have f0:=c0.setCell 7 (V R pl);have c3:(P.setCell ⟨j,7,W⟩ (V R pl)).cell? ⟨j,1,W⟩=U (ax C):=f0.cell 1;have Y1:=(v1.setCell ⟨j,7,W⟩ (V R pl)).drew;have l1:=ae (ah.drew f0);have M2:=ae q0;clear c0 k1 f0 q0 k6 f6 v1
          go_region_law (refine pP e0 xY rfl _ _ rfl Rf0 ?_;rintro e w9 ⟨rfl,rfl⟩;refine ⟨_,rfl,?_⟩)
          all_goals
           clear s1 c3 s7 f7 W2 e0;generalize (P.setCell ⟨j,7,W⟩ (V R pl)).drew=w9 at l1 Y1 ⊢;have f0:=l1.o;have s8:w9.cell? ⟨j,8,W⟩=U (V R f.us):=f0.cell 8;have f8:=f0.frozen 8;have Z0:=f0.setCell 8 (V R (f.us+((k:Int)-f.aJ Z.length)));have s9:(w9.setCell ⟨j,8,W⟩ (V R (f.us+((k:Int)-f.aJ Z.length)))).cell? ⟨j,9,W⟩=U (V R f.fr):=Z0.cell 9;have f9:=Z0.frozen 9;have y1:=Z0.setCell 9 (V R (f.aJ Z.length));have Z1:=(Y1.setCell ⟨j,8,W⟩ (V R (f.us+((k:Int)-f.aJ Z.length)))).setCell ⟨j,9,W⟩ (V R (f.aJ Z.length))
           have p2:ah ((w9.setCell ⟨j,8,W⟩ (V R (f.us+((k:Int)-f.aJ Z.length)))).setCell ⟨j,9,W⟩ (V R (f.aJ Z.length))) (nA j d V1.2.1*(aD K d V1.2.2*(al K*F))):=by
            rw [D0.o];rw [<- M2.o,H2.o] at y1;have hL:(bU m).length=k:=by rw [jX];exact F0.o
            have e:(f.cells d C t4).setIfInBounds 6 (V .u64 (f.sq+1))=(f.cells d C t4).setIfInBounds 6 (V .u64 (f.sq+1)):=rfl;have E:=(y1.t00 (sl 179 2 (X ba k bc) k (bK m)*(pt j (Y (((((f.cells d C t4).setIfInBounds 6 (V .u64 (f.sq+1))).setIfInBounds 7 (V R ((f.hd+(k:Int))%(f.P:Int)))).setIfInBounds 8 (V R (f.us+((k:Int)-f.aJ Z.length)))).setIfInBounds 9 (V R (f.aJ Z.length))) 184 (0,0))*(bC C (bW f.P)*(bG t4 (f.fL (bU m) k)*(aD K d D4*(al K*F))))))).right;refine ah.z7 (r:=C) (t:=t4) ?_;unfold Jr.done;rw [hL];exact E
           have S1:=ae p2;have O1:=ae Z1;rw [K2.o] at S1 O1 s9 f9;have g3:(f.P:Int)<=20000:=by have:=I.p1;omega
           have r3:=I.uH;clear f0 l1 Z0 y1 Z1 p2
           go_wp2
           go_ret
           exact ⟨K,o0.trans z1,by rw [D0.o];rfl,S1.o,O1.o⟩
       .have x2:(rc == 0)=Y':=by simpa using k0
        have g:=h0.o;dsimp only at B;rw [if_pos k0] at g;rw [if_neg k0] at B;have D0:=ae g;have E2:=ae B;clear g h0 B k0
        go_wp2
        go_ret
        exact ⟨K,o0.trans z1,by rw [D0.o];rfl,by rw [D0.o];exact (E2.o.t00 (sl 179 2 (X ba u bc) u (bK m)*(nA j d { f with br:=true }*(aD K d D4*(al K*F))))).right,D9⟩
     .have X2:(m0.1.1 == 0)=Y':=by simpa using p0
      have g:=r.o;rw [if_pos p0] at g;obtain ⟨⟨mc,ml⟩,f,mD⟩:=m0;dsimp only at X2 h5 g;have g0:=ae g;clear p0 g r o1 W0 V0 T0 m1 r1 p1
      go_wp2
      go_ret
      exact ⟨H,o0,by rw [g0.o];rfl,by rw [g0.o];exact (h5.t00 ((sl 179 2 v3 l.length (bK l)*mp l0 (fE Z Z.length))*(j9 j d u0 t f*(aD H d mD*(al H*F))))).right.GJ,(d1.trans d2).trans d3⟩
   .have g:=r.o
    rw [if_pos d0] at g;clear r;generalize hR:J.flush D=Y0 at i0 d0 g;have x2:(Y0.1 == 0)=Y':=by simpa using d0
    obtain ⟨rc,J',D'⟩:=Y0;dsimp only at i0 x2 d0;have r:=ae g;clear hR d0 h2 g
    go_wp2_with fail
    (with_reducible apply i0.mono)
    rintro e w2 ⟨rfl,h3,d2⟩;clear i0 u1
    go_wp2
    go_ret
    exact ⟨S,Ext.refl S,by rw [r.o];rfl,by rw [r.o];exact (h3.t00 (mp l0 (fE Z Z.length)*_)).right,d1.trans d2⟩
end Go.Proofs.Nn
namespace Go.SL
open RowKit
variable {α:Type}
def Oy (t:Tg) (k:Nat):(rK t k).length=mF k:=by
 induction k with
 | zero=>rfl
 | succ k c=>rw [mr,D3,c,aT,s4]
def IN (t:Tg) (k:Nat) (f:k<9):∃ rest,enc t=rK t k++(cO (t.field k) (er k)++rest):=by
 obtain ⟨m,c⟩:∃ m,9=k+1+m:=⟨8-k,Q⟩
 unfold enc;rw [c];clear c
 induction m with
 | zero=>exact ⟨[],by rw [Nat.add_zero,mr,List.append_nil]⟩
 | succ m e=>
  obtain ⟨r,d⟩:=e;exact ⟨r++cO (t.field (k+1+m)) (er (k+1+m)),by rw [<- P3,mr,d];simp only [S9]⟩
def Q9 (t:Tg) (b:List UInt8) (k:Nat) (c:k<9):gE ((enc t++b).drop (mF k)) (er k)=t.field k%(256:Int) ^ er k:=by
 obtain ⟨r,d⟩:=IN t k c;rw [d,S9,<- Oy t k,List.drop_left,S9,jR _ _ _ _ (J5 _)]
def Nu {t:Tg} (r:t.Fit) (c:t.ok=true) (b:List UInt8):iX (enc t++b) 9=t:=by
 have h:∀ k,k<9->iX (enc t++b) (k+1)=(iX (enc t++b) k).set (t.field k%(256:Int) ^ er k) k:=fun k s=>by
  rw [iX,Q9 t b k s]
 rw [h 8 Q,h 7 Q,h 6 Q,h 5 Q,h 4 Q,h 3 Q,h 2 Q,h 1 Q,h 0 Q];simp only [Tg.ok,Bool.and_eq_true,decide_eq_true_eq,and_assoc] at c;obtain ⟨u,B,C,E,F,G,H,I,K,w,z⟩:=c;obtain ⟨d,e,f,g,j,l,m,o⟩:=r;obtain ⟨S,st,sq,fl,ix,P,id⟩:=t;simp only at u B C E F G H I K w z d e f g j l m o;simp only [iX,Tg.set,Tg.field,er,JA,Tg.zero,wrap64];congr 1 <;> omega
def tI {t:Tg} (f:t.Fit) (c:t.ok=true) (b:List UInt8):bH (enc t++b)=U (t,b):=by
 have d:=Nu f c b;have e:(enc t++b).drop 32=b:=by rw [<- cV t,List.drop_left]
 unfold bH;rw [d,e,if_pos ⟨c,rfl⟩]
structure aw.Calm (D:aw):Prop where
 down:D.down=false
 eO:D.eO=false
def aw.Calm.cY {D:aw} (h:D.Calm):D.cY=D:=by
 unfold aw.cY;rw [h.eO];simp
def aw.Calm.begun {D:aw} (h:D.Calm):D.begun=D:=by
 unfold aw.begun;rw [h.cY,h.down,h.eO];simp
def aw.Calm.dh {D:aw} (h:D.Calm):D.dh=0:=by
 unfold aw.dh;rw [h.cY,h.down];simp
def aw.Calm.read {D:aw} (h:D.Calm) {a:Int} (c:D.has a):D.read a=(D.aG a,{ D with cr:=bP (D.cr+1) }):=by
 unfold aw.read;rw [if_pos c,if_pos h.dh,h.begun]
def aw.Calm.write {D:aw} (h:D.Calm) {a:Int} (c:D.has a) {l:List UInt8} (d:l.length=512):D.write a l=(0,{ D with cw:=bP (D.cw+1),wait:=D.wait++[(a,l)] }):=by
 unfold aw.write;rw [if_pos ⟨c,d⟩,if_pos h.dh,h.begun]
def aw.Calm.flush {D:aw} (h:D.Calm):D.flush=(0,D.ay):=by
 unfold aw.flush;rw [if_pos h.dh,h.begun]
def qU (D:aw) (l:List (Int × List UInt8)):(D.bY l).down=D.down/\(D.bY l).eO=D.eO/\(D.bY l).cr=D.cr/\(D.bY l).cw=D.cw/\(D.bY l).cf=D.cf/\(D.bY l).left=D.left/\(D.bY l).aH=D.aH/\(D.bY l).wait=D.wait:=by
 unfold aw.bY
 induction l generalizing D with
 | nil=>exact ⟨rfl,rfl,rfl,rfl,rfl,rfl,rfl,rfl⟩
 | cons x l c=>rw [L5];exact c _
def Fk (a:Int):dg [] a=W:=rfl
def gi (l:List (Int × List UInt8)) (x:Int × List UInt8) (a:Int):dg (l++[x]) a=if x.1=a then U x.2 else dg l a:=by
 unfold dg;rw [List.reverse_append,List.reverse_cons,List.reverse_nil,List.nil_append,List.singleton_append,List.find?_cons]
 by_cases h:x.1=a
 .rw [if_pos h];simp [h]
 .rw [if_neg h]
  have:(x.1 == a)=Y':=by simpa using h
  rw [this]
def BA (l:List (Int × List UInt8)) (x:Int × List UInt8) (a:Int):dg (x :: l) a=match dg l a with|some y=>U y|none=>if x.1=a then U x.2 else W:=by
 unfold dg;rw [List.reverse_cons,List.find?_append]
 cases h:l.reverse.find? (fun x=>x.1 == a) with
 | some y=>simp
 | none=>
  by_cases e:x.1=a
  .simp [e]
  .have:(x.1 == a)=Y':=by simpa using e
   simp [e]
def jZ (p:Int × α) (c:List (Int × α)) (y:Int):aA (p :: c) y=if p.1=y then U p.2 else aA c y:=by
 unfold aA;rw [List.find?_cons]
 by_cases h:p.1=y
 .simp [h]
 .have:(p.1 == y)=Y':=by simpa using h
  rw [this,if_neg h]
def C2 (d:List (Int × α)) (x y:Int):aA (del d x) y=if y=x then W else aA d y:=by
 induction d with
 | nil=>simp [del,aA]
 | cons p d f=>
  have e:del (p :: d) x=if p.1=x then del d x else p :: del d x:=by
   unfold del;rw [List.filter_cons]
   by_cases h:p.1=x
   .simp [h]
   .have:(p.1 == x)=Y':=by simpa using h
    simp [this,h]
  rw [e]
  by_cases h:p.1=x
  .rw [if_pos h,f,jZ]
   by_cases c:y=x
   .rw [if_pos c,if_pos c]
   .rw [if_neg c,if_neg c,if_neg (by rw [h];exact fun q=>c q.symm)]
  .rw [if_neg h,jZ,jZ,f]
   by_cases c:p.1=y
   .rw [if_pos c,if_pos c,if_neg (by rw [<- c];exact h)]
   .rw [if_neg c,if_neg c]
def wT (D:aw) (x:Int × List UInt8) (s:D.has x.1) (c:D.wait=[]) (a:Int) (g:D.has a):(D.done x).aG a=if x.1=a then (0,bB 512 x.2) else D.aG a:=by
 have r:=(D.kG x).2.1.trans c;have o:aA (D.done x).jI a=if a=x.1 then W else aA D.jI a:=C2 D.jI x.1 a
 have l:(D.done x).sec=D.sec.set x.1.toNat x.2:=rfl;unfold aw.aG;simp only [r,c,Fk,o,l];obtain ⟨a0,w⟩:=g;obtain ⟨u,z⟩:=s;obtain ⟨k,rfl⟩:=K7 a0;obtain ⟨j,h⟩:=K7 u;rw [h,H3,H3]
 by_cases e:j=k
 .subst e
  rw [if_pos rfl,if_pos rfl];have:j<D.sec.length:=Q
  simp [D6,S8,this]
 .have d:¬ (k:Int)=(j:Int):=Q
  have f:¬ (j:Int)=(k:Int):=Q
  rw [if_neg d,if_neg f];have m:(D.sec.set j x.2).getD k []=D.sec.getD k []:=Gr0
  rw [m]
def Df (D:aw) (x:Int × List UInt8) (a:Int):(D.done x).has a↔D.has a:=by unfold aw.has;rw [(D.kG x).1]
def yf (l:List (Int × List UInt8)):∀ (D:aw),D.wait=[]->(∀ x ∈ l,D.has x.1)->∀ a,D.has a->(D.bY l).aG a=match dg l a with|some y=>(0,bB 512 y)|none=>D.aG a:=by
 induction l with
 | nil=>intro D _ _ a _;rfl
 | cons x l g=>
  intro D e d a c;have f:=g (D.done x) ((D.kG x).2.1.trans e) (fun y hy=>(Df D x _).2 (d y (L4 _ hy))) a ((Df D x a).2 c);show (aw.bY (D.done x) l).aG a=_
  rw [f,BA]
  cases h:dg l a with
  | some y=>rfl
  | none=>
   simp only;rw [wT D x (d x L3) e a c]
   split <;> rfl
def bZ {D:aw} (s:D.Ok) (a:Int) (u:D.has a):D.ay.aG a=D.aG a:=by
 have h:=yf D.wait { D with cf:=bP (D.cf+1),wait:=[] } rfl (fun x w=>s.wait x w) a u
 have e:D.ay=({ D with cf:=bP (D.cf+1),wait:=[] }:aw).bY D.wait:=by
  have:∀ (l:List (Int × List UInt8)) (A B:aw),A.sec=B.sec->A.jI=B.jI->A.cr=B.cr->A.cw=B.cw->A.cf=B.cf->A.down=B.down->A.eO=B.eO->A.left=B.left->A.aH=B.aH->B.wait=[] ->
    ({ l.foldl aw.done A with wait:=[] }:aw)=l.foldl aw.done B:=by
   intro l
   induction l with
   | nil=>
    intro A B c f g h4 h5 j m o r d;obtain ⟨C,F,G,H,I,K,P,S,b9,E⟩:=B;subst c f g h4 h5 j m o r d
    rfl
   | cons x l z=>
    intro A B c f g h4 h5 j m o r d;exact z _ _ (by simp [aw.done,c]) (by simp [aw.done,f]) g h4 h5 j m o r d
  exact this _ _ _ rfl rfl rfl rfl rfl rfl rfl rfl rfl rfl
 rw [e,h];unfold aw.aG
 cases hn:dg D.wait a with
 | some y=>rfl
 | none=>rfl
def iU {D:aw} (h:D.Calm):D.ay.Calm:=by
 have:=qU { D with cf:=bP (D.cf+1) } D.wait;exact ⟨this.1.trans h.down,this.2.1.trans h.eO⟩
def aF (D:aw):D.ay.cr=D.cr/\D.ay.cw=D.cw/\D.ay.cf=bP (D.cf+1)/\D.ay.sec.length=D.sec.length:=by
 have:=qU { D with cf:=bP (D.cf+1) } D.wait;exact ⟨this.2.2.1,this.2.2.2.1,this.2.2.2.2.1,(aw.ub _ _).1⟩
def ui (D:aw) (a:Int) (l:List UInt8) (n:Int) (b:Int):({ D with cw:=n,wait:=D.wait++[(a,l)] }:aw).aG b=if a=b then (0,bB 512 l) else D.aG b:=by
 unfold aw.aG;simp only [gi]
 by_cases h:a=b
 .simp [h]
 .simp [h]
structure Tb.JO (T:Tb):Prop where
 pq:∀ id p,told T.ps id=some p->told T.os p=some id
 qp:∀ id p,told T.os p=some id->told T.ps id=some p
def dq {l:List Int} {i v:Int} (h:told l i=U v):0<=i/\i<l.length/\v ≠ -1:=by
 unfold told at h
 split at h
 .rename_i c
  injection h with h
  exact ⟨c.1,c.2.1,by rw [<- h];exact c.2.2⟩
 .cases h
def told_none {l:List Int} {i:Int} (h:told l i=W) (c:0<=i) (d:i<l.length):l.getD i.toNat 0=-1:=by
 unfold told at h
 split at h
 .cases h
 .rename_i e
  exact Classical.byContradiction fun q=>e ⟨c,d,q⟩
def rR {l:List Int} {i:Int} (f:0<=i) (g:i<l.length) (v x:Int):told (l.set i.toNat v) x=if x=i then (if v=-1 then W else U v) else told l x:=by
 obtain ⟨k,rfl⟩:=K7 f;have m:k<l.length:=Q
 unfold told;rw [List.length_set,H3]
 by_cases d:x=(k:Int)
 .subst d
  rw [if_pos rfl,H3];have e:(l.set k v).getD k 0=v:=by simp [D6,S8,m]
  rw [e]
  by_cases hv:v=-1
  .rw [if_pos hv,if_neg (fun q=>q.2.2 hv)]
  .rw [if_neg hv,if_pos ⟨Q,g,hv⟩]
 .rw [if_neg d]
  by_cases c:0<=x
  .obtain ⟨j,rfl⟩:=K7 c
   rw [H3];have h:k≠j:=Q
   have e:(l.set k v).getD j 0=l.getD j 0:=by simp only [D6,S8];rw [if_neg h]
   rw [e]
  .rw [if_neg (fun q=>c q.1),if_neg (fun q=>c q.1)]
def Tb.CI (T:Tb) (id:Int):(T.drop id).2.ps.length=T.ps.length/\(T.drop id).2.os.length=T.os.length:=by
 unfold Tb.drop
 split <;> simp
section
variable {T:Tb}
def Tb.QK (h:T.JO) (id:Int) (x:Int):told (T.drop id).2.ps x=if x=id then W else told T.ps x:=by
 unfold Tb.drop
 cases c:told T.ps id with
 | none=>
  simp only
  split
  .rename_i e;rw [e,c]
  .rfl
 | some p=>
  have d:=dq c;rw [rR d.1 d.2.1];simp
def Tb.Sc (h:T.JO) (id:Int) (q:Int):told (T.drop id).2.os q=if told T.ps id=U q then W else told T.os q:=by
 unfold Tb.drop
 cases f:told T.ps id with
 | none=>simp
 | some p=>
  have d:=dq (h.pq _ _ f);rw [rR d.1 d.2.1]
  by_cases e:q=p
  .subst e;simp
  .rw [if_neg e,if_neg (by intro c;injection c with c;exact e c.symm)]
def Tb.A0 (h:T.JO) {id p:Int} (c:0<=id) (d:id<T.ps.length) (f:0<=p) (g:p<T.os.length) (l:told T.os p=W) (x:Int) :
  told (T.put id p).2.ps x=if x=id then U p else told T.ps x:=by
 have j:=told_none l f g;unfold Tb.put;rw [if_pos ⟨c,d,f,g,.inl j⟩];rw [rR c (by rw [(Tb.CI T id).1];exact d),T.QK h]
 by_cases e:x=id
 .rw [if_pos e,if_pos e,if_neg Q]
 .rw [if_neg e,if_neg e,if_neg e]
def Tb.AQ (h:T.JO) {id p:Int} (j:0<=id) (l:id<T.ps.length) (c:0<=p) (d:p<T.os.length) (g:told T.os p=W) (q:Int) :
  told (T.put id p).2.os q=if q=p then U id else if told T.ps id=U q then W else told T.os q:=by
 have f:=told_none g c d;unfold Tb.put;rw [if_pos ⟨j,l,c,d,.inl f⟩];rw [rR c (by rw [(Tb.CI T id).2];exact d),T.Sc h]
 by_cases e:q=p
 .rw [if_pos e,if_pos e,if_neg Q]
 .rw [if_neg e,if_neg e]
def Tb.GS (h:T.JO) {id p:Int} (j:0<=id) (l:id<T.ps.length) (m:0<=p) (o:p<T.os.length) (f:told T.os p=W):(T.put id p).2.JO:=by
 constructor
 .intro x q c
  rw [Tb.A0 h j l m o f] at c;rw [Tb.AQ h j l m o f]
  by_cases e:x=id
  .rw [if_pos e] at c;injection c with c
   rw [if_pos c.symm,e]
  .rw [if_neg e] at c
   have d:=h.pq _ _ c;have s:q≠p:=by rintro rfl;rw [f] at d;cases d
   rw [if_neg s]
   have g:told T.ps id≠U q:=by
    intro r;have h4:=h.pq _ _ r;rw [d] at h4;injection h4 with h4;exact e h4
   rw [if_neg g,d]
 .intro x q c
  rw [Tb.AQ h j l m o f] at c;rw [Tb.A0 h j l m o f]
  by_cases e:q=p
  .rw [if_pos e] at c;injection c with c
   rw [if_pos c.symm,e]
  .rw [if_neg e] at c
   split at c
   .cases c
   .rename_i d
    have g:=h.qp _ _ c;have:x≠id:=by rintro rfl;exact d g
    rw [if_neg this,g]
end
def Tb.gp (b p:Nat) (i:Int):told (Tb.fresh b p).ps i=W/\told (Tb.fresh b p).os i=W:=by
 constructor
 .unfold told
  rw [if_neg];rintro ⟨e,c,d⟩;apply d;simp only [Tb.fresh,T4] at c;have:i.toNat<b:=Q
  simp [Tb.fresh,D6,U6,this]
 .unfold told
  rw [if_neg];rintro ⟨e,c,d⟩;apply d;simp only [Tb.fresh,T4] at c;have:i.toNat<p:=Q
  simp [Tb.fresh,D6,U6,this]
def Tb.y9 (b p:Nat):(Tb.fresh b p).JO:=
 ⟨fun i q h=>(by rw [(Tb.gp b p i).1] at h;cases h),fun i q h=>(by rw [(Tb.gp b p q).2] at h;cases h)⟩
def gY {a b P:Int} (d:b<a) (e:a<b+P):a%P≠b%P:=by
 intro h;have:=Int.emod_emod_of_dvd a (Int.dvd_refl P);have c:=Int.emod_eq_emod_iff_emod_sub_eq_zero.1 h;rw [S7 Q Q] at c;omega
structure Wx (J:Jr) (L:Bl) (k:Nat):Prop where
 qE:(J.fL L k).JO
 ps:∀ x,told (J.fL L k).ps x=match (L.take k).findIdx? (fun y=>y.1 == x) with|some i=>some ((J.hd+(i:Int))%(J.P:Int))|none=>told J.T.ps x
 os:∀ q x,told (J.fL L k).os q=some x->(∃ i:Nat,i<k/\q=(J.hd+(i:Int))%(J.P:Int)/\(L.getD i (0,[])).1=x)\/(told J.T.os q=some x/\x ∉ (L.take k).map B3)
def AN (l:List α) (a:α) (f:α->Bool):(l++[a]).findIdx? f=match l.findIdx? f with|some i=>U i|none=>if f a then U l.length else W:=Gr0
def eW {L:Bl} {x:Int}:L.findIdx? (fun y=>y.1 == x)=W↔x ∉ L.map B3:=Gr0
def JN (L:List α) (k:Nat) (d:α) (h:k<L.length):L.take (k+1)=L.take k++[L.getD k d]:=Sa0
def W9 (J:Jr) (u:J.Ok) (S:J.T.JO) (L:Bl) (c0:∀ x ∈ L,0<=x.1/\x.1<J.n) (e0:(L.map B3).Nodup) (i0:(L.length:Int)<=J.P)
  (b0:∀ i:Nat,i<L.length->told J.T.os ((J.hd+(i:Int))%(J.P:Int))=W):∀ k,k<=L.length->Wx J L k:=by
 have hps:=u.ps;have g0:=u.os;intro k
 induction k with
 | zero=>
  intro _;exact ⟨S,fun x=>rfl,fun q x h=>.inr ⟨h,Si0⟩⟩
 | succ k ih=>
  intro hk;obtain ⟨d,F,s⟩:=ih Q;have f:k<L.length:=Q
  have hm:L.getD k (0,[]) ∈ L:=by rw [D6,E5 f];exact J7 _
  obtain ⟨l,i1⟩:=c0 _ hm;have j:=JN L k (0,[]) f;have h0:J.fL L (k+1)=((J.fL L k).put (L.getD k (0,[])).1 ((J.hd+(k:Int))%(J.P:Int))).2:=rfl;have z:=J.wX L k;have o:0<=(J.hd+(k:Int))%(J.P:Int):=J4 _ Q;have r:(J.hd+(k:Int))%(J.P:Int)<(J.fL L k).os.length:=by rw [z.2,g0];exact S6 _ Q
  have g:told (J.fL L k).os ((J.hd+(k:Int))%(J.P:Int))=W:=by
   cases h:told (J.fL L k).os ((J.hd+(k:Int))%(J.P:Int)) with
   | none=>rfl
   | some x=>
    rcases s _ _ h with ⟨i,hi,e,_⟩|⟨e,_⟩
    .exact absurd e (gY Q Q)
    .rw [b0 k f] at e;cases e
  have m:(L.getD k (0,[])).1<((J.fL L k).ps.length:Int):=by rw [z.1,hps];exact i1
  have f0:(L.getD k (0,[])).1 ∉ (L.take k).map B3:=by
   intro c;have B:((L.take (k+1)).map B3).Nodup:=e0.sublist ((List.take_sublist _ _).map _);rw [j,E4,J3] at B;exact B.2.2 _ c _ Si0 rfl
  have E:=Tb.A0 d l m o r g;have C:=Tb.AQ d l m o r g;have w:=Tb.GS d l m o r g;rw [<- h0] at E C w;refine ⟨w,fun x=>?_,fun q x c=>?_⟩
  .rw [E,j,AN,F]
   have d0:(L.take k).length=k:=by rw [List.length_take];omega
   by_cases e:x=(L.getD k (0,[])).1
   .rw [if_pos e,e,eW.2 f0]
    simp [d0]
   .rw [if_neg e]
    cases hf:(L.take k).findIdx? (fun y=>y.1 == x) with
    | some i=>rfl
    | none=>
     have:((L.getD k (0,[])).1 == x)=Y':=by simp only [beq_eq_false_iff_ne,ne_eq];exact fun q=>e q.symm
     rw [this];rfl
  .rw [C] at c
   by_cases e:q=(J.hd+(k:Int))%(J.P:Int)
   .rw [if_pos e] at c
    injection c with c
    exact .inl ⟨k,Q,e,c⟩
   .rw [if_neg e] at c
    split at c
    .cases c
    .rename_i I
     rcases s _ _ c with ⟨i,hi,G,H⟩|⟨K,P⟩
     .exact .inl ⟨i,Q,G,H⟩
     .refine .inr ⟨K,?_⟩
      rw [j,E4,S5];rintro (h4|h4)
      .exact P h4
      .simp only [List.map_cons,List.map_nil,List.mem_singleton] at h4
       exact I (by rw [<- h4];exact d.qp _ _ c)
end Go.SL
namespace Go.Proofs.Nn
open RowKit SL
abbrev Has:=Int->Option (List UInt8)
structure dp (J:Jr) (D:aw) (has:Has):Prop where
 ok:J.Ok
 nums:J.Kk
 pH:D.Ok
 br:J.br=false
 calm:D.Calm
 sec:(J.P:Int)+1<=D.sec.length
 qE:J.T.JO
 rm:J.us+J.fr<=J.P
 win:∀ p id,told J.T.os p=some id->∃ a:Int,J.hd-J.us<=a/\a<J.hd/\p=a%(J.P:Int)
 ti:∀ id p,told J.T.ps id=some p->∃ t b,has id=some b/\b.length=480/\D.aG (p+1)=(0,enc t++b)/\t.id=id/\t.ok=true/\t.Fit
 Qt:∀ id,told J.T.ps id=none->has id=none
def dp.place {J:Jr} {D:aw} {has:Has} (h:dp J D has) {id p:Int} (c:told J.T.ps id=U p):0<=p/\p<J.P:=by
 have:=dq (h.qE.pq _ _ c);have e:=h.ok.os;exact ⟨this.1,by have:=this.2.1;omega⟩
def dp.xt {J:Jr} {D:aw} {has:Has} (h:dp J D has) {id p:Int} (c:told J.T.ps id=U p):D.has (p+1):=by
 have:=h.place c;have:=h.sec;exact ⟨Q,Q⟩
def dp.dev {J:Jr} {D D':aw} {has:Has} (h:dp J D has) (l:D'.Ok) (g:D'.Calm) (j:D'.sec.length=D.sec.length) (m:∀ a,D.has a->D'.aG a=D.aG a):dp J D' has:=
 ⟨h.ok,h.nums,l,h.br,g,by rw [j];exact h.sec,h.qE,h.rm,h.win,fun id p c=>by
  obtain ⟨t,b,d,e,f,h4⟩:=h.ti id p c;exact ⟨t,b,d,e,by rw [m _ (h.xt c)];exact f,h4⟩,h.Qt⟩
def Ob (D:aw) (r:Int) (a:Int):({ D with cr:=r }:aw).aG a=D.aG a:=rfl
def uG {D:aw} (h:D.Calm) (r:Int):({ D with cr:=r }:aw).Calm:=⟨h.down,h.eO⟩
def Oi {D:aw} (h:D.Ok) (r:Int):({ D with cr:=r }:aw).Ok:=⟨h.n,h.wait,h.many,h.aH⟩
def dp.cr {J:Jr} {D:aw} {has:Has} (h:dp J D has) (r:Int):dp J { D with cr:=r } has:=
 h.dev (Oi h.pH r) (uG h.calm r) rfl fun _ _=>rfl
def Ry {J:Jr} {D D':aw} {id p:Int} {l b:List UInt8} {t:Tg} (e:D.read (p%(J.P:Int)+1)=((0,l),D')) (c:bH l=U (t,b)) (d:t.id=id):J.load D id p=((0,b),J,D'):=by
 unfold Jr.load;simp only [e,c,d,if_true]
def dp.load {J:Jr} {D:aw} {has:Has} (h:dp J D has) {id p:Int} (c:told J.T.ps id=U p):J.load D id p=((0,(has id).getD (zs 480)),J,{ D with cr:=bP (D.cr+1) }):=by
 obtain ⟨t,b,e,o,f,h4,h5,g⟩:=h.ti id p c;obtain ⟨l,m⟩:=h.place c;have j:=S7 l m;have d:=h.calm.read (h.xt c);rw [f] at d;rw [e];exact Ry (by rw [j];exact d) (tI g h5 b) h4
def dp.read {J:Jr} {D:aw} {has:Has} (h:dp J D has) {id:Int} (d:0<=id) (h1:id<J.n) :
  J.read D id=((0,(has id).getD (zs 480)),J,if (told J.T.ps id).isSome then { D with cr:=bP (D.cr+1) } else D):=by
 unfold Jr.read;rw [if_neg Q,h.br,if_neg Si0]
 cases c:told J.T.ps id with
 | none=>simp [h.Qt id c]
 | some p=>simp only [T5,if_true];exact h.load c
def dp.flush {J:Jr} {D:aw} {has:Has} (h:dp J D has):J.flush D=(0,J,D.ay):=by
 unfold Jr.flush;rw [h.br,if_neg Si0,h.calm.flush];simp
def dp.ay {J:Jr} {D:aw} {has:Has} (h:dp J D has):dp J D.ay has:=by
 have c:=aw.iA h.pH;rw [h.calm.flush] at c;exact h.dev (c.ok h.pH (by have:=h.pH.many;omega)) (iU h.calm) (aF D).2.2.2 fun a d=>bZ h.pH a d
def df (c:Int):Nat->Int
 | 0=>c
 | k+1=>bP (df c k+1)
def Cn (c:Int) (k:Nat):df (bP (c+1)) k=df c (k+1):=by
 induction k with
 | zero=>rfl
 | succ k d=>rw [df,d];rfl
def A7 (has:Has) (own:KV) (c:List (Int × Int)):Bl:=(c.filter fun x => !(aA own x.1).isSome).map fun x=>(x.1,(has x.1).getD (zs 480))
def E9 {J:Jr} {D:aw} {has:Has} (h:dp J D has) (own:KV) (c:List (Int × Int)) (e:∀ x ∈ c,told J.T.ps x.1=U x.2) :
  J.bQ D own c=((0,A7 has own c),J,{ D with cr:=df D.cr (A7 has own c).length }):=by
 have:∀ (c:List (Int × Int)),(∀ x ∈ c,told J.T.ps x.1=U x.2)->∀ (d:Bl) (r:Int),c.foldl (Jr.cK own) ((0,d),J,{ D with cr:=r })=((0,d++A7 has own c),J,{ D with cr:=df r (A7 has own c).length }):=by
  intro c
  induction c with
  | nil=>intro _ d r;simp [A7,df]
  | cons x c m=>
   intro e d r;rw [L5];have s:=e x L3;have l:=fun y hy=>e y (L4 _ hy)
   cases f:aA own x.1 with
   | some v=>
    have g:Jr.cK own ((0,d),J,{ D with cr:=r }) x=((0,d),J,{ D with cr:=r }):=by
     unfold Jr.cK;simp [f]
    have j:A7 has own (x :: c)=A7 has own c:=by simp [A7,f]
    rw [g,j];exact m l d r
   | none=>
    have o:=(h.cr r).load s
    have g:Jr.cK own ((0,d),J,{ D with cr:=r }) x=((0,d++[(x.1,(has x.1).getD (zs 480))]),J,{ D with cr:=bP (r+1) }):=by
     unfold Jr.cK;simp only [f];rw [o];simp
    have j:A7 has own (x :: c)=(x.1,(has x.1).getD (zs 480)) :: A7 has own c:=by simp [A7,f]
    rw [g,j,m l,Cn,K9];simp
 exact this c e [] D.cr
def lr {T:Tb} {P first k:Nat} {x:Int × Int} (h:x ∈ bO T P first k):∃ i,i<k/\x.2=(((first+i)%P:Nat):Int)/\told T.os x.2=U x.1:=by
 obtain ⟨p,f,c⟩:=List.mem_filterMap.1 h;obtain ⟨i,e,rfl⟩:=List.mem_map.1 f
 cases d:told T.os (((first+i)%P:Nat):Int) with
 | none=>rw [d] at c;cases c
 | some id=>
  rw [d] at c;injection c with c
  rw [<- c];exact ⟨i,List.mem_range.1 e,rfl,d⟩
def CH {T:Tb} {P first k i:Nat} {id:Int} (c:i<k) (h:told T.os (((first+i)%P:Nat):Int)=U id):(id,(((first+i)%P:Nat):Int)) ∈ bO T P first k:=by
 refine List.mem_filterMap.2 ⟨(first+i)%P,List.mem_map.2 ⟨i,List.mem_range.2 c,rfl⟩,?_⟩;rw [h];rfl
def lF {T:Tb} (d:T.JO) {P first:Nat}:∀ k,k<=P->((bO T P first k).map B3).Nodup:=by
 intro k
 induction k with
 | zero=>intro _;simp [bO]
 | succ k e=>
  intro r;rw [rp]
  cases l:told T.os (((first+k)%P:Nat):Int) with
  | none=>simp only [List.append_nil];exact e Q
  | some id=>
   simp only [E4,List.map_cons,List.map_nil];rw [J3];refine ⟨e Q,Si0,?_⟩;intro a h b j;rw [List.mem_singleton.1 j];rintro rfl;obtain ⟨x,m,rfl⟩:=List.mem_map.1 h;obtain ⟨i,o,f,g⟩:=lr m;have c:=d.qp _ _ g;rw [d.qp _ _ l] at c;injection c with c
   rw [f] at c;have:=gY (a:=((first+k:Nat):Int)) (b:=((first+i:Nat):Int)) (P:=(P:Int)) Q Q;exact this (by exact_mod_cast c)
structure YJ (J:Jr) (D:aw) (Z:List Wr) (k:Nat) (D':aw):Prop where
 run:J.bg D Z k=(0,D')
 calm:D'.Calm
 sec:D'.sec.length=D.sec.length
 cr:D'.cr=D.cr
 cf:D'.cf=D.cf
 cw:D'.cw=df D.cw k
 new:∀ i:Nat,i<k->D'.aG ((J.hd+(i:Int))%(J.P:Int)+1)=(0,enc (J.tag i Z.length (Z.getD i Wr.nil).1)++(Z.getD i Wr.nil).2.2)
 nu:∀ a,(∀ i:Nat,i<k->a≠(J.hd+(i:Int))%(J.P:Int)+1)->D'.aG a=D.aG a
def YC (J:Jr) (D:aw) (P:0<J.P) (r:D.Calm) (hs:(J.P:Int)+1<=D.sec.length) (Z:List Wr) (o:∀ z ∈ Z,z.2.2.length=480) (S:(Z.length:Int)<=J.P):∀ k,k<=Z.length->∃ D',YJ J D Z k D':=by
  intro k
  induction k with
  | zero=>intro _;exact ⟨D,rfl,r,rfl,rfl,rfl,rfl,fun i c=>absurd c (Nat.not_lt_zero i),fun _ _=>rfl⟩
  | succ k C=>
    intro hk;obtain ⟨D',w⟩:=C Q;obtain ⟨E,g,m,F,G,H,I,K⟩:=w;have u:Z.getD k Wr.nil ∈ Z:=by rw [D6,E5 Q];exact J7 _
    have l:(enc (J.tag k Z.length (Z.getD k Wr.nil).1)++(Z.getD k Wr.nil).2.2).length=512:=by rw [D3,cV,o _ u]
    have c0:0<=(J.hd+(k:Int))%(J.P:Int):=J4 _ Q;have d0:(J.hd+(k:Int))%(J.P:Int)<J.P:=S6 _ Q;have s:D'.has ((J.hd+(k:Int))%(J.P:Int)+1):=⟨Q,by rw [m];omega⟩
    have B:=g.write s l
    have f:J.bg D Z (k+1)=if (J.bg D Z k).1=0 then
        (let h:=(J.bg D Z k).2.write ((J.hd+(k:Int))%(J.P:Int)+1) (enc (J.tag k Z.length (Z.getD k Wr.nil).1)++(Z.getD k Wr.nil).2.2)
         (if h.1=0 then 0 else 2,h.2)) else J.bg D Z k:=rfl
    rw [E] at f;rw [B] at f;refine ⟨_,f,⟨g.down,g.eO⟩,m,F,G,by show bP (D'.cw+1)=_;rw [H];rfl,?_,?_⟩
    · intro i c
      rw [ui];rcases Nat.lt_or_eq_of_le (Nat.lt_succ_iff.1 c) with d|d
      · have b0:(J.hd+(k:Int))%(J.P:Int)≠(J.hd+(i:Int))%(J.P:Int):=gY Q Q
        rw [if_neg Q];exact I i d
      · subst d
        rw [if_pos rfl,ia l]
    · intro a j
      rw [ui,if_neg (fun e=>j k Q e.symm)];exact K a fun i c=>j i Q
def kR (has:Has) (L:Bl):Has:=fun id=>(aA L id).or (has id)
structure Batch (n:Int) (L:Bl):Prop where
 n0:1<=L.length
 n1:L.length<=24
 id:∀ x ∈ L,0<=x.1/\x.1<n
 UA:∀ x ∈ L,x.2.length=480
 nd:(L.map B3).Nodup
def Cz (L:Bl):KV:=fE (eQ L) L.length
def O3 (L:Bl) (id:Int):(aA (Cz L) id).isSome=decide (id ∈ L.map B3):=by
 have c:(eQ L).length=L.length:=by simp [eQ]
 rw [Cz,zo Q];congr 1
 have:((eQ L).take L.length).map B3=L.map B3:=by
  rw [<- c,K6];unfold eQ;rw [L6];rfl
 rw [this]
def aS (J:Jr) (has:Has) (L:Bl):Bl:=A7 has (Cz L) (bO J.T J.P (Jr.tail J) (J.aJ L.length).toNat)
def Bo {J:Jr} (c:J.Ok) (i:Nat):(((Jr.tail J+i)%J.P:Nat):Int)=(J.hd-J.us+(i:Int))%(J.P:Int):=by
 have d:=c.p0;unfold Jr.tail;rw [Int.natCast_emod,S4,K8 (J4 _ Q),Int.emod_add_emod]
def Bc {L:Bl} {x:Int} {i:Nat} (h:L.findIdx? (fun y=>y.1 == x)=U i):i<L.length/\(L.getD i (0,[])).1=x/\aA L x=U (L.getD i (0,[])).2:=by
 rw [List.findIdx?_eq_some_iff_getElem] at h;obtain ⟨c,d,f⟩:=h;have e:L.getD i (0,[])=L[i]:=by rw [D6,E5 c];rfl
 refine ⟨c,by rw [e];simpa using d,?_⟩;rw [e];have g:L.find? (fun p=>p.1 == x)=U L[i]:=List.find?_eq_some_iff_getElem.2 ⟨d,i,c,rfl,fun j l=>by simpa using f j l⟩;unfold aA;rw [g]
 rfl
def C0 {c:Type} (A B:List (Int × c)) (x:Int):aA (A++B) x=(aA A x).or (aA B x):=by
 unfold aA;rw [List.find?_append];cases A.find? (fun p=>p.1 == x) <;> rfl
def QE {J:Jr} {D:aw} {has:Has} (h:dp J D has) (own:KV) (d:List (Int × Int)) (l:∀ x ∈ d,told J.T.ps x.1=U x.2) (id:Int) (b:List UInt8) (m:aA (A7 has own d) id=U b):has id=U b:=by
 have o:=nH m;obtain ⟨x,r,e⟩:=List.mem_map.1 o;have s:=(List.mem_filter.1 r).1;obtain ⟨t,c,g,_⟩:=h.ti _ _ (l x s);injection e with j f
 rw [<- j,g];rw [g] at f;rw [<- f];rfl
def xg {J:Jr} {D:aw} {has:Has} (h:dp J D has) (own:KV) (d:List (Int × Int)) (e:∀ x ∈ d,told J.T.ps x.1=U x.2):∀ x ∈ A7 has own d,x.2.length=480/\0<=x.1/\x.1<J.n:=by
 intro y hy;obtain ⟨x,m,rfl⟩:=List.mem_map.1 hy;have f:=(List.mem_filter.1 m).1;obtain ⟨t,c,g,j,_⟩:=h.ti _ _ (e x f);have l:=dq (e x f);have:=h.ok.ps;exact ⟨by simp only [g,K3];exact j,l.1,by show x.1<J.n;omega⟩
def Gv (has:Has) (L:Bl) (c:List (Int × Int)):(A7 has (Cz L) c).map B3=(c.map B3).filter fun id=>decide (id ∉ L.map B3):=by
 unfold A7;rw [L6,List.filter_map];congr 1;congr 1;funext x;simp only [Function.comp,O3];simp
structure Tf (J:Jr) (D:aw) (has:Has) (L:Bl) (D':aw):Prop where
 run:dJ J D true L=(0,J.done (L++aS J has L) (J.aJ L.length),D')
 inv:dp (J.done (L++aS J has L) (J.aJ L.length)) D' (kR has L)
 cr:D'.cr=df D.cr (aS J has L).length
 cw:D'.cw=df D.cw (L.length+(aS J has L).length)
 cf:D'.cf=bP (D.cf+1)
def td {J:Jr} {D:aw} {has:Has} (h:dp J D has) (k:Nat):∀ x ∈ bO J.T J.P (Jr.tail J) k,told J.T.ps x.1=U x.2:=by
 intro x d;obtain ⟨_,_,_,c⟩:=lr d;exact h.qE.qp _ _ c
def tu {J:Jr} {D:aw} {has:Has} (h:dp J D has) (L:Bl):eP J D L=((0,aS J has L),J,{ D with cr:=df D.cr (aS J has L).length }):=
 E9 h (Cz L) _ (td h _)
def rG (J:Jr) (has:Has) (L:Bl) (c:0<=J.us):((aS J has L).length:Int)<=J.aJ L.length:=by
 have d:(aS J has L).length<=(J.aJ L.length).toNat:=by
  unfold aS A7;rw [G3];exact Nat.le_trans (W6 _ _) (lh _ _ _ _)
 have:=(Jr.eI c L.length).1;omega
def Dn {J:Jr} {D:aw} {has:Has} (h:dp J D has) {L:Bl} (s:Batch J.n L) (G0:J.sq<281474976710655) (d:¬ (J.P:Int)-J.us-J.fr<((L++aS J has L).length:Int)) :
  ∃ D',Tf J D has L D':=by
 have hm:=tu h.ay L;have m:=h.ay;have hc:=Jr.eI h.ok.uH L.length;have R0:=rG J has L h.ok.uH;have hX:=td h (J.aJ L.length).toNat;have E:(aS J has L).map B3=((bO J.T J.P (Jr.tail J) (J.aJ L.length).toNat).map B3).filter fun id=>decide (id ∉ L.map B3):=Gv has L _;have u0:∀ id b,aA (aS J has L) id=U b->has id=U b:=fun id b hk=>QE h (Cz L) _ hX id b hk;have q0:∀ x ∈ aS J has L,x.2.length=480/\0<=x.1/\x.1<J.n:=xg h (Cz L) _ hX;have Y0:=h.ok.uH;have Z0:=h.ok.LV;have N0:=h.ok.SX;have V0:=h.ok.p0;have S0:=s.n1;generalize r:aS J has L=l at *;obtain ⟨A,g⟩:∃ A,A=L++l:=⟨_,rfl⟩
 have k0:A.length=L.length+l.length:=by rw [g,D3]
 rw [<- g] at d
 have C:∀ x ∈ A,x.2.length=480/\0<=x.1/\x.1<J.n:=by
  intro x f;rw [g] at f;rcases List.mem_append.1 f with f|f
  .exact ⟨s.UA x f,s.id x f⟩
  .exact q0 x f
 have l0:(A.map B3).Nodup:=by
  rw [g,E4,J3];refine ⟨s.nd,?_,?_⟩
  .rw [E]
   exact (lF h.qE _ Q).filter _
  .intro a ha b b0 e
   rw [E] at b0;have:=(List.mem_filter.1 b0).2;rw [<- e] at this;simp only [decide_eq_true_eq] at this;exact this ha
 have P:(A.length:Int)<=J.P:=Q
 have L0:(A.length:Int)+J.us<=J.P:=Q
 have m0:∀ i:Nat,i<A.length->told J.T.os ((J.hd+(i:Int))%(J.P:Int))=W:=by
  intro i j
  cases F:told J.T.os ((J.hd+(i:Int))%(J.P:Int)) with
  | none=>rfl
  | some id=>
   obtain ⟨a,z,B,a3⟩:=h.win _ _ F;exact absurd a3 (gY Q Q)
 have D0:=W9 J h.ok h.qE A (fun x f=>(C x f).2) l0 P m0 A.length (J5 _);obtain ⟨p1,I,p3⟩:=D0;rw [K6] at I;have G:(eQ A).length=A.length:=by simp [eQ]
 have H0:∀ i0 ∈ eQ A,i0.2.2.length=480:=by
  intro i0 hz;obtain ⟨x,f,rfl⟩:=List.mem_map.1 hz;exact (C x f).1
 have f0:(J.P:Int)+1<=D.ay.sec.length:=m.sec;obtain ⟨D',K0⟩:=YC J { D.ay with cr:=df D.ay.cr l.length } h.ok.p0 (uG m.calm _) f0 (eQ A) H0 (by rw [G];exact P) A.length (by rw [G];exact J5 _);have h0:=Jr.qW J (Oi m.pH (df D.ay.cr l.length)) (eQ A) A.length (by show D.ay.wait.length+A.length<=1000000;have:D.ay.wait=[]:=rfl;rw [this];simp only [E3];have:=h.ok.p1;omega);obtain ⟨w1,w2,w3,w4,w5,w6,w7,w8⟩:=K0;rw [w1] at h0
 have F0:dJ J D true L=(0,J.done A (J.aJ L.length),D'):=by
  unfold dJ;rw [if_neg Si0,if_neg Q,h.flush,if_neg Si0];unfold qI;rw [hm,<- g,if_neg Si0,if_neg d,w1,if_neg Si0]
 have e0:=J.wX A A.length;have W0:J.hd%(J.P:Int)=J.hd:=S7 h.ok.Bf h.ok.xL
 have x0:∀ i:Nat,i<A.length->D'.aG ((J.hd+(i:Int))%(J.P:Int)+1)=(0,enc (J.tag i A.length (A.getD i (0,[])).1)++(A.getD i (0,[])).2):=by
  intro i j;have:=w7 i j;rw [G,(ea _ _).1,(ea _ _).2,kB] at this;exact this
 have d0:=h.nums.numbers G0
 have w:∃ q:Int,(J.done A (J.aJ L.length)).hd=J.hd+(A.length:Int)-(J.P:Int)*q:=⟨(J.hd+(A.length:Int))/(J.P:Int),by
  show (J.hd+(A.length:Int))%(J.P:Int)=_
  have:=W4 (J.hd+(A.length:Int)) (J.P:Int);omega⟩
 obtain ⟨q,w⟩:=w
 have c0:∀ a:Int,J.hd-J.us+J.aJ L.length<=a->a<J.hd+(A.length:Int)->∃ b:Int,(J.done A (J.aJ L.length)).hd-(J.done A (J.aJ L.length)).us<=b/\b<(J.done A (J.aJ L.length)).hd/\a%(J.P:Int)=b%(J.P:Int):=by
  intro a z B;have e:(J.done A (J.aJ L.length)).us=J.us+((A.length:Int)-J.aJ L.length):=rfl;refine ⟨a-(J.P:Int)*q,by rw [w,e];omega,by rw [w];omega,?_⟩;rw [X9]
 refine ⟨D',by rw [r,<- g];exact F0,?_,?_,?_,?_⟩
 .rw [r,<- g]
  refine ⟨?_,?_,?_,h.br,w2,?_,p1,?_,?_,?_,?_⟩
  .exact ⟨h.ok.p0,h.ok.p1,Gz h.ok.T A A.length,by show ((J.fL A A.length).ps.length:Int)=J.n;rw [e0.1];exact h.ok.ps,by show (J.fL A A.length).os.length=J.P;rw [e0.2];exact h.ok.os,
    by show 0<=J.us+((A.length:Int)-J.aJ L.length);omega,by show J.us+((A.length:Int)-J.aJ L.length)<=(J.P:Int);omega,
    J4 _ Q,S6 _ Q,by show 0<=J.aJ L.length;omega,by show J.aJ L.length<=48;omega⟩
  .exact ⟨h.nums.Mj,h.nums.Vz,h.nums.Tp,by show J.st<=J.sq+1+1;have:=h.nums.bS;omega,by show 0<=J.sq+1;have:=h.nums.Qg;omega,by show J.sq+1<=281474976710655;omega,h.nums.n1,Jr.Lw h.nums.own A A.length⟩
  .exact h0.ok (Oi m.pH _) (by show D.ay.wait.length+A.length<=1000000;have:D.ay.wait=[]:=rfl;rw [this];simp only [E3];have:=h.ok.p1;omega)
  .rw [w3];exact f0
  .show J.us+((A.length:Int)-J.aJ L.length)+J.aJ L.length<=(J.P:Int);omega
  .intro p id o
   rcases p3 p id o with ⟨i,j,e,_⟩|⟨K,h2⟩
   .rw [e];exact c0 _ Q Q
   .obtain ⟨a,z,B,a3⟩:=h.win p id K
    rw [a3];refine c0 a ?_ Q;refine Classical.byContradiction fun p0=>?_;have p0:a<J.hd-J.us+J.aJ L.length:=Q
    apply h2;rw [K6];obtain ⟨i,j⟩:∃ i:Nat,a=J.hd-J.us+(i:Int):=⟨(a-(J.hd-J.us)).toNat,Q⟩
    have F:told J.T.os (((Jr.tail J+i)%J.P:Nat):Int)=U id:=by rw [Bo h.ok,<- j,<- a3];exact K
    have s0:=CH (T:=J.T) (P:=J.P) (first:=Jr.tail J) (k:=(J.aJ L.length).toNat) (i:=i) Q F;rw [g,E4,S5]
    by_cases S:id ∈ L.map B3
    .exact .inl S
    .right
     rw [E];exact List.mem_filter.2 ⟨List.mem_map.2 ⟨_,s0,rfl⟩,by simpa using S⟩
  .intro id p o
   have c:told (J.fL A A.length).ps id=U p:=o;rw [I] at c
   have g0:kR has L id=(aA A id).or (has id):=by
    rw [g,C0];unfold kR
    cases hk:aA L id with
    | some b=>rfl
    | none=>
     cases o0:aA l id with
     | none=>rfl
     | some b=>simp [u0 id b o0]
   cases d:A.findIdx? (fun y=>y.1 == id) with
   | some i=>
    rw [d] at c;injection c with c
    obtain ⟨H,i2,i3⟩:=Bc d;have r0:A.getD i (0,[]) ∈ A:=by rw [D6,E5 H];exact J7 _
    obtain ⟨b1,b2,b3⟩:=C _ r0;have T0:=h.nums.n1;refine ⟨J.tag i A.length (A.getD i (0,[])).1,(A.getD i (0,[])).2,by rw [g0,i3];rfl,b1,by rw [<- c];exact x0 i H,by show (A.getD i (0,[])).1=id;exact i2,?_,Jr.uX d0 _ _ _⟩;exact Jr.F8 d0 H Q b2 Q
   | none=>
    rw [d] at c;simp only at c;obtain ⟨t,b,t1,t2,t3,t4⟩:=m.ti id p c;have u:=eW.1 d;refine ⟨t,b,by rw [g0,eD.2 u];exact t1,t2,?_,t4⟩;rw [w8 (p+1),Ob]
    .exact t3
    .intro i j
     obtain ⟨a,z,B,a3⟩:=h.win p id (h.qE.pq _ _ c);have:(J.hd+(i:Int))%(J.P:Int)≠p:=by rw [a3];exact gY Q Q
     omega
  .intro id o
   have c:told (J.fL A A.length).ps id=W:=o;rw [I] at c
   cases d:A.findIdx? (fun y=>y.1 == id) with
   | some i=>rw [d] at c;cases c
   | none=>
    rw [d] at c;have u:=eW.1 d;rw [g,E4,S5] at u;unfold kR;rw [eD.2 (fun q=>u (.inl q)),h.Qt id c]
    rfl
 .rw [r,w4]
  show df D.ay.cr _=_
  rw [(aF D).1]
 .rw [r,w6,<- k0]
  show df D.ay.cw _=_
  rw [(aF D).2.1]
 .rw [w5]
  exact (aF D).2.2.1
def kM (T:Tb) (P first k:Nat):Nat:=(bO T P first k).length
def sT (T:Tb) (P first k:Nat):kM T P first (k+1)=kM T P first k+(if (told T.os (((first+k)%P:Nat):Int)).isSome then 1 else 0):=by
 unfold kM;rw [rp,D3];cases told T.os (((first+k)%P:Nat):Int) <;> simp
def rC (T:Tb) (P first k:Nat):kM T P first k<=k:=lh _ _ _ _
def jG (J:Jr):Prop:=∀ k:Nat,(k:Int)<=J.us->2*J.us-(k:Int)+2*(kM J.T J.P (Jr.tail J) k:Int)<=5*J.n
def tB {l:List Int} {n:Nat} (h:l.Nodup) (d:∀ x ∈ l,0<=x/\x<n):l.length<=n:=by
 have:=kC (m:=(List.range n).map fun i:Nat=>(i:Int)) h fun x e=>by
  obtain ⟨c,f⟩:=d x e;exact List.mem_map.2 ⟨x.toNat,List.mem_range.2 Q,K8 c⟩
 simpa using this
structure XL (J:Jr) (L A:Bl):Prop where
 b:∀ x ∈ A,x.2.length=480/\0<=x.1/\x.1<J.n
 nd:(A.map B3).Nodup
def Fv {J:Jr} {D:aw} {has:Has} (h:dp J D has) {L:Bl} (d:Batch J.n L):XL J L (L++aS J has L):=by
 have o:=Jr.eI h.ok.uH L.length;have j:=td h (J.aJ L.length).toNat;have g:(aS J has L).map B3=((bO J.T J.P (Jr.tail J) (J.aJ L.length).toNat).map B3).filter fun id=>decide (id ∉ L.map B3):=Gv has L _;have m:=xg h (Cz L) _ j;have r:=h.ok.LV;refine ⟨?_,?_⟩
 .intro x c
  rcases List.mem_append.1 c with c|c
  .exact ⟨d.UA x c,d.id x c⟩
  .exact m x c
 .rw [E4,J3]
  refine ⟨d.nd,?_,?_⟩
  .rw [g]
   exact (lF h.qE _ Q).filter _
  .intro a l b f e
   rw [g] at f;have:=(List.mem_filter.1 f).2;rw [<- e] at this;simp only [decide_eq_true_eq] at this;exact this l
def tH {J:Jr} {D:aw} {has:Has} (h:dp J D has) {L:Bl} (d:Batch J.n L) (e:¬ (J.P:Int)-J.us-J.fr<((L++aS J has L).length:Int)) :
  Wx J (L++aS J has L) (L++aS J has L).length:=by
 have c:=Fv h d;have r:=h.ok.uH;have m:=h.ok.SX;generalize L++aS J has L=A at c e ⊢;refine W9 J h.ok h.qE A (fun x g=>(c.b x g).2) c.nd Q ?_ A.length (J5 _);intro i o
 cases f:told J.T.os ((J.hd+(i:Int))%(J.P:Int)) with
 | none=>rfl
 | some id=>
  obtain ⟨a,j,l,a3⟩:=h.win _ _ f;exact absurd a3 (gY Q Q)
def LY (J:Jr) (has:Has) (L:Bl):(aS J has L).length<=kM J.T J.P (Jr.tail J) (J.aJ L.length).toNat:=by
 unfold aS A7 kM;rw [G3];exact W6 _ _
def F3 {J:Jr} {D:aw} {has:Has} (h:dp J D has) (e:jG J) (g:5*J.n+240<=2*(J.P:Int)) {L:Bl} (f:Batch J.n L) :
  ¬ (J.P:Int)-J.us-J.fr<((L++aS J has L).length:Int):=by
 have j:=Jr.eI h.ok.uH L.length;have m:=rG J has L h.ok.uH;have o:=f.n1;have l:=h.ok.Yq;have d:=e 0 (by have:=h.ok.uH;omega);have c:kM J.T J.P (Jr.tail J) 0=0:=by have:=rC J.T J.P (Jr.tail J) 0;omega
 rw [c] at d;rw [D3];omega
def xj {T T':Tb} {P f f' c:Nat}:∀ k:Nat,(∀ i,i<k->(told T'.os (((f'+i)%P:Nat):Int)).isSome=true->(told T.os (((f+(c+i))%P:Nat):Int)).isSome=true)->kM T' P f' k+kM T P f c<=kM T P f (c+k):=by
 intro k
 induction k with
 | zero=>intro _;have:=rC T' P f' 0;simp only [Nat.add_zero];omega
 | succ k e=>
  intro h;have:=e fun i g=>h i Q;have d:=h k Q;rw [<- P3,sT,sT];generalize (told T'.os (((f'+k)%P:Nat):Int)).isSome=b at d ⊢
  cases b with
  | false=>simp only [Bool.false_eq_true,if_false];omega
  | true=>rw [d rfl];omega
def Pf (T:Tb) (P f a:Nat):∀ x,kM T P f (a+x)<=kM T P f a+x:=by
 intro x
 induction x with
 | zero=>exact J5 _
 | succ x c=>rw [<- P3,sT];split <;> omega
def ED {J:Jr} {D:aw} {has:Has} (h:dp J D has) (m:jG J) {L:Bl} (o:Batch J.n L) (hf:¬ (J.P:Int)-J.us-J.fr<((L++aS J has L).length:Int)) :
  jG (J.done (L++aS J has L) (J.aJ L.length)):=by
 have C:=Fv h o;have u:=tH h o hf;have hc:=Jr.eI h.ok.uH L.length;have e0:=LY J has L;have r0:=h.ok.SX;have hps:=h.ok.ps;have q0:=o.n0;generalize hM:aS J has L=l at *;have l0:(L++l).length=L.length+l.length:=D3;generalize hA:L++l=A at *;obtain ⟨c,r⟩:∃ c:Nat,J.aJ L.length=(c:Int):=⟨(J.aJ L.length).toNat,Q⟩
 have E:(c:Int)=if J.us<2*(L.length:Int) then J.us else 2*(L.length:Int):=by rw [<- r];rfl
 rw [r,H3] at e0;rw [r] at hc ⊢;obtain ⟨s,hs⟩:∃ s:Nat,J.us=(c:Int)+(s:Int):=⟨(J.us-c).toNat,Q⟩
 have z:(J.done A c).us=(s:Int)+(A.length:Int):=by show J.us+((A.length:Int)-c)=_;omega
 have g0:(J.done A c).n=J.n:=rfl;have B:(J.done A c).P=J.P:=rfl;have P:(J.done A c).T=J.fL A A.length:=rfl
 have i0:∀ i:Nat,(((Jr.tail (J.done A c)+i)%J.P:Nat):Int)=(J.hd-J.us+(c:Int)+(i:Int))%(J.P:Int):=by
  intro i;unfold Jr.tail;have c0:(J.done A c).hd=(J.hd+(A.length:Int))%(J.P:Int):=rfl;rw [z,B,c0,Int.natCast_emod,S4,K8 (J4 _ Q),Int.emod_add_emod];have g:=W4 (J.hd+(A.length:Int)) (J.P:Int);generalize (J.hd+(A.length:Int))%(J.P:Int)=x at g;generalize (J.hd+(A.length:Int))/(J.P:Int)=y at g;rw [show x-((s:Int)+(A.length:Int))+(i:Int)=J.hd-J.us+(c:Int)+(i:Int)-(J.P:Int)*y by omega,X9]
 have G:∀ (i:Nat) (x:Int),i<s->told (J.fL A A.length).os (((Jr.tail (J.done A c)+i)%J.P:Nat):Int)=U x->told J.T.os (((Jr.tail J+(c+i))%J.P:Nat):Int)=U x/\x ∉ A.map B3:=by
  intro i x j d;rw [i0] at d;rw [Bo h.ok,S4,<- Int.add_assoc];rcases u.os _ _ d with ⟨k,F,e,_⟩|⟨g,w⟩
  .exact absurd e.symm (gY Q Q)
  .rw [K6] at w;exact ⟨g,w⟩
 have f0:∀ k,k<=s->kM (J.fL A A.length) J.P (Jr.tail (J.done A c)) k+kM J.T J.P (Jr.tail J) c<=kM J.T J.P (Jr.tail J) (c+k):=fun k F=>xj k fun i j d=>by
  obtain ⟨x,d⟩:=Option.isSome_iff_exists.1 d;rw [(G i x Q d).1];rfl
 have p0:kM (J.fL A A.length) J.P (Jr.tail (J.done A c)) s+A.length<=J.T.ps.length:=by
  have h0:(((bO (J.fL A A.length) J.P (Jr.tail (J.done A c)) s).map B3)++A.map B3).Nodup:=by
   rw [J3];refine ⟨lF u.qE s Q,C.nd,?_⟩;intro a S b b0 e;obtain ⟨y,hy,rfl⟩:=List.mem_map.1 S;obtain ⟨i,j,H,f⟩:=lr hy;rw [H] at f;rw [e] at f;exact (G i _ j f).2 b0
  have:=tB (n:=J.T.ps.length) h0 fun x d=>by
   rcases List.mem_append.1 d with d|d
   .obtain ⟨y,hy,rfl⟩:=List.mem_map.1 d
    obtain ⟨i,j,H,f⟩:=lr hy;have:=dq (u.qE.qp _ _ f);have hl:=(J.wX A A.length).1;exact ⟨this.1,by have:=this.2.1;omega⟩
   .obtain ⟨y,hy,rfl⟩:=List.mem_map.1 d
    have:=(C.b y hy).2;exact ⟨this.1,by have:=this.2;omega⟩
  rw [D3,G3,G3] at this;exact this
 intro k F;rw [z,g0,B,P] at *;have K:=m 0 Q;have I:kM J.T J.P (Jr.tail J) 0=0:=by have:=rC J.T J.P (Jr.tail J) 0;omega
 rw [I] at K
 by_cases d0:k<=s
 .have u0:=f0 k d0
  have m0:=m (c+k) Q;have s0:=rC (J.fL A A.length) J.P (Jr.tail (J.done A c)) k
  split at E <;> omega
 .obtain ⟨x,d⟩:∃ x,k=s+x:=⟨k-s,Q⟩
  have k0:=Pf (J.fL A A.length) J.P (Jr.tail (J.done A c)) s x;rw [<- d] at k0;have o0:=m c Q
  split at E <;> omega
end Go.Proofs.Nn

/- Steps. -/
import Derived.Test.YtdickhgiahcnaaaGreatDoorNP11
import Derived.Lib.AppendZeros
set_option linter.all false
set_option maxRecDepth 99999
set_option maxHeartbeats 0
open Go.SL
open Go.Value renaming int->V,slice->X
open Go.IntKind renaming i64->R
open Go.Obj renaming cells->Y
open Go renaming World->O,Value->M
open Go.Proofs.Tryz renaming prog->N
open Option renaming some->U,none->W
open Bool renaming false->Y'
open Go.SL renaming Om0->Q
open Go.Proofs.Tryz
open Prod renaming fst->A3
open List renaming getD->B3,length_append->D6,getElem?_eq_getElem->D3,map_append->E5,length_nil->G3,length_map->H3,getElem_mem->J4,nodup_append->K8,length_cons->K7,take_length->K4,setIfInBounds_toArray->K3,set_cons_zero->L8,map_map->L4,foldl_cons->L3,mem_cons_of_mem->N4,mem_cons_self->O4,append_assoc->P3,getElem?_set->Q6,mem_append->S9,length_replicate->S6,getElem?_replicate->S5,length_filter_le->S4
open Int renaming toNat_natCast->J7,emod_nonneg->K9,toNat_of_nonneg->K6,eq_ofNat_of_zero_le->K5,emod_eq_of_lt->R4,emod_lt_of_pos->R3,natCast_add->S8,emod_add_mul_ediv->T8,sub_mul_emod_self_left->T6
open Nat renaming le_refl->J3,zero_add->L5,add_assoc->P7
open Option renaming getD_some->L6,isSome_some->S7
namespace Go.Proofs.Nn
open RowKit SL
attribute [local go_sem] Oper.semAt_some
variable {S S':Hp} {F G:ai} {w:O}
def nU:(prog.info? 189).map (fun i=>(i.zero,i.size,i.bytes))=U (U (.agg #[V R 0,X W 0 0]),2,32):=Kr0
def Ss (S:Hp) (j d r t m:Nat) (own:KV) (c:Mv) (F:ai) (w:O) (e:Ending) (g:O):Prop:=
 ∃ (f:Hp) (v:M) (Z:Zs),Ext S f/\e = .returned (.tuple #[v,V R c.1.1])/\Z.map (fun z=>(z.1,z.2.2))=c.1.2/\(∀ z ∈ Z,rC 5 f z.2.1 z.2.2) /\
  ag g (jQ j d r t c.2.1*(aR f d c.2.2*(al f*(sl 189 2 v Z.length (bT Z)*(mp m own*F)))))/\aj w g
def lu (S:Hp) (d m bl bj bo b6 b7 j:Nat) (own:KV) (J:Jr) (D:aB) (F:ai) (ys:List (Int × Int)):ai:=ex fun q:Hp × M × Zs=>
 fact (Ext S q.1/\(J.cm D own ys).1.1=0/\q.2.2.map (fun z=>(z.1,z.2.2))=(J.cm D own ys).1.2/\∀ z ∈ q.2.2,rC 5 q.1 z.2.1 z.2.2) *
  (pt bl (Y #[q.2.1] 124 (0,0))*(sl 189 2 q.2.1 q.2.2.length (bT q.2.2)*(aR q.1 d (J.cm D own ys).2.2*(al q.1 *
   (pt bj (Y #[az j] 121 (0,0))*(pt bo (Y #[.map (U m)] 178 (0,0))*(pt b6 (Y #[X W 0 0] 124 (0,0))*(pt b7 (Y #[V R 0] 31 (0,0))*(mp m own*F)))))))))
def Ez (S:Hp) (j d r t m b6 b7:Nat) (own:KV) (J:Jr) (D:aB) (F:ai) (ys:List (Int × Int)):ai:=ex fun c:Hp=>
 fact (Ext S c/\(J.cm D own ys).1.1≠0/\(J.cm D own ys).1.2=[])*(jQ j d r t (J.cm D own ys).2.1*(pt b6 (Y #[X W 0 0] 124 (0,0))*(pt b7 (Y #[V R (J.cm D own ys).1.1] 31 (0,0))*(aR c d (J.cm D own ys).2.2*(al c*(mp m own*F))))))
def tK {d m bl bj bo b6 b7 j:Nat} {own:KV} {J:Jr} {D:aB} {ys:List (Int × Int)} (h:ag w (lu S d m bl bj bo b6 b7 j own J D F ys*G)) :
  ∃ (S':Hp) (v:M) (Z:Zs),Ext S S'/\(J.cm D own ys).1.1=0/\Z.map (fun z=>(z.1,z.2.2))=(J.cm D own ys).1.2/\(∀ z ∈ Z,rC 5 S' z.2.1 z.2.2) /\
   ag w (pt bl (Y #[v] 124 (0,0))*(sl 189 2 v Z.length (bT Z)*(aR S' d (J.cm D own ys).2.2*(al S' *
   (pt bj (Y #[az j] 121 (0,0))*(pt bo (Y #[.map (U m)] 178 (0,0))*(pt b6 (Y #[X W 0 0] 124 (0,0))*(pt b7 (Y #[V R 0] 31 (0,0))*(mp m own*(F*G)))))))))):=by
 obtain ⟨q,h⟩:=ag.aw.1 h;obtain ⟨⟨c,e,f,h4⟩,h5⟩:=ag.aq.1 (h.to (ay _ _ _));exact ⟨q.1,q.2.1,q.2.2,c,e,f,h4,h5.u00⟩
def nG {d m bl bj bo b6 b7 j:Nat} {own:KV} {J:Jr} {D:aB} {ys:List (Int × Int)} {v:M} {Z:Zs} (c:Ext S S') (e:(J.cm D own ys).1.1=0)
  (f:Z.map (fun z=>(z.1,z.2.2))=(J.cm D own ys).1.2) (h4:∀ z ∈ Z,rC 5 S' z.2.1 z.2.2)
  (h:ag w (pt bl (Y #[v] 124 (0,0))*(sl 189 2 v Z.length (bT Z)*(aR S' d (J.cm D own ys).2.2*(al S' *
   (pt bj (Y #[az j] 121 (0,0))*(pt bo (Y #[.map (U m)] 178 (0,0))*(pt b6 (Y #[X W 0 0] 124 (0,0))*(pt b7 (Y #[V R 0] 31 (0,0))*(mp m own*(F*G))))))))))):ag w (lu S d m bl bj bo b6 b7 j own J D F ys*G):=
 by
 unfold lu;exact ag.aw.2 ⟨(S',v,Z),(ag.aq.2 ⟨⟨c,e,f,h4⟩,h⟩:ag w (fact (_/\_/\_/\_)*_)).u00⟩
def Cn {j d r t m b6 b7:Nat} {own:KV} {J:Jr} {D:aB} {ys:List (Int × Int)} (c:Ext S S') (e:(J.cm D own ys).1.1≠0) (f:(J.cm D own ys).1.2=[])
  (h:ag w (jQ j d r t (J.cm D own ys).2.1*(pt b6 (Y #[X W 0 0] 124 (0,0))*(pt b7 (Y #[V R (J.cm D own ys).1.1] 31 (0,0))*(aR S' d (J.cm D own ys).2.2*(al S'*(mp m own*(F*G)))))))) :
  ag w (Ez S j d r t m b6 b7 own J D F ys*G):=
 by
 unfold Ez;exact ag.aw.2 ⟨S',(ag.aq.2 ⟨⟨c,e,f⟩,h⟩:ag w (fact (_/\_/\_)*_)).u00⟩
def pJ {c:Array M} {b6 b7:Nat} {v u:M} (f:c[6]?=U (.pointer (U ⟨b6,0,W⟩))) (g:c[7]?=U (.pointer (U ⟨b7,0,W⟩))) (d:w.cell? ⟨b6,0,W⟩=U v) (e:w.cell? ⟨b7,0,W⟩=U u) :
  (results Tryz.f128 c).run N w = .ok (.tuple #[v,u]) w:=by
 simp [results,Tryz.results128,go_sem,f,g,d,e]
def Db (Z:Zs) (z:Int × M × List UInt8):bT (Z++[z])=bT Z++[V R z.1,z.2.1]:=by simp [bT]
def E0 (w:O) (S:Hp) (j d r t m:Nat) (J:Jr) (D:aB) (own:KV) (n:Nat) (F:ai) (c0:ag w (jQ j d r t J*(aR S d D*(al S*(mp m own*F))))) (hJ:J.Ok) (hD:D.Ok) (hn:n<=J.P) :
  Calls N 128 #[az j,V R (n:Int),.map (U m)] w (Ss S j d r t m own (J.cm D own (bX J.T J.P (Jr.tail J) n)) F w):=by
 obtain ⟨i0,hi,hz,F0,D0⟩:=info_parts nU;refine (callsIn_wide (n:=9)).1 ?_;refine callsIn_of_wp_marks func128 rfl trivial ?_ rfl;simp only [ntmps128,List.size_toArray,K7,G3,Nat.reduceAdd,Nat.reduceSub,Array.replicate_succ,Array.replicate_zero,List.push_toArray,List.append_toArray,List.nil_append,List.cons_append];have K:=((((c0.alloc (Y #[az j] 121 (0,0))).alloc (Y #[.map (U m)] 178 (0,0))).alloc (Y #[X W 0 0] 124 (0,0))).alloc (Y #[V R 0] 31 (0,0))).alloc (Y #[X W 0 0] 124 (0,0));have d1:=(((((aj.refl w).alloc (Y #[az j] 121 (0,0))).alloc (Y #[.map (U m)] 178 (0,0))).alloc (Y #[X W 0 0] 124 (0,0))).alloc (Y #[V R 0] 31 (0,0))).alloc (Y #[X W 0 0] 124 (0,0));simp only [World.size_alloc] at K
 gi_wp2_with fail
 generalize ((((w.alloc (Y #[az j] 121 (0,0))).alloc (Y #[.map (U m)] 178 (0,0))).alloc (Y #[X W 0 0] 124 (0,0))).alloc (Y #[V R 0] 31 (0,0))).alloc (Y #[X W 0 0] 124 (0,0))=w1 at K d1 ⊢;generalize w.heap.size+1+1+1+1=u at K ⊢;generalize w.heap.size+1+1+1=g at K ⊢;generalize w.heap.size+1+1=f at K ⊢;generalize w.heap.size+1=B at K ⊢;generalize w.heap.size=bj at K ⊢;refine nk (Ny w1 j (n:Int)) ?_;rintro a1 w2 ⟨rfl,rfl⟩;have h2:=(K.alloc (Y #[az j] 121 (0,0))).alloc (Y #[V R (n:Int)] 3 (0,0));have d2:=(d1.alloc (Y #[az j] 121 (0,0))).alloc (Y #[V R (n:Int)] 3 (0,0));simp only [World.size_alloc] at h2
 gi_wp2_with fail
 generalize (w1.alloc (Y #[az j] 121 (0,0))).alloc (Y #[V R (n:Int)] 3 (0,0))=w2 at h2 d2 ⊢;generalize w1.heap.size+1=cn at h2 ⊢;generalize w1.heap.size=cj at h2 ⊢;clear K d1 c0
 have hE:ag w2 ((jQ j d r t J*lu S d m u bj B f g j own J D F [])*(gT cj cn j n*emp)):=by
  have h3:=h2.eU 189 2
  have h4:ag w2 (lu S d m u bj B f g j own J D F []*(gT cj cn j n*jQ j d r t J)):=nG (S':=S) (v:=X W 0 0) (Z:=[]) (Ext.refl S) rfl rfl Si0
   (h3.to (by unfold gT;simp only [Jr.cm,List.foldl_nil,G3,bT,List.flatMap_nil];ac_rfl))
  exact h4.to (by rw [rV];ac_rfl)
 clear h2
 refine mm (w0:=w) rfl De0 (gf:=225) (lb:=#[.pointer (U ⟨cj,0,W⟩),.pointer (U ⟨cn,0,W⟩)]) rfl trivial (enters func225 Kr0 rfl)
  (G5 _ cj cn j d r t J n hJ hn)
  (fun x tt=>(((tt.setIfInBounds 18 (V R x.1)).setIfInBounds 19 (V R x.2)).setIfInBounds 9 (V R x.1)).setIfInBounds 10 (V R x.2))
  (fun G=>jQ j d r t J*lu S d m u bj B f g j own J D F G) (fun Z0=>wH (BW _ _) Z0)
  (fun c G=>fact (c = .ret)*Ez S j d r t m f g own J D F G)
  (fun z x=>jQ j d r t J*lu S d m u bj B f g j own J D F z) emp ?hps d2 hE ?assign ?body ?done ?stop
 case hps=>
  intro x vs E s c0;unfold CW at c0;obtain ⟨rfl,_⟩:=ag.aq.1 c0
  rfl
 case assign=>
  intro l P z x vs E s e1 _ b0 H hK;have H1:=H.ah;unfold CW at H1;obtain ⟨rfl,o⟩:=ag.aq.1 H1;clear H H1
  gi_wp2
  exact hK _ b0 o
 case done=>
  intro D2 G s hS b0 H;subst hS;obtain ⟨h,v,Z,d0,C,hZ,hV,o⟩:=tK (H.u00:ag s (lu S d m u bj B f g j own J D F (bX J.T J.P (Jr.tail J) n)*(jQ j d r t J*(gT cj cn j n*(pt D2 (.deferred (U []))*emp)))));have kl:s.cell? ⟨u,0,W⟩=U v:=o.cell 0;have k6:s.cell? ⟨f,0,W⟩=U (X W 0 0):=o.fh.cell 0;have f6:s.frozen? ⟨f,0,W⟩=Y':=o.fh.frozen 0;have I:=(o.fh.setCell 0 v).mX;have k7:(s.setCell ⟨f,0,W⟩ v).cell? ⟨g,0,W⟩=U (V R 0):=I.cell 0;have f7:(s.setCell ⟨f,0,W⟩ v).frozen? ⟨g,0,W⟩=Y':=I.frozen 0;have H4:=I.setCell 0 (V R 0);have d4:=(b0.setCell ⟨f,0,W⟩ v).setCell ⟨g,0,W⟩ (V R 0);obtain ⟨va,vc,rfl⟩:=aC o.ah;have hj:=Jr.wj C;generalize J.cm D own (bX J.T J.P (Jr.tail J) n)=k0 at *;obtain ⟨⟨rc,rl⟩,J',D'⟩:=k0;simp only at C hj hZ;subst C hj;have HH:=ae H4;clear H o I H4 hE d2;have HD:=ae d4;clear d4
  gi_wp2
  generalize (s.setCell ⟨f,0,W⟩ (X va Z.length vc)).setCell ⟨g,0,W⟩ (V R 0)=W3 at HH HD ⊢
  have H5:ag W3 (pt D2 (.deferred (U []))*(pt f (Y #[X va Z.length vc] 124 (0,0))*(pt g (Y #[V R 0] 31 (0,0))*(jQ j d r t J'*(aR h d D'*(al h*(sl 189 2 (X va Z.length vc) Z.length (bT Z)*(mp m own*F)))))))):=by
   have c0:=HH.o;simp only [K3,L8] at c0;exact (c0.t00 ((pt u (Y #[X va Z.length vc] 124 (0,0))*(pt bj (Y #[az j] 121 (0,0))*(pt B (Y #[.map (U m)] 178 (0,0))*(gT cj cn j n*emp))))*(pt D2 (.deferred (U []))*(pt f (Y #[X va Z.length vc] 124 (0,0))*(pt g (Y #[V R 0] 31 (0,0))*(jQ j d r t J'*(aR h d D'*(al h*(sl 189 2 (X va Z.length vc) Z.length (bT Z)*(mp m own*F)))))))))).right
  have hK:=H5.heap;have H6:=(H5.putObj (.deferred W)).right;refine ⟨Si0,.inl ⟨_,_,rfl,run_takeDeferred hK,?_⟩⟩;exact ⟨_,pJ rfl rfl (H6.cell 0) (H6.ah.cell 0),h,_,Z,d0,rfl,hZ,hV,H6.right.right,HD.o.putObj _ _⟩
 case stop=>
  intro D2 c G s f0 b0 H0;obtain ⟨rfl,H⟩:=ag.aq.1 (H0.to (ay _ _ _));obtain ⟨h,H1⟩:=ag.aw.1 H;obtain ⟨⟨d0,C,R0⟩,o⟩:=ag.aq.1 (H1.to (ay _ _ _));have e:=Jr.Ed C f0
  have I:ag s (pt D2 (.deferred (U []))*(pt f (Y #[X W 0 0] 124 (0,0))*(pt g (Y #[V R (J.cm D own G).1.1] 31 (0,0))*(jQ j d r t (J.cm D own G).2.1*(aR h d (J.cm D own G).2.2*(al h*(mp m own*F))))))):=
   (o.t00 ((gT cj cn j n*emp)*(pt D2 (.deferred (U []))*(pt f (Y #[X W 0 0] 124 (0,0))*(pt g (Y #[V R (J.cm D own G).1.1] 31 (0,0))*(jQ j d r t (J.cm D own G).2.1*(aR h d (J.cm D own G).2.2*(al h*(mp m own*F))))))))).right
  rw [e];have hK:=I.heap;have H4:=(I.putObj (.deferred W)).right;have H5:=H4.right.right.eU 189 2;have HD:=ae (b0.putObj D2 (.deferred W));have HN:=ae R0;have G0:=ae H4;have X0:=ae H5;generalize J.cm D own G=k0 at *;clear H0 H H1 o I H4 H5 hE d2 e C R0
  gi_wp2
  refine ⟨Si0,.inl ⟨_,_,rfl,run_takeDeferred hK,?_⟩⟩;exact ⟨_,pJ rfl rfl (G0.o.cell 0) (G0.o.ah.cell 0),h,X W 0 0,[],d0,rfl,by rw [HN.o];rfl,Si0,X0.o.u00,HD.o⟩
 case body=>
  intro l P z x E s f0 b0 H;obtain ⟨id,p⟩:=x;obtain ⟨h,v,Z,d0,C,hZ,hV,o⟩:=tK (H.u00:ag s (lu S d m u bj B f g j own J D F z*(jQ j d r t J*(pt l (.loop P)*E))));have e:=J.Ex D own z (id,p);unfold Jr.cU at e;rw [if_neg (by simpa using C),Jr.wj C] at e;dsimp only at e
  have m1:Z.length<=n:=by
   have K:=f0.length_le;have h2:=kR J.T J.P (Jr.tail J) n;have h3:=Jr.yZ (J:=J) (D:=D) (own:=own) z;rw [<- hZ,H3] at h3;simp only [D6,K7,G3] at K;omega
  have hP:=hJ.p1;have L0:(J.cm D own z).2.2.Ok:=(J.tO hD own z).ok hD (by have:=hD.many;omega);have kj:s.cell? ⟨bj,0,W⟩=U (az j):=o.aJ.cell 0;have ko:s.cell? ⟨B,0,W⟩=U (.map (U m)):=o.eu.cell 0;have g0:=ag.lookup (P:=N) underlying178 underlying3 (z:=V R 0) Kr0 o.lo id true
  cases hk:aM own id with
  | some q=>
   rw [hk] at e g0;simp only [S7,if_true,L6] at e g0
   have I:ag s ((jQ j d r t J*lu S d m u bj B f g j own J D F (z++[(id,p)]))*(pt l (.loop P)*E)):=by
    have:=nG (S:=S) (S':=h) (own:=own) (J:=J) (D:=D) (ys:=z++[(id,p)]) (F:=F) (G:=jQ j d r t J*(pt l (.loop P)*E)) (v:=v) (Z:=Z) d0 (by rw [e];exact C) (by rw [e];exact hZ) hV (by rw [e];exact o);exact this.u00
   have W0:=ae I;clear H o I e hk f0 hE d2
   gi_wp2
   exact ⟨b0,W0.o⟩
  | none=>
   rw [hk] at e g0;simp only [Option.isSome_none,if_true,Option.getD_none,if_neg Bool.false_ne_true] at e g0
   have hl:=yF s h j d r t J (J.cm D own z).2.2 id p _ (o.t00 (jQ j d r t J*(aR h d (J.cm D own z).2.2*(al h*(pt u (Y #[v] 124 (0,0))*(sl 189 2 v Z.length (bT Z) *
    (pt bj (Y #[az j] 121 (0,0))*(pt B (Y #[.map (U m)] 178 (0,0))*(pt f (Y #[X W 0 0] 124 (0,0))*(pt g (Y #[V R 0] 31 (0,0))*(mp m own*(F*(pt l (.loop P)*E))))))))))))) hJ L0
   have m0:=qH (J:=J) (D:=(J.cm D own z).2.2) (id:=id) (p:=p);have o0:=Jr.Gd (J:=J) (D:=(J.cm D own z).2.2) (id:=id) (p:=p);have o1:Z.length+1<=20001:=Q
   generalize hR:J.load (J.cm D own z).2.2 id p=k0 at hl e m0 o0;obtain ⟨⟨rc,rl⟩,J',D'⟩:=k0;dsimp only at hl e m0 o0;have j0:=ae e;have r0:=ae m0;have s0:=ae o0;have HZ:=ae hZ;have HV:=ae hV;have K0:=ae d0;clear H o e hk f0 hE d2 hR m0 o0 hZ hV d0 L0 C
   gi_wp2_with fail
   refine sy hl ?_;rintro a1 w3 ⟨dv,rfl,h3,d3⟩;clear hl kj ko g0
   by_cases e0:rc=0
   .subst e0
    obtain rfl:=s0.o rfl;have e:=j0.o;rw [if_pos rfl] at e;have b1:=r0.o rfl
    obtain ⟨S3,l0,x0,h4⟩:=ag.z8 (h3.uY.t00 (al h*(bs 5 dv rl*(pt u (Y #[v] 124 (0,0))*(sl 189 2 v Z.length (bT Z)*(jQ j d r t J'*(aR h d D' *
     (pt bj (Y #[az j] 121 (0,0))*(pt B (Y #[.map (U m)] 178 (0,0))*(pt f (Y #[X W 0 0] 124 (0,0))*(pt g (Y #[V R 0] 31 (0,0))*(mp m own*(F*(pt l (.loop P)*E)))))))))))))) (by unfold small;omega)
    obtain ⟨da,dc,rfl⟩:∃ da dc,dv = X da rl.length dc:=by
     rcases x0.2 with ⟨rfl,C⟩|⟨h1,f1,g1,rfl,_⟩
     .exact ⟨_,_,by rw [C];rfl⟩
     .exact ⟨_,_,rfl⟩
    have h5:ag w3 (sl 189 2 v Z.length (bT Z)*(pt u (Y #[v] 124 (0,0))*(aR S3 d D'*(al S3*(pt bj (Y #[az j] 121 (0,0))*(pt B (Y #[.map (U m)] 178 (0,0))*(pt f (Y #[X W 0 0] 124 (0,0))*(pt g (Y #[V R 0] 31 (0,0))*(mp m own*(F*(jQ j d r t J'*(pt l (.loop P)*E)))))))))))):=
     ((h4.t00 (aR h d D'*(sl 189 2 v Z.length (bT Z)*(pt u (Y #[v] 124 (0,0))*(al S3*(pt bj (Y #[az j] 121 (0,0))*(pt B (Y #[.map (U m)] 178 (0,0))*(pt f (Y #[X W 0 0] 124 (0,0))*(pt g (Y #[V R 0] 31 (0,0))*(mp m own*(F*(jQ j d r t J'*(pt l (.loop P)*E))))))))))))).gZ (yd l0)).u00
    have i1:w3.cell? ⟨u,0,W⟩=U v:=h5.ah.cell 0;have k1:=h5.ah.frozen 0;have u0:=h5.alloc (Y #[V R id,X da rl.length dc] 189 (0,0))
    have N0:pC (w3.alloc (Y #[V R id,X da rl.length dc] 189 (0,0))) 2 (X (U ⟨w3.heap.size,0,W⟩) 1 1) 1 [V R id,X da rl.length dc]:=
     ⟨rfl,.inr ⟨_,_,rfl,fun j q1 hu=>by
      rw [Addr.add_lit,L5];exact (u0.cell j).trans (by simpa using hu)⟩⟩
    obtain ⟨v',w',S0,h0,V0⟩:=ag.append (P:=N) (ty:=124) underlying124 hi hz F0 D0 rfl u0.right N0 (by simp [Value.oneCell']) (by unfold maxLen;omega) Q;obtain ⟨aa,ac,rfl⟩:=aC h0;obtain ⟨wa,wc,rfl⟩:=aC h5;have j1:=h0.ah.cell 0;have l1:=h0.ah.frozen 0;have T0:=h0.ah.setCell 0 (X aa (Z.length+1) ac);have D5:=(((b0.trans d3).alloc (Y #[V R id,X da rl.length dc] 189 (0,0))).trans V0).setCell ⟨u,0,W⟩ (X aa (Z.length+1) ac)
    have H6:=nG (S:=S) (S':=S3) (d:=d) (m:=m) (bl:=u) (bj:=bj) (bo:=B) (b6:=f) (b7:=g) (j:=j) (own:=own) (J:=J') (D:=D) (ys:=z++[(id,p)]) (F:=F) (G:=jQ j d r t J'*(pt l (.loop P)*E)) (v:=X aa (Z.length+1) ac) (Z:=Z++[(id,X da rl.length dc,rl)]) (K0.o.trans l0) (by rw [e])
     (by rw [e,E5,HZ.o];rfl) (fun c1 hz=>by
      rcases List.mem_append.1 hz with hz|hz
      .exact (HV.o c1 hz).mono l0
      .rw [List.mem_singleton.1 hz];exact x0) (by
      rw [e];refine T0.to ?_;simp only [K3,L8,Db,D6,K7,G3,L5])
    have Y0:=ae S0;have q0:=ae H6;have p0:=ae D5;clear S0 N0 u0 hi hz F0 D0 h4 h5 h0 T0 H6 D5 e b1 x0 l0 h3 V0 j0 r0 s0 d3
    gi_wp2_with (gi_at_builtin;refine dw Y0.o _ _ rfl rfl rfl rfl rfl ?_)
    exact ⟨p0.o,q0.o.u00⟩
   .have e:=j0.o
    rw [if_neg e0] at e;have h4:=(h3.Cv e0).2;obtain rfl:=(h3.Cv e0).1;have p1:(rc == 0)=Y':=by simpa using e0
    have k6:w3.cell? ⟨f,0,W⟩=U (X W 0 0):=h4.mX.cell 0;have f6:w3.frozen? ⟨f,0,W⟩=Y':=h4.mX.frozen 0;have H7:=(h4.mX.setCell 0 (X W 0 0)).lo;have k7:=H7.cell 0;have f7:(w3.setCell ⟨f,0,W⟩ (X W 0 0)).frozen? ⟨g,0,W⟩=Y':=H7.frozen 0;have H8:=H7.setCell 0 (V R rc);simp only [K3,L8] at H8;have D5:=((b0.trans d3).setCell ⟨f,0,W⟩ (X W 0 0)).setCell ⟨g,0,W⟩ (V R rc)
    have H6:=Cn (S:=S) (S':=h) (j:=j) (d:=d) (r:=r) (t:=t) (m:=m) (b6:=f) (b7:=g) (own:=own) (J:=J) (D:=D) (ys:=z++[(id,p)]) (F:=F) (G:=pt l (.loop P)*E) K0.o (by rw [e];exact e0) (by rw [e]) (by
     rw [e];exact (H8.t00 ((pt u (Y #[v] 124 (0,0))*(sl 189 2 v Z.length (bT Z)*(pt bj (Y #[az j] 121 (0,0))*pt B (Y #[.map (U m)] 178 (0,0)))))*(jQ j d r t J'*(pt f (Y #[X W 0 0] 124 (0,0))*(pt g (Y #[V R rc] 31 (0,0))*(aR h d D'*(al h*(mp m own*(F*(pt l (.loop P)*E)))))))))).right)
    have q0:=ae H6;have p0:=ae D5;clear hi hz F0 D0 h3 h4 H7 H8 H6 D5 e j0 r0 s0 e0 d3
    gi_wp2
    exact ⟨p0.o,(ag.aq.2 ⟨rfl,q0.o⟩:ag _ (fact (Code.ret=Code.ret)*_)).to (ay _ _ _).symm⟩
end Go.Proofs.Nn
namespace Go.Proofs.Nn
open RowKit SL
def UL (w:O) (e:Ending) (c:O):Prop:=∃ v,e = .returned v/\ag c (sl 189 2 v 0 []*whole w)/\aj w c
def Nz (w:O) (n:Nat) (I:n<=1000000):Calls N 174 #[X W 0 0,V R (n:Int)] w (UL w):=by
 obtain ⟨F,B,E,C,s⟩:=info_parts nU
 by_cases l:n=0
 .subst l
  go_in
  go_wp2
  go_ret
  exact ⟨_,rfl,(ag.whole w).eU _ _,aj.refl w⟩
 .have c:=fun w=>Lib.run_append_nil_zeros (P:=N) w 124 3 124 189 F _ R R underlying124 underlying3 B E n Q (by rw [C];decide) Q (by rw [s];omega)
  have z:=grownCap_ge w n 0 189;have f:=grownCap_le_maxLen w n 0 189 (by unfold maxLen;omega);have c:=c w;generalize H:grownCap w n 0 189=e at c z f;generalize o:Builtin.zeroCells (Value.agg #[V R 0,X W 0 0]).cells n++Builtin.zeroCells (Value.agg #[V R 0,X W 0 0]).cells (e-n)=d at c;have r:d.size=e*2:=by rw [<- o];simp [size_zeroCells,Value.cells];omega
  have u:ag (w.drew.alloc (Y d 189)) (sl 189 2 (X (U ⟨w.heap.size,0,W⟩) 0 e) 0 []*whole w):=by
   have m:=((ag.whole w).drew.alloc (Y d 189 (0,0))).nM (n:=0) (sz:=2) Q f r;simpa using m
  have j:=(aj.refl w).drew.alloc (Y d 189 (0,0));have G:(0:Int)<(n:Int):=Q
  have h:=ae u;have g:=ae j
  go_in
  go_wp2_with (at_builtin;refine Lib.wpList_append_run _ rfl _ _ _ _ rfl _ _ rfl rfl _ _ c ?_)
  go_ret
  exact ⟨_,rfl,h.o,g.o⟩
def upto {c:Type} (k:Nat) (x y z:c):c:=if k=0 then x else if k=1 then y else z
def P8 (n:Nat) (d:List M) (w:O) (e:Ending) (c:O):Prop:=∃ v,e = .returned v/\ag c (sl 189 2 v n d*whole w)/\aj w c
def IM (n m:Nat) (c d:List M) (w:O) (u i:M) (wr:O):Prop:=
 ∃ k:Nat,k<=2/\i = V R (k:Int)/\ag wr (sl 189 2 u (upto k 0 n (n+m)) (upto k [] c (c++d))*whole w)/\aj w wr
def DV (w:O) (g n m:Nat) (E F:Option Addr) (G H:Nat) (f j:List M) (h0:w.cell? ⟨g,0,W⟩=U (X E n G)) (h1:w.cell? ⟨g,1,W⟩=U (X F m H))
  (hx:pC w 2 (X E n G) n f) (hy:pC w 2 (X F m H) m j) (ox:∀ u ∈ f,u.oneCell'=true) (oy:∀ u ∈ j,u.oneCell'=true) (hn:n<=500000) (hm:m<=500000) :
  Calls N 129 #[X (U ⟨g,0,W⟩) 2 2] w (P8 (n+m) (f++j) w):=by
 obtain ⟨i0,hi,hz,c0,b0⟩:=info_parts nU;have I:=Nz w (n+m) Q;rw [show ((n+m:Nat):Int)=(n:Int)+(m:Int) by omega] at I;have K:=ae hx;have P:=ae hy;have S:=ae ox;have OY:=ae oy;have z:=ae hi;have C:=ae hz;have B:=ae c0;have s:=ae b0
 go_in
 go_wp2_with fail
 go_loop [3,11] (fun u i=>∃ k:Nat,k<=2/\i = V R (k:Int)/\u = V R (upto k 0 (n:Int) ((n:Int)+(m:Int)))) (fun _ i=>2-(intOf i).toNat)
 case atStart=>exact ⟨0,Q,rfl,rfl⟩
 case round=>
  obtain ⟨k,hk,rfl,rfl⟩:=hrel;obtain rfl|rfl|rfl:k=0\/k=1\/k=2:=Q
  .simp only [upto,if_true]
   go_wp2_with fail
   go_round
   case rel=>exact ⟨1,Q,by go_num,by simp [upto]⟩
   case measure=>simp [intOf]
  .simp only [upto,if_true,if_neg (show ¬ (1:Nat)=0 by decide)]
   go_wp2_with fail
   go_round
   case rel=>exact ⟨2,Q,by go_num,by simp [upto]⟩
   case measure=>simp [intOf]
  .simp only [upto,if_neg (show ¬ (2:Nat)=0 by decide),if_neg (show ¬ (2:Nat)=1 by decide)]
   go_wp2_with fail
   (apply I.mono)
   rintro d0 w1 ⟨v,rfl,h2,d2⟩
   go_wp2_with fail
   go_loopw [6,27] (fun u i wr=>IM n m f j w u i wr) (fun _ i _=>2-(intOf i).toNat)
   case atStart=>exact ⟨0,Q,rfl,h2,d2⟩
   case round=>
    obtain ⟨k,hk,rfl,c,o⟩:=hrel;have k0:=c.bV h0;have k1:=c.bV h1;obtain rfl|rfl|rfl:k=0\/k=1\/k=2:=Q
    .simp only [upto,if_true] at c
     obtain ⟨va,vc,rfl⟩:=aC c;obtain ⟨v',w',l,e,r⟩:=ag.append (P:=N) (ty:=124) underlying124 z.o C.o B.o s.o rfl c (K.o.carry fun a u h=>c.bV h) S.o (by unfold maxLen;omega) Q;have d:=ae e;have Hd:=ae (o.trans r);obtain ⟨ba,bc,rfl⟩:=aC e
     go_wp2_with (at_builtin;refine wpList_append_run l _ _ rfl rfl rfl rfl rfl ?_)
     go_roundw
     case rel=>exact ⟨1,Q,by go_num,by simpa [upto] using d.o,Hd.o⟩
     case measure=>simp [intOf]
    .simp only [upto,if_true,if_neg (show ¬ (1:Nat)=0 by decide)] at c
     obtain ⟨va,vc,rfl⟩:=aC c;obtain ⟨v',w',l,e,r⟩:=ag.append (P:=N) (ty:=124) underlying124 z.o C.o B.o s.o rfl c (P.o.carry fun a u h=>c.bV h) OY.o (by unfold maxLen;omega) Q;have d:=ae e;have Hd:=ae (o.trans r);obtain ⟨ba,bc,rfl⟩:=aC e
     go_wp2_with (at_builtin;refine wpList_append_run l _ _ rfl rfl rfl rfl rfl ?_)
     go_roundw
     case rel=>exact ⟨2,Q,by go_num,by simpa [upto] using d.o,Hd.o⟩
     case measure=>simp [intOf]
    .simp only [upto,if_neg (show ¬ (2:Nat)=0 by decide),if_neg (show ¬ (2:Nat)=1 by decide)] at c
     have d:=ae c;have Hd:=ae o
     go_wp2
     go_ret
     exact ⟨_,rfl,d.o,Hd.o⟩
end Go.Proofs.Nn
namespace Go.SL
open RowKit
abbrev Bl:=List (Int × List UInt8)
def cq (Z:List Wr):Bl:=Z.map fun z=>(z.1,z.2.2)
def mf (L:Bl):List Wr:=L.map fun x=>(x.1,X W 0 0,x.2)
def pU (L:Bl):cq (mf L)=L:=by
 unfold cq mf;rw [L4];exact List.map_id L
def jX (Z:List Wr):(cq Z).length=Z.length:=by simp [cq]
def gp (Z:List Wr) (k:Nat):(Z.getD k Wr.nil).1=((cq Z).getD k (0,[])).1/\(Z.getD k Wr.nil).2.2=((cq Z).getD k (0,[])).2:=by
 simp only [cq,B3,List.getElem?_map];cases Z[k]? <;> simp [Wr.nil]
def Jr.Am (J:Jr) (D:aB) {Z Z':List Wr} (h:cq Z=cq Z') (k:Nat):J.bP D Z k=J.bP D Z' k:=by
 have c:Z.length=Z'.length:=by rw [<- jX,h,jX]
 induction k with
 | zero=>rfl
 | succ k d=>
  rw [Jr.bP,Jr.bP,d,(gp Z k).1,(gp Z k).2,(gp Z' k).1,(gp Z' k).2,h,c]
def E6 {Z Z':List Wr} (h:cq Z=cq Z') (k:Nat):fG Z k=fG Z' k:=by
 induction k with
 | zero=>rfl
 | succ k c=>rw [fG,fG,c,(gp Z k).1,(gp Z' k).1,h]
def Jr.gi (J:Jr) (L:Bl):Nat->Tb
 | 0=>J.T
 | k+1=>((Jr.gi J L k).put (L.getD k (0,[])).1 ((J.hd+(k:Int))%(J.P:Int))).2
def Jr.aS (J:Jr) (n:Nat):Int:=if J.us<2*(n:Int) then J.us else 2*(n:Int)
def Jr.done (J:Jr) (L:Bl) (c:Int):Jr:=
 { J with T:=J.gi L L.length,sq:=J.sq+1,hd:=(J.hd+(L.length:Int))%(J.P:Int),us:=J.us+((L.length:Int)-c),fr:=c }
structure Tb.N3 (T:Tb):Prop where
 os:∀ v ∈ T.os,v=-1\/(0<=v/\v<T.ps.length)
def mem_set {l:List Int} {i:Nat} {x v:Int} (h:v ∈ l.set i x):v=x\/v ∈ l:=Gr0
def Tb.Kz {T:Tb} (h:T.N3) (id p:Int):(T.put id p).2.N3:=by
 refine ⟨fun v hv=>?_⟩;rw [(T.oF id p).1];unfold Tb.put at hv
 split at hv
 .rename_i c
  rcases mem_set hv with hv|hv
  .exact .inr ⟨Q,Q⟩
  .unfold Tb.drop at hv
   split at hv
   .rcases mem_set hv with hv|hv
    .exact .inl hv
    .exact h.os v hv
   .exact h.os v hv
 .exact h.os v hv
def Jr.wg (J:Jr) (L:Bl) (k:Nat):(J.gi L k).ps.length=J.T.ps.length/\(J.gi L k).os.length=J.T.os.length:=by
 induction k with
 | zero=>exact ⟨rfl,rfl⟩
 | succ k c=>exact ⟨((Jr.gi J L k).oF _ _).1.trans c.1,((Jr.gi J L k).oF _ _).2.trans c.2⟩
def Jr.G1 {J:Jr} (h:J.T.N3) (L:Bl) (k:Nat):(J.gi L k).N3:=by
 induction k with
 | zero=>exact h
 | succ k c=>exact Tb.Kz c _ _
structure Jr.OD (J:Jr):Prop where
 VS:1<=J.ep
 VT:J.ep<4294967296
 T3:1<=J.st
 bH:J.st<=J.sq+1
 Ua:0<=J.sq
 V6:J.sq<=281474976710655
 n1:J.n<=3840
 own:J.T.N3
def Jr.OD.numbers {J:Jr} (h:J.OD) (c:J.sq<281474976710655):J.uF:=⟨h.VS,h.VT,h.T3,h.bH,h.Ua,c⟩
def Jr.fK {J:Jr} (c:0<=J.us) (n:Nat):0<=J.aS n/\J.aS n<=J.us/\J.aS n<=2*n:=by
 unfold Jr.aS
 split <;> omega
end Go.SL
namespace Go.Proofs.Nn
open RowKit SL
variable {w:O}
def FU {J:Jr} (h:J.T.Ok) (L:Bl) (k:Nat):(J.gi L k).Ok:=by
 induction k with
 | zero=>exact h
 | succ k c=>exact Tb.NV c _ _
def fm (J:Jr) (D:aB) (L:Bl):Mv:=J.cm D (fG (mf L) L.length) (bX J.T J.P (Jr.tail J) (J.aS L.length).toNat)
def vx (J:Jr) (D:aB) (L:Bl):Int × Jr × aB:=
 if (fm J D L).1.1≠0 then ((fm J D L).1.1,(fm J D L).2)
 else if (J.P:Int)-J.us-J.fr<((L++(fm J D L).1.2).length:Int) then (9,J,(fm J D L).2.2)
 else if (J.bP (fm J D L).2.2 (mf (L++(fm J D L).1.2)) (L++(fm J D L).1.2).length).1≠0 then
  ((J.bP (fm J D L).2.2 (mf (L++(fm J D L).1.2)) (L++(fm J D L).1.2).length).1,{ J with br:=true },(J.bP (fm J D L).2.2 (mf (L++(fm J D L).1.2)) (L++(fm J D L).1.2).length).2)
 else (0,J.done (L++(fm J D L).1.2) (J.aS L.length),(J.bP (fm J D L).2.2 (mf (L++(fm J D L).1.2)) (L++(fm J D L).1.2).length).2)
def eZ (J:Jr) (D:aB) (ok:Bool) (L:Bl):Int × Jr × aB:=
 if ok=Y' then (1,J,D)
 else if 281474976710655<=J.sq then (12,J,D)
 else if (J.flush D).1≠0 then J.flush D
 else vx J (J.flush D).2.2 L
def IS {J:Jr} {D:aB} (h:(J.flush D).1=0):(J.flush D).2.1=J/\(J.flush D).2.2=D.flush.2/\J.br=Y'/\D.flush.1=0:=by
 unfold Jr.flush at h ⊢
 split
 .rename_i c;rw [if_pos c] at h;exact absurd h (show (2:Int)≠0 by decide)
 .rename_i c
  rw [if_neg c] at h
  split
  .rename_i d;exact ⟨rfl,rfl,by simpa using c,d⟩
  .rename_i d;rw [if_neg d] at h;exact absurd h (show (2:Int)≠0 by decide)
theorem Im {J:Jr} (hJ:J.Ok) (hN:J.OD) {D:aB} {own:KV} {P first m:Nat}:∀ x ∈ (J.cm D own (bX J.T P first m)).1.2,0<=x.1/\x.1<3840:=by
 have hown:∀ y ∈ bX J.T P first m,0<=y.1/\y.1<3840:=by
  intro y hy;obtain ⟨p,_,hp⟩:=List.mem_filterMap.1 hy
  cases ht:told J.T.os (p:Int) with
  | none=>rw [ht] at hp;cases hp
  | some id=>
   rw [ht] at hp;injection hp with hp
   obtain ⟨k,_,hk,hv,hne⟩:=th ht;have hm:id ∈ J.T.os:=by rw [<- hv,B3,D3 hk];exact J4 hk
   have:=hN.n1;have:=hJ.ps;rcases hN.own.os id hm with e|⟨e1,e2⟩
   .exact absurd e hne
   .rw [<- hp];exact ⟨e1,by show id<3840;omega⟩
 have:∀ (L:List (Int × Int)) (s:Mv),(∀ y ∈ L,0<=y.1/\y.1<3840)->(∀ x ∈ s.1.2,0<=x.1/\x.1<3840)->∀ x ∈ (L.foldl (Jr.cU own) s).1.2,0<=x.1/\x.1<3840:=by
  intro L
  induction L with
  | nil=>intro s _ h;exact h
  | cons y L ih=>
   intro s hL h;rw [L3];refine ih _ (fun z hz=>hL z (N4 _ hz)) ?_;unfold Jr.cU
   split
   .exact h
   .split
    .exact h
    .split
     .intro x hx
      rcases List.mem_append.1 hx with hx|hx
      .exact h x hx
      .rw [List.mem_singleton.1 hx];exact hL y O4
     .intro x hx;cases hx
 exact this _ _ hown (by simp)
def P6 (S:Hp) (j d:Nat) (c:Int × Jr × aB) (F:ai) (w:O) (e:Ending) (g:O):Prop:=
 ∃ f,Ext S f/\e = .returned (V R c.1)/\ag g (qq j d c.2.1*(aR f d c.2.2*(al f*F)))/\aj w g
def SP {v:M} {Z:List Wr} (h:VQ w v Z):pC w 2 v Z.length (bT Z):=by
 refine ⟨rH Z,?_⟩;rcases h with ⟨rfl,rfl⟩|⟨g,o,c,rfl,_,_,r⟩
 .exact .inl ⟨rfl,rfl⟩
 .refine .inr ⟨_,_,rfl,fun i u d=>?_⟩
  have B:=rH Z;have z:i<Z.length*2:=Gr0
  rw [Addr.add_lit];obtain ⟨k,s⟩:∃ k,i=k*2\/i=k*2+1:=⟨i/2,Q⟩
  have e:k<Z.length:=Q
  obtain ⟨l,m⟩:=yU Z k e;obtain ⟨f,j⟩:=r k e;rw [B3,D3 e] at f j;rcases s with rfl|rfl
  .rw [l] at d;injection d with d;rw [<- d];exact f
  .rw [m] at d;injection d with d;rw [<- d];exact j
def xX (Z:List Wr) (h:∀ z ∈ Z,∃ a n c,z.2.1 = X a n c):∀ u ∈ bT Z,u.oneCell'=true:=by
 intro u d;obtain ⟨z,f,d⟩:=List.mem_flatMap.1 d;obtain ⟨a,n,c,e⟩:=h z f;simp only [List.mem_cons,List.not_mem_nil,or_false] at d;rcases d with rfl|rfl
 .rfl
 .rw [e];rfl
def yN {T:TypeId} {v:M} {Z:List Wr} {F:ai} (h:ag w (sl T 2 v Z.length (bT Z)*F)):VQ w v Z:=by
 rcases h.dq with ⟨rfl,e,_,_⟩|⟨g,d,m,rfl,f,h4,h5,o,_⟩
 .exact .inl ⟨rfl,List.eq_nil_of_length_eq_zero e⟩
 .refine .inr ⟨g,0,d,rfl,f,h4,fun k c=>?_⟩
  obtain ⟨j,l⟩:=h.kH c;rw [L5,B3,D3 c];exact ⟨j,l⟩
def Ly {n:Int} {Z:List Wr} (h:Is n Z) {z:Wr} (d:z ∈ Z):0<=z.1/\z.1<n/\z.2.2.length=480:=by
 obtain ⟨k,c,rfl⟩:=List.getElem_of_mem d;have:=h.ok k c;unfold okW at this;rw [B3,D3 c] at this;exact ⟨this.1,this.2.1,this.2.2.1⟩
def EP {T:TypeId} {S:Hp} {v:M} {l:List UInt8} (h:rC T S v l):∃ a n c,v = X a n c:=by
 rcases h.2 with ⟨rfl,_⟩|⟨g,d,e,rfl,_⟩ <;> exact ⟨_,_,_,rfl⟩
def Et {D:aB} (h:D.flush.1=0):D.flush.2.wait=[]:=by
 unfold aB.flush at h ⊢
 split
 .rfl
 .rename_i c;rw [if_neg c] at h;exact absurd h (show (2:Int)≠0 by decide)
def xw:∀ c w,(callFunc 133 c).run N w = .ok (.enter 133 c) w:=enters func133 Kr0 rfl
def EY (n t:Nat) (J:Jr) (L:Bl) (c:ai) (w:O) (i:M) (wr:O):Prop:=
 ∃ k:Nat,k<=n/\i = V R (k:Int)/\ag wr (bQ t (J.gi L k)*c)/\aj w wr
def Bg (w:O) (S:Hp) (j d:Nat) (J:Jr) (D:aB) (F:ai) (v:M) (Z:List Wr) (h:ag w (qq j d J*(aR S d D*(al S*F)))) (I:J.Ok) (hN:J.OD) (hD:D.Ok)
  (hl:Z.length<=1000000) (hr:Reads S v Z F) (u0:Bool) (hB:u0=true↔Is J.n Z) :
  Calls N 72 #[az j,v] w (P6 S j d (eZ J D u0 (cq Z)) F w):=by
 have hv:=hr S (qq j d J*aR S d D) w (Ext.refl S) (h.u00);have H1:∀ z ∈ Z,∃ a c,z.2.1 = X a z.2.2.length c:=fun z s=>(hv.2 z s).shape;have hb:=ER w j d J _ h v Z hv.1 H1 hl u0 hB
 obtain ⟨aa,ac,J2⟩:∃ aa ac,v = X aa Z.length ac:=by
  rcases hv.1 with ⟨rfl,h⟩|⟨W1,o,c,rfl,_⟩
  .rw [h];exact ⟨_,_,rfl⟩
  .exact ⟨_,_,rfl⟩
 subst J2;obtain ⟨x,hx⟩:=h.ti;obtain ⟨t,hx⟩:=hx;have c6:w.cell? ⟨j,6,W⟩=U (V .u64 J.sq):=hx.cell 6;clear hx hv;obtain ⟨R1,g⟩:=Mn0 (eZ J D u0 (cq Z))
 rw [<- g];unfold eZ at g
 cases u0 with
 | false=>
  have HR:=ae hr;rw [if_pos rfl] at g;have r:=ae g;clear hB hr c6 g
  go_in
  go_wp2_with fail
  (with_reducible apply hb.mono)
  rintro e w1 ⟨rfl,E,d1⟩;have h2:=E.cM h;clear hb E
  go_wp2
  go_ret
  exact ⟨S,Ext.refl S,by rw [r.o];rfl,by rw [r.o];exact h2,d1⟩
 | true=>
  have K0:=hB.1 rfl;rw [if_neg Si0] at g
  by_cases hq:281474976710655<=J.sq
  .rw [if_pos hq] at g
   have r:=ae g;have HM:=ae K0;have HR:=ae hr;clear hB K0 hr g
   go_in
   go_wp2_with fail
   (with_reducible apply hb.mono)
   rintro e w1 ⟨k0,rfl,E,d1⟩;have h2:=(E.under h).right;have r1:w1.cell? ⟨j,6,W⟩=U (V .u64 J.sq):=E.bV c6;clear hb E h c6
   go_wp2
   go_ret
   exact ⟨S,Ext.refl S,by rw [r.o];rfl,by rw [r.o];exact h2,d1⟩
  .rw [if_neg hq] at g
   have R2:=hN.numbers Q;have W2:Z.length<=24:=K0.n1;have X2:(Z.length:Int)<=24:=Q
   have HM:=ae K0;have HR:=ae hr;have r:=ae g;clear hB K0 hr g
   go_in
   go_wp2_with fail
   (with_reducible apply hb.mono)
   rintro e w1 ⟨k0,rfl,E,d1⟩;have h2:=E.under h;have r1:w1.cell? ⟨j,6,W⟩=U (V .u64 J.sq):=E.bV c6;clear hb E h c6;have i0:=wT w1 S j d J D (al S*(mp k0 (fG Z Z.length)*F)) (h2.u00) hD
   by_cases d0:(J.flush D).1=0
   .obtain ⟨e1,e2,K2,k2⟩:=IS d0
    have g:=r.o;rw [if_neg (by simpa using d0)] at g;clear r;have Y0:(J.flush D).2.2.Ok:=by rw [e2];exact (aB.ij hD).ok hD (by have:=hD.many;omega)
    have K1:(J.flush D).2.2.wait=[]:=by rw [e2];exact Et k2
    have o2:fG (mf (cq Z)) (cq Z).length=fG Z Z.length:=by rw [jX];exact E6 (pU _) _
    have B1:=Jr.fK I.EM Z.length;have i3:=I.TE;have f1:=fun (w2:O) (r0 t:Nat) h=>E0 w2 S j d r0 t k0 J (J.flush D).2.2 (fG Z Z.length) (J.aS Z.length).toNat F h I Y0 Q;rw [K6 B1.1] at f1;have i2:J.flush D=(0,J,(J.flush D).2.2):=Prod.ext d0 (Prod.ext e1 rfl);unfold vx fm at g;rw [o2,jX] at g;generalize (J.flush D).2.2=D1 at *;rw [i2] at i0;have f2:=Jr.wj (J:=J) (D:=D1) (own:=fG Z Z.length) (L:=bX J.T J.P (Jr.tail J) (J.aS Z.length).toNat);have Z0:=Jr.tO J Y0 (fG Z Z.length) (bX J.T J.P (Jr.tail J) (J.aS Z.length).toNat);have y1:=Jr.yZ (J:=J) (D:=D1) (own:=fG Z Z.length) (bX J.T J.P (Jr.tail J) (J.aS Z.length).toNat);have c2:=Im I hN (D:=D1) (own:=fG Z Z.length) (P:=J.P) (first:=Jr.tail J) (m:=(J.aS Z.length).toNat);have Y1:=JA (J:=J) (D:=D1) (own:=fG Z Z.length) (L:=bX J.T J.P (Jr.tail J) (J.aS Z.length).toNat)
    replace y1:(J.cm D1 (fG Z Z.length) (bX J.T J.P (Jr.tail J) (J.aS Z.length).toNat)).1.2.length<=48:=by
     have:=kR J.T J.P (Jr.tail J) (J.aS Z.length).toNat;omega
    generalize J.cm D1 (fG Z Z.length) (bX J.T J.P (Jr.tail J) (J.aS Z.length).toNat)=l0 at *;have Z1:l0.2.2.Ok:=Z0.ok Y0 (by rw [K1];simp);have g2:l0.2.2.wait.length=0:=by have:=Z0.many;rw [K1] at this;simpa using this
    have hc:(J.us<2*(Z.length:Int)/\J.aS Z.length=J.us)\/(¬ J.us<2*(Z.length:Int)/\J.aS Z.length=2*(Z.length:Int)):=by
     unfold Jr.aS
     split
     .exact .inl ⟨As0,rfl⟩
     .exact .inr ⟨As0,rfl⟩
    have r:=ae g;have U2:=ae B1;have l1:=ae Z0;have V0:=ae y1;have T0:=ae c2;have S0:=ae Y1;have k1:=ae Z1;have o1:=ae g2;have m1:=ae f2;clear d0 e1 e2 k2 K2 o2 h2 g i2 B1 Y0 K1 Z0 y1 c2 Y1 Z1 g2 f2;rcases hc with ⟨L2,a1⟩|⟨L2,a1⟩
    all_goals
     have A2:=ae a1;rw [a1] at f1;clear a1
     go_wp2_with fail
     (with_reducible apply i0.mono)
     rintro e w2 ⟨rfl,h3,d2⟩;obtain ⟨r0,t,h4⟩:=h3.Gl;have k8:w2.cell? ⟨j,8,W⟩=U (V R J.us):=h4.FM.cell 8;have n2:=f1 w2 r0 t h4;clear f1 i0 h3 r1 h4
     go_wp2_with fail
     (with_reducible apply n2.mono)
     rintro e w3 ⟨H,v3,l,m0,rfl,F0,A1,h5,d3⟩;clear n2 k8
     by_cases o0:l0.1.1=0
     .have a2:=m1.o o0
      obtain ⟨⟨mc,ml⟩,f,mD⟩:=l0;dsimp only at o0 a2 F0 h5 r l1 V0 T0 S0 k1 o1;subst o0 a2;have g:=r.o;rw [if_neg Si0] at g;obtain ⟨va,vc,rfl⟩:=aC h5.aA;have G:=h5.alloc (Y #[X aa Z.length ac,X va l.length vc] 124 (0,0));have dA:=((d1.trans d2).trans d3).alloc (Y #[X aa Z.length ac,X va l.length vc] 124 (0,0));have p2:=HR.o H (pt w3.heap.size (Y #[X aa Z.length ac,X va l.length vc] 124 (0,0))*(jQ j d r0 t f*(aR H d mD*(sl 189 2 (X va l.length vc) l.length (bT l)*mp k0 (fG Z Z.length))))) _ m0 (G.u00);have Y2:l.length<=48:=by have:=V0.o;rw [<- F0,H3] at this;exact this
      have G0:=DV (w3.alloc (Y #[X aa Z.length ac,X va l.length vc] 124 (0,0))) w3.heap.size Z.length l.length aa va ac vc (bT Z) (bT l) (G.cell 0) (G.cell 1) (SP p2.1) G.aJ.oa
       (xX Z fun z s=>by obtain ⟨a,c,e⟩:=H1 z s;exact ⟨a,_,c,e⟩) (xX l fun z s=>EP (A1 z s)) Q Q
      have e5:bT Z++bT l=bT (Z++l):=by simp [bT]
      have e6:cq Z++ml=cq (Z++l):=by rw [<- F0];simp [cq]
      rw [e5] at G0;rw [e6,jX,Jr.Am f (Z:=mf (cq (Z++l))) (Z':=Z++l) mD (pU _),D6] at g;have P2:Z.length+l.length<=72:=Q
      have E1:∀ z ∈ Z++l,0<=z.1/\z.1<3840/\z.2.2.length=480:=by
       intro z s;rcases List.mem_append.1 s with s|s
       .have:=Ly HM.o s
        have:=hN.n1;exact ⟨Q,Q,Q⟩
       .have hm:(z.1,z.2.2) ∈ ml:=by rw [<- F0];exact List.mem_map.2 ⟨z,s,rfl⟩
        have E:=T0.o _ hm;exact ⟨E.1,E.2,S0.o _ hm⟩
      have N0:∀ v5,Reads H v5 (Z++l) (sl 189 2 v5 (Z++l).length (bT (Z++l))*F):=by
       intro v5 S' T1 w' e hs;refine ⟨yN (hs.t00 (sl 189 2 v5 (Z++l).length (bT (Z++l))*(T1*(al S'*F)))),fun z s=>?_⟩;rcases List.mem_append.1 s with s|s
       .exact (HR.o S' (T1*sl 189 2 v5 (Z++l).length (bT (Z++l))) w' (m0.trans e) (hs.u00)).2 z s
       .exact ((A1 z s).mono e).rd hs.ah
      have H0:(Z++l).length=Z.length+l.length:=D6;rw [H0] at N0;generalize Z++l=m at G0 g E1 N0 H0;generalize Z.length+l.length=u at G0 g P2 N0 H0;have g0:=ae g;have B2:=ae E1;have p1:=ae N0;have D0:=ae H0;have O1:=ae G;have c3:(u:Int)<=72:=Q
      clear g r p2 e5 e6 E1 N0 H0 h5 A1 F0 l1 V0 T0 S0 m1 HR HM G H1
      go_wp2_with fail
      (with_reducible apply G0.mono)
      rintro e w5 ⟨v5,rfl,h6,d6⟩
      have H7:ag w5 (qq j d f*(aR H d mD*(al H*(sl 189 2 v5 u (bT m)*F)))):=
       ((h6.under O1.o).t00 ((pt w3.heap.size (Y #[X aa Z.length ac,X va l.length vc] 124 (0,0))*(sl 189 2 (X va l.length vc) l.length (bT l)*mp k0 (fG Z Z.length)))*(jQ j d r0 t f*(aR H d mD*(al H*(sl 189 2 v5 u (bT m)*F)))))).right.Fy
      have D7:=dA.trans d6;obtain ⟨ba,bc,rfl⟩:=aC h6;have t2:=LL w5 j d f _ H7 I;clear G0 O1 h6 d6 dA d1 d2 d3
      go_wp2_with fail
      (with_reducible apply t2.mono)
      rintro e w6 ⟨rfl,h8,d8⟩;have H8:=h8.cM H7;have D8:=D7.trans d8;clear t2 h8 d8 H7 D7
      by_cases m2:(f.P:Int)-f.us-f.fr<(u:Int)
      .have g:=g0.o
       rw [if_pos m2] at g;have h0:=ae g;have v2:=ae H8;clear g g0 H8
       go_wp2
       go_ret
       exact ⟨H,m0,by rw [h0.o];rfl,by rw [h0.o];exact (v2.o.t00 (sl 189 2 (X ba u bc) u (bT m)*(qq j d f*(aR H d mD*(al H*F))))).right,D8⟩
      .have g:=g0.o
       rw [if_neg m2] at g;have R0:=Eh w6 H j d f mD _ (X ba u bc) m H8 I R2 k1.o (by have:=o1.o;have:=D0.o;omega) (by have:=D0.o;omega) B2.o (p1.o _);rw [D0.o] at R0;generalize hW:f.bP mD m u=W0 at R0 g;obtain ⟨rc,D4⟩:=W0;dsimp only at R0 g;have h0:=ae g;clear g g0 H8 hW
       go_wp2_with fail
       (with_reducible apply R0.mono)
       rintro e w7 ⟨K,x1,rfl,B,d9⟩;have D9:=D8.trans d9;clear R0 d9 D8
       by_cases j0:rc=0
       .have g:=h0.o
        dsimp only at B;rw [if_neg (by simpa using j0)] at g;rw [if_pos j0] at B;subst j0;have u2:∀ z ∈ m,∃ a c,z.2.1 = X a z.2.2.length c:=fun z s=>((p1.o _ K (qq j d f*aR K d D4) w7 x1 (B.u00)).2 z s).shape;obtain ⟨C,t4,X1⟩:=B.Gl;obtain ⟨S1,z1⟩:=Mn0 (aR K d D4*(al K*F))
        have M1:ag w7 (bQ t4 (f.gi (cq m) 0)*(pt j (Y (f.cells d C t4) 184 (0,0))*(bZ C (cF f.P)*(sl 189 2 (X ba u bc) u (bT m)*S1)))):=
         X1.FM.to (by rw [z1];show _=bQ t4 f.T*_;ac_rfl)
        have y2:=ae z1;have E2:=ae u2;have x0:=ae g;clear B X1 z1 u2 g h0 p1
        go_wp2_with fail
        go_loopw [70] (fun i wr=>EY u t4 f (cq m) (pt j (Y (f.cells d C t4) 184 (0,0))*(bZ C (cF f.P)*(sl 189 2 (X ba u bc) u (bT m)*S1))) w i wr) (fun i _=>u-(intOf i).toNat)
        case atStart=>exact ⟨0,Nat.zero_le _,rfl,M1,D9⟩
        case round=>
         clear M1 D9;obtain ⟨k,hk,rfl,q0,g1⟩:=hrel
         by_cases Z2:k<u
         .have b3:(k:Int)<(u:Int):=Q
          have M2:=D0.o;have c1:k<m.length:=Q
          obtain ⟨W1,gc,hg⟩:=qU q0.aA Q;obtain ⟨rfl,rfl⟩:ba=U ⟨W1,0,W⟩/\bc=gc:=by injection hg with e1 e2 e3;exact ⟨e1,e3⟩
          obtain ⟨q1,q2⟩:=q0.aA.kH c1;obtain ⟨da,dc,hd⟩:=E2.o _ (J4 c1);have p0:=(gp m k).1;rw [B3,D3 c1,L6] at p0;have S2:=Tb.oF;have h1:f.gi (cq m) (k+1)=((f.gi (cq m) k).put m[k].1 ((f.hd+(k:Int))%(f.P:Int))).2:=by rw [p0];rfl
          have j2:=FU I.T (cq m) k;generalize m[k]=z at q1 q2 hd h1;obtain ⟨id,dv,db⟩:=z;dsimp only at q1 q2 hd h1;subst hd;generalize db.length=dl at q2;have G:=q0.alloc (Y #[V R id,X da dl dc] 189 (0,0));have dA:=g1.alloc (Y #[V R id,X da dl dc] 189 (0,0));have H2:=ae h1;have z2:=ae j2;clear q0 g1 h1 j2 p0 S2 M2 c1 hg
          go_wp2_with fail
          generalize wr.alloc (Y #[V R id,X da dl dc] 189 (0,0))=P at G dA ⊢;generalize wr.heap.size=bw at G ⊢;have s0:P.cell? ⟨bw,0,W⟩=U (V R id):=G.cell 0;have s1:P.cell? ⟨j,1,W⟩=U (az C):=G.au.cell 1;have s2:P.cell? ⟨j,2,W⟩=U (az t4):=G.au.cell 2;have s7:P.cell? ⟨j,7,W⟩=U (V R f.hd):=G.au.cell 7;have u1:=ag.drew G;have e0:=zu P.drew C (cF f.P) f.hd (k:Int) _ u1.aA (by rw [aV];exact I.p0) (by rw [aV];have:=I.p1;omega);rw [aV] at e0;have L0:=fp P.drew t4 (f.gi (cq m) k) id ((f.hd+(k:Int))%(f.P:Int)) _ u1.ah z2.o;rw [<- H2.o] at L0;generalize (f.hd+(k:Int))%(f.P:Int)=pl at e0 L0;generalize ((f.gi (cq m) k).put id pl).1=pb at L0;clear G u1 q1 q2
          go_region_held3 (fun w'=>w'.cell? ⟨bw,0,W⟩=U (V R id)/\w'.cell? ⟨j,1,W⟩=U (az C)/\w'.cell? ⟨j,2,W⟩=U (az t4)/\w'.cell? ⟨j,7,W⟩=U (V R f.hd)) (first|(with_reducible exact ⟨b0,b1,b2,b7⟩)|exact ⟨s0,s1,s2,s7⟩) (first
           | (go_at_call 133;(with_reducible apply e0.mono);rintro e w9 ⟨rfl,rfl⟩)
           | (go_at_call 132;(with_reducible apply L0.mono);rintro e w9 ⟨rfl,B,d9⟩;have b0:w9.cell? ⟨bw,0,W⟩=U (V R id):=B.ah.cell 0;have b1:w9.cell? ⟨j,1,W⟩=U (az C):=B.au.cell 1;have b2:w9.cell? ⟨j,2,W⟩=U (az t4):=B.au.cell 2;have b7:w9.cell? ⟨j,7,W⟩=U (V R f.hd):=B.au.cell 7))
          have H9:=ae B.iD;have DD:=ae (dA.drew.trans d9);clear B d9 dA e0 L0 s0 s1 s2 s7 b0 b1 b2 b7
          go_wp2
          go_roundw
          case rel=>exact ⟨k+1,Q,by go_num,H9.o,DD.o⟩
          case measure=>simp [intOf];omega
         .obtain rfl:k=u:=Q
          have hB:=q0.ah;have k6:wr.cell? ⟨j,6,W⟩=U (V .u64 f.sq):=hB.cell 6;have f6:=hB.frozen 6;have c0:=hB.setCell 6 (V .u64 (f.sq+1));have t1:=g1.setCell ⟨j,6,W⟩ (V .u64 (f.sq+1))
          have f3:IntKind.u64.wrap (f.sq+1)=f.sq+1:=by
           have:=hN.Ua;rw [IntKind.wrap_u64];omega
          have i1:=ae c0;clear q0 g1 hB c0
          go_wp2_with fail
          generalize wr.setCell ⟨j,6,W⟩ (V .u64 (f.sq+1))=P at i1 t1 ⊢;have c0:=i1.o;have s1:P.cell? ⟨j,1,W⟩=U (az C):=c0.cell 1;have s7:P.cell? ⟨j,7,W⟩=U (V R f.hd):=c0.cell 7;have f7:=c0.frozen 7;have N2:=c0.lt;have e0:=zu P.drew C (cF f.P) f.hd (k:Int) _ (c0.au.drew) (by rw [aV];exact I.p0) (by rw [aV];have:=I.p1;omega);rw [aV] at e0;generalize p0:(f.hd+(k:Int))%(f.P:Int)=pl at e0;have f0:=c0.setCell 7 (V R pl);have T2:(P.setCell ⟨j,7,W⟩ (V R pl)).cell? ⟨j,1,W⟩=U (az C):=f0.cell 1;have U1:=(t1.setCell ⟨j,7,W⟩ (V R pl)).drew;have j1:=ae (ag.drew f0);have D2:=ae p0;clear c0 i1 f0 p0 k6 f6 t1
          go_region_law (refine pQ e0 xw rfl _ _ rfl Rf0 ?_;rintro e w9 ⟨rfl,rfl⟩;refine ⟨_,rfl,?_⟩)
          all_goals
           clear s1 T2 s7 f7 N2 e0;generalize (P.setCell ⟨j,7,W⟩ (V R pl)).drew=w9 at j1 U1 ⊢;have f0:=j1.o;have s8:w9.cell? ⟨j,8,W⟩=U (V R f.us):=f0.cell 8;have f8:=f0.frozen 8;have X0:=f0.setCell 8 (V R (f.us+((k:Int)-f.aS Z.length)));have s9:(w9.setCell ⟨j,8,W⟩ (V R (f.us+((k:Int)-f.aS Z.length)))).cell? ⟨j,9,W⟩=U (V R f.fr):=X0.cell 9;have f9:=X0.frozen 9;have v1:=X0.setCell 9 (V R (f.aS Z.length));have V1:=(U1.setCell ⟨j,8,W⟩ (V R (f.us+((k:Int)-f.aS Z.length)))).setCell ⟨j,9,W⟩ (V R (f.aS Z.length))
           have l2:ag ((w9.setCell ⟨j,8,W⟩ (V R (f.us+((k:Int)-f.aS Z.length)))).setCell ⟨j,9,W⟩ (V R (f.aS Z.length))) (qq j d R1.2.1*(aR K d R1.2.2*(al K*F))):=by
            rw [x0.o];rw [<- D2.o,y2.o] at v1;have hL:(cq m).length=k:=by rw [jX];exact D0.o
            have e:(f.cells d C t4).setIfInBounds 6 (V .u64 (f.sq+1))=(f.cells d C t4).setIfInBounds 6 (V .u64 (f.sq+1)):=rfl;have E:=(v1.t00 (sl 189 2 (X ba k bc) k (bT m)*(pt j (Y (((((f.cells d C t4).setIfInBounds 6 (V .u64 (f.sq+1))).setIfInBounds 7 (V R ((f.hd+(k:Int))%(f.P:Int)))).setIfInBounds 8 (V R (f.us+((k:Int)-f.aS Z.length)))).setIfInBounds 9 (V R (f.aS Z.length))) 184 (0,0))*(bZ C (cF f.P)*(bQ t4 (f.gi (cq m) k)*(aR K d D4*(al K*F))))))).right;refine ag.Ak (r:=C) (t:=t4) ?_;unfold Jr.done;rw [hL];exact E
           have N1:=ae l2;have L1:=ae V1;rw [A2.o] at N1 L1 s9 f9;have V2:(f.P:Int)<=20000:=by have:=I.p1;omega
           have g3:=I.EM;clear f0 j1 X0 v1 V1 l2
           go_wp2
           go_ret
           exact ⟨K,m0.trans x1,by rw [x0.o];rfl,N1.o,L1.o⟩
       .have r2:(rc == 0)=Y':=by simpa using j0
        have g:=h0.o;dsimp only at B;rw [if_pos j0] at g;rw [if_neg j0] at B;have x0:=ae g;have x2:=ae B;clear g h0 B j0
        go_wp2
        go_ret
        exact ⟨K,m0.trans x1,by rw [x0.o];rfl,by rw [x0.o];exact (x2.o.t00 (sl 189 2 (X ba u bc) u (bT m)*(qq j d { f with br:=true }*(aR K d D4*(al K*F))))).right,D9⟩
     .have O2:(l0.1.1 == 0)=Y':=by simpa using o0
      have g:=r.o;rw [if_pos o0] at g;obtain ⟨⟨mc,ml⟩,f,mD⟩:=l0;dsimp only at O2 h5 g;have g0:=ae g;clear o0 g r l1 V0 T0 S0 k1 o1 m1
      go_wp2
      go_ret
      exact ⟨H,m0,by rw [g0.o];rfl,by rw [g0.o];exact (h5.t00 ((sl 189 2 v3 l.length (bT l)*mp k0 (fG Z Z.length))*(jQ j d r0 t f*(aR H d mD*(al H*F))))).right.Fy,(d1.trans d2).trans d3⟩
   .have g:=r.o
    rw [if_pos d0] at g;clear r;generalize hR:J.flush D=W0 at i0 d0 g;have r2:(W0.1 == 0)=Y':=by simpa using d0
    obtain ⟨rc,J',D'⟩:=W0;dsimp only at i0 r2 d0;have r:=ae g;clear hR d0 h2 g
    go_wp2_with fail
    (with_reducible apply i0.mono)
    rintro e w2 ⟨rfl,h3,d2⟩;clear i0 r1
    go_wp2
    go_ret
    exact ⟨S,Ext.refl S,by rw [r.o];rfl,by rw [r.o];exact (h3.t00 (mp k0 (fG Z Z.length)*_)).right,d1.trans d2⟩
end Go.Proofs.Nn
namespace Go.SL
open RowKit
variable {α:Type}
def Lh (t:Tg) (k:Nat):(rk t k).length=mg k:=by
 induction k with
 | zero=>rfl
 | succ k c=>rw [l8,D6,c,bp,sF]
def GP (t:Tg) (k:Nat) (f:k<9):∃ rest,enc t=rk t k++(dD (t.field k) (eA k)++rest):=by
 obtain ⟨m,c⟩:∃ m,9=k+1+m:=⟨8-k,Q⟩
 unfold enc;rw [c];clear c
 induction m with
 | zero=>exact ⟨[],by rw [Nat.add_zero,l8,List.append_nil]⟩
 | succ m e=>
  obtain ⟨r,d⟩:=e;exact ⟨r++dD (t.field (k+1+m)) (eA (k+1+m)),by rw [<- P7,l8,d];simp only [P3]⟩
def PZ (t:Tg) (b:List UInt8) (k:Nat) (c:k<9):iM ((enc t++b).drop (mg k)) (eA k)=t.field k%(256:Int) ^ eA k:=by
 obtain ⟨r,d⟩:=GP t k c;rw [d,P3,<- Lh t k,List.drop_left,P3,mE _ _ _ _ (J3 _)]
def Oe {t:Tg} (r:t.Fit) (c:t.ok=true) (b:List UInt8):iR (enc t++b) 9=t:=by
 have h:∀ k,k<9->iR (enc t++b) (k+1)=(iR (enc t++b) k).set (t.field k%(256:Int) ^ eA k) k:=fun k s=>by
  rw [iR,PZ t b k s]
 rw [h 8 Q,h 7 Q,h 6 Q,h 5 Q,h 4 Q,h 3 Q,h 2 Q,h 1 Q,h 0 Q];simp only [Tg.ok,Bool.and_eq_true,decide_eq_true_eq,and_assoc] at c;obtain ⟨u,B,C,E,F,G,H,I,K,w,z⟩:=c;obtain ⟨d,e,f,g,j,l,m,o⟩:=r;obtain ⟨S,st,sq,fl,ix,P,id⟩:=t;simp only at u B C E F G H I K w z d e f g j l m o;simp only [iR,Tg.set,Tg.field,eA,GX,Tg.zero,wrap64];congr 1 <;> omega
def AM {t:Tg} (f:t.Fit) (c:t.ok=true) (b:List UInt8):cV (enc t++b)=U (t,b):=by
 have d:=Oe f c b;have e:(enc t++b).drop 32=b:=by rw [<- dK t,List.drop_left]
 unfold cV;rw [d,e,if_pos ⟨c,rfl⟩]
structure aB.Calm (D:aB):Prop where
 down:D.down=false
 fi:D.fi=false
def aB.Calm.di {D:aB} (h:D.Calm):D.di=D:=by
 unfold aB.di;rw [h.fi];simp
def aB.Calm.begun {D:aB} (h:D.Calm):D.begun=D:=by
 unfold aB.begun;rw [h.di,h.down,h.fi];simp
def aB.Calm.cT {D:aB} (h:D.Calm):D.cT=0:=by
 unfold aB.cT;rw [h.di,h.down];simp
def aB.Calm.read {D:aB} (h:D.Calm) {a:Int} (c:D.has a):D.read a=(D.cD a,{ D with cr:=cE (D.cr+1) }):=by
 unfold aB.read;rw [if_pos c,if_pos h.cT,h.begun]
def aB.Calm.write {D:aB} (h:D.Calm) {a:Int} (c:D.has a) {l:List UInt8} (d:l.length=512):D.write a l=(0,{ D with cw:=cE (D.cw+1),wait:=D.wait++[(a,l)] }):=by
 unfold aB.write;rw [if_pos ⟨c,d⟩,if_pos h.cT,h.begun]
def aB.Calm.flush {D:aB} (h:D.Calm):D.flush=(0,D.aH):=by
 unfold aB.flush;rw [if_pos h.cT,h.begun]
def re (D:aB) (l:List (Int × List UInt8)):(D.bU l).down=D.down/\(D.bU l).fi=D.fi/\(D.bU l).cr=D.cr/\(D.bU l).cw=D.cw/\(D.bU l).cf=D.cf/\(D.bU l).left=D.left/\(D.bU l).bF=D.bF/\(D.bU l).wait=D.wait:=by
 unfold aB.bU
 induction l generalizing D with
 | nil=>exact ⟨rfl,rfl,rfl,rfl,rfl,rfl,rfl,rfl⟩
 | cons x l c=>rw [L3];exact c _
def Dy (a:Int):ew [] a=W:=rfl
def js (l:List (Int × List UInt8)) (x:Int × List UInt8) (a:Int):ew (l++[x]) a=if x.1=a then U x.2 else ew l a:=by
 unfold ew;rw [List.reverse_append,List.reverse_cons,List.reverse_nil,List.nil_append,List.singleton_append,List.find?_cons]
 by_cases h:x.1=a
 .rw [if_pos h];simp [h]
 .rw [if_neg h]
  have:(x.1 == a)=Y':=by simpa using h
  rw [this]
def BN (l:List (Int × List UInt8)) (x:Int × List UInt8) (a:Int):ew (x :: l) a=match ew l a with|some y=>U y|none=>if x.1=a then U x.2 else W:=by
 unfold ew;rw [List.reverse_cons,List.find?_append]
 cases h:l.reverse.find? (fun x=>x.1 == a) with
 | some y=>simp
 | none=>
  by_cases e:x.1=a
  .simp [e]
  .have:(x.1 == a)=Y':=by simpa using e
   simp [e]
def jS (p:Int × α) (c:List (Int × α)) (y:Int):aM (p :: c) y=if p.1=y then U p.2 else aM c y:=by
 unfold aM;rw [List.find?_cons]
 by_cases h:p.1=y
 .simp [h]
 .have:(p.1 == y)=Y':=by simpa using h
  rw [this,if_neg h]
def vE (d:List (Int × α)) (x y:Int):aM (del d x) y=if y=x then W else aM d y:=by
 induction d with
 | nil=>simp [del,aM]
 | cons p d f=>
  have e:del (p :: d) x=if p.1=x then del d x else p :: del d x:=by
   unfold del;rw [List.filter_cons]
   by_cases h:p.1=x
   .simp [h]
   .have:(p.1 == x)=Y':=by simpa using h
    simp [this,h]
  rw [e]
  by_cases h:p.1=x
  .rw [if_pos h,f,jS]
   by_cases c:y=x
   .rw [if_pos c,if_pos c]
   .rw [if_neg c,if_neg c,if_neg (by rw [h];exact fun q=>c q.symm)]
  .rw [if_neg h,jS,jS,f]
   by_cases c:p.1=y
   .rw [if_pos c,if_pos c,if_neg (by rw [<- c];exact h)]
   .rw [if_neg c,if_neg c]
def DT (D:aB) (x:Int × List UInt8) (s:D.has x.1) (c:D.wait=[]) (a:Int) (g:D.has a):(D.done x).cD a=if x.1=a then (0,bY 512 x.2) else D.cD a:=by
 have r:=(D.lW x).2.1.trans c;have o:aM (D.done x).nz a=if a=x.1 then W else aM D.nz a:=vE D.nz x.1 a
 have l:(D.done x).sec=D.sec.set x.1.toNat x.2:=rfl;unfold aB.cD;simp only [r,c,Dy,o,l];obtain ⟨a0,w⟩:=g;obtain ⟨u,z⟩:=s;obtain ⟨k,rfl⟩:=K5 a0;obtain ⟨j,h⟩:=K5 u;rw [h,J7,J7]
 by_cases e:j=k
 .subst e
  rw [if_pos rfl,if_pos rfl];have:j<D.sec.length:=Q
  simp [B3,Q6,this]
 .have d:¬ (k:Int)=(j:Int):=Q
  have f:¬ (j:Int)=(k:Int):=Q
  rw [if_neg d,if_neg f];have m:(D.sec.set j x.2).getD k []=D.sec.getD k []:=Gr0
  rw [m]
def B4 (D:aB) (x:Int × List UInt8) (a:Int):(D.done x).has a↔D.has a:=by unfold aB.has;rw [(D.lW x).1]
def xM (l:List (Int × List UInt8)):∀ (D:aB),D.wait=[]->(∀ x ∈ l,D.has x.1)->∀ a,D.has a->(D.bU l).cD a=match ew l a with|some y=>(0,bY 512 y)|none=>D.cD a:=by
 induction l with
 | nil=>intro D _ _ a _;rfl
 | cons x l g=>
  intro D e d a c;have f:=g (D.done x) ((D.lW x).2.1.trans e) (fun y hy=>(B4 D x _).2 (d y (N4 _ hy))) a ((B4 D x a).2 c);show (aB.bU (D.done x) l).cD a=_
  rw [f,BN]
  cases h:ew l a with
  | some y=>rfl
  | none=>
   simp only;rw [DT D x (d x O4) e a c]
   split <;> rfl
def fJ {D:aB} (s:D.Ok) (a:Int) (u:D.has a):D.aH.cD a=D.cD a:=by
 have h:=xM D.wait { D with cf:=cE (D.cf+1),wait:=[] } rfl (fun x w=>s.wait x w) a u
 have e:D.aH=({ D with cf:=cE (D.cf+1),wait:=[] }:aB).bU D.wait:=by
  have:∀ (l:List (Int × List UInt8)) (A B:aB),A.sec=B.sec->A.nz=B.nz->A.cr=B.cr->A.cw=B.cw->A.cf=B.cf->A.down=B.down->A.fi=B.fi->A.left=B.left->A.bF=B.bF->B.wait=[] ->
    ({ l.foldl aB.done A with wait:=[] }:aB)=l.foldl aB.done B:=by
   intro l
   induction l with
   | nil=>
    intro A B c f g h4 h5 j m o r d;obtain ⟨C,F,G,H,I,K,P,S,b9,E⟩:=B;subst c f g h4 h5 j m o r d
    rfl
   | cons x l z=>
    intro A B c f g h4 h5 j m o r d;exact z _ _ (by simp [aB.done,c]) (by simp [aB.done,f]) g h4 h5 j m o r d
  exact this _ _ _ rfl rfl rfl rfl rfl rfl rfl rfl rfl rfl
 rw [e,h];unfold aB.cD
 cases hn:ew D.wait a with
 | some y=>rfl
 | none=>rfl
def iz {D:aB} (h:D.Calm):D.aH.Calm:=by
 have:=re { D with cf:=cE (D.cf+1) } D.wait;exact ⟨this.1.trans h.down,this.2.1.trans h.fi⟩
def bu (D:aB):D.aH.cr=D.cr/\D.aH.cw=D.cw/\D.aH.cf=cE (D.cf+1)/\D.aH.sec.length=D.sec.length:=by
 have:=re { D with cf:=cE (D.cf+1) } D.wait;exact ⟨this.2.2.1,this.2.2.2.1,this.2.2.2.2.1,(aB.tX _ _).1⟩
def tL (D:aB) (a:Int) (l:List UInt8) (n:Int) (b:Int):({ D with cw:=n,wait:=D.wait++[(a,l)] }:aB).cD b=if a=b then (0,bY 512 l) else D.cD b:=by
 unfold aB.cD;simp only [js]
 by_cases h:a=b
 .simp [h]
 .simp [h]
structure Tb.OB (T:Tb):Prop where
 pq:∀ id p,told T.ps id=some p->told T.os p=some id
 qp:∀ id p,told T.os p=some id->told T.ps id=some p
def kr {l:List Int} {i v:Int} (h:told l i=U v):0<=i/\i<l.length/\v ≠ -1:=by
 unfold told at h
 split at h
 .rename_i c
  injection h with h
  exact ⟨c.1,c.2.1,by rw [<- h];exact c.2.2⟩
 .cases h
def told_none {l:List Int} {i:Int} (h:told l i=W) (c:0<=i) (d:i<l.length):l.getD i.toNat 0=-1:=by
 unfold told at h
 split at h
 .cases h
 .rename_i e
  exact Classical.byContradiction fun q=>e ⟨c,d,q⟩
def rq {l:List Int} {i:Int} (f:0<=i) (g:i<l.length) (v x:Int):told (l.set i.toNat v) x=if x=i then (if v=-1 then W else U v) else told l x:=by
 obtain ⟨k,rfl⟩:=K5 f;have m:k<l.length:=Q
 unfold told;rw [List.length_set,J7]
 by_cases d:x=(k:Int)
 .subst d
  rw [if_pos rfl,J7];have e:(l.set k v).getD k 0=v:=by simp [B3,Q6,m]
  rw [e]
  by_cases hv:v=-1
  .rw [if_pos hv,if_neg (fun q=>q.2.2 hv)]
  .rw [if_neg hv,if_pos ⟨Q,g,hv⟩]
 .rw [if_neg d]
  by_cases c:0<=x
  .obtain ⟨j,rfl⟩:=K5 c
   rw [J7];have h:k≠j:=Q
   have e:(l.set k v).getD j 0=l.getD j 0:=by simp only [B3,Q6];rw [if_neg h]
   rw [e]
  .rw [if_neg (fun q=>c q.1),if_neg (fun q=>c q.1)]
def Tb.A8 (T:Tb) (id:Int):(T.drop id).2.ps.length=T.ps.length/\(T.drop id).2.os.length=T.os.length:=by
 unfold Tb.drop
 split <;> simp
section
variable {T:Tb}
def Tb.QF (h:T.OB) (id:Int) (x:Int):told (T.drop id).2.ps x=if x=id then W else told T.ps x:=by
 unfold Tb.drop
 cases c:told T.ps id with
 | none=>
  simp only
  split
  .rename_i e;rw [e,c]
  .rfl
 | some p=>
  have d:=kr c;rw [rq d.1 d.2.1];simp
def Tb.Qw (h:T.OB) (id:Int) (q:Int):told (T.drop id).2.os q=if told T.ps id=U q then W else told T.os q:=by
 unfold Tb.drop
 cases f:told T.ps id with
 | none=>simp
 | some p=>
  have d:=kr (h.pq _ _ f);rw [rq d.1 d.2.1]
  by_cases e:q=p
  .subst e;simp
  .rw [if_neg e,if_neg (by intro c;injection c with c;exact e c.symm)]
def Tb.DB (h:T.OB) {id p:Int} (c:0<=id) (d:id<T.ps.length) (f:0<=p) (g:p<T.os.length) (l:told T.os p=W) (x:Int) :
  told (T.put id p).2.ps x=if x=id then U p else told T.ps x:=by
 have j:=told_none l f g;unfold Tb.put;rw [if_pos ⟨c,d,f,g,.inl j⟩];rw [rq c (by rw [(Tb.A8 T id).1];exact d),T.QF h]
 by_cases e:x=id
 .rw [if_pos e,if_pos e,if_neg Q]
 .rw [if_neg e,if_neg e,if_neg e]
def Tb.DR (h:T.OB) {id p:Int} (j:0<=id) (l:id<T.ps.length) (c:0<=p) (d:p<T.os.length) (g:told T.os p=W) (q:Int) :
  told (T.put id p).2.os q=if q=p then U id else if told T.ps id=U q then W else told T.os q:=by
 have f:=told_none g c d;unfold Tb.put;rw [if_pos ⟨j,l,c,d,.inl f⟩];rw [rq c (by rw [(Tb.A8 T id).2];exact d),T.Qw h]
 by_cases e:q=p
 .rw [if_pos e,if_pos e,if_neg Q]
 .rw [if_neg e,if_neg e]
def Tb.Pz (h:T.OB) {id p:Int} (j:0<=id) (l:id<T.ps.length) (m:0<=p) (o:p<T.os.length) (f:told T.os p=W):(T.put id p).2.OB:=by
 constructor
 .intro x q c
  rw [Tb.DB h j l m o f] at c;rw [Tb.DR h j l m o f]
  by_cases e:x=id
  .rw [if_pos e] at c;injection c with c
   rw [if_pos c.symm,e]
  .rw [if_neg e] at c
   have d:=h.pq _ _ c;have s:q≠p:=by rintro rfl;rw [f] at d;cases d
   rw [if_neg s]
   have g:told T.ps id≠U q:=by
    intro r;have h4:=h.pq _ _ r;rw [d] at h4;injection h4 with h4;exact e h4
   rw [if_neg g,d]
 .intro x q c
  rw [Tb.DR h j l m o f] at c;rw [Tb.DB h j l m o f]
  by_cases e:q=p
  .rw [if_pos e] at c;injection c with c
   rw [if_pos c.symm,e]
  .rw [if_neg e] at c
   split at c
   .cases c
   .rename_i d
    have g:=h.qp _ _ c;have:x≠id:=by rintro rfl;exact d g
    rw [if_neg this,g]
end
def Tb.iX (b p:Nat) (i:Int):told (Tb.fresh b p).ps i=W/\told (Tb.fresh b p).os i=W:=by
 constructor
 .unfold told
  rw [if_neg];rintro ⟨e,c,d⟩;apply d;simp only [Tb.fresh,S6] at c;have:i.toNat<b:=Q
  simp [Tb.fresh,B3,S5,this]
 .unfold told
  rw [if_neg];rintro ⟨e,c,d⟩;apply d;simp only [Tb.fresh,S6] at c;have:i.toNat<p:=Q
  simp [Tb.fresh,B3,S5,this]
def Tb.Iq (b p:Nat):(Tb.fresh b p).OB:=
 ⟨fun i q h=>(by rw [(Tb.iX b p i).1] at h;cases h),fun i q h=>(by rw [(Tb.iX b p q).2] at h;cases h)⟩
def mB {a b P:Int} (d:b<a) (e:a<b+P):a%P≠b%P:=by
 intro h;have:=Int.emod_emod_of_dvd a (Int.dvd_refl P);have c:=Int.emod_eq_emod_iff_emod_sub_eq_zero.1 h;rw [R4 Q Q] at c;omega
structure VC (J:Jr) (L:Bl) (k:Nat):Prop where
 Kh:(J.gi L k).OB
 ps:∀ x,told (J.gi L k).ps x=match (L.take k).findIdx? (fun y=>y.1 == x) with|some i=>some ((J.hd+(i:Int))%(J.P:Int))|none=>told J.T.ps x
 os:∀ q x,told (J.gi L k).os q=some x->(∃ i:Nat,i<k/\q=(J.hd+(i:Int))%(J.P:Int)/\(L.getD i (0,[])).1=x)\/(told J.T.os q=some x/\x ∉ (L.take k).map A3)
def Ab (l:List α) (a:α) (f:α->Bool):(l++[a]).findIdx? f=match l.findIdx? f with|some i=>U i|none=>if f a then U l.length else W:=Gr0
def iZ {L:Bl} {x:Int}:L.findIdx? (fun y=>y.1 == x)=W↔x ∉ L.map A3:=Gr0
def G8 (L:List α) (k:Nat) (d:α) (h:k<L.length):L.take (k+1)=L.take k++[L.getD k d]:=Sa0
def UO (J:Jr) (u:J.Ok) (S:J.T.OB) (L:Bl) (c0:∀ x ∈ L,0<=x.1/\x.1<J.n) (e0:(L.map A3).Nodup) (i0:(L.length:Int)<=J.P)
  (b0:∀ i:Nat,i<L.length->told J.T.os ((J.hd+(i:Int))%(J.P:Int))=W):∀ k,k<=L.length->VC J L k:=by
 have hps:=u.ps;have g0:=u.os;intro k
 induction k with
 | zero=>
  intro _;exact ⟨S,fun x=>rfl,fun q x h=>.inr ⟨h,Si0⟩⟩
 | succ k ih=>
  intro hk;obtain ⟨d,F,s⟩:=ih Q;have f:k<L.length:=Q
  have hm:L.getD k (0,[]) ∈ L:=by rw [B3,D3 f];exact J4 _
  obtain ⟨l,i1⟩:=c0 _ hm;have j:=G8 L k (0,[]) f;have h0:J.gi L (k+1)=((J.gi L k).put (L.getD k (0,[])).1 ((J.hd+(k:Int))%(J.P:Int))).2:=rfl;have z:=J.wg L k;have o:0<=(J.hd+(k:Int))%(J.P:Int):=K9 _ Q;have r:(J.hd+(k:Int))%(J.P:Int)<(J.gi L k).os.length:=by rw [z.2,g0];exact R3 _ Q
  have g:told (J.gi L k).os ((J.hd+(k:Int))%(J.P:Int))=W:=by
   cases h:told (J.gi L k).os ((J.hd+(k:Int))%(J.P:Int)) with
   | none=>rfl
   | some x=>
    rcases s _ _ h with ⟨i,hi,e,_⟩|⟨e,_⟩
    .exact absurd e (mB Q Q)
    .rw [b0 k f] at e;cases e
  have m:(L.getD k (0,[])).1<((J.gi L k).ps.length:Int):=by rw [z.1,hps];exact i1
  have f0:(L.getD k (0,[])).1 ∉ (L.take k).map A3:=by
   intro c;have B:((L.take (k+1)).map A3).Nodup:=e0.sublist ((List.take_sublist _ _).map _);rw [j,E5,K8] at B;exact B.2.2 _ c _ Si0 rfl
  have E:=Tb.DB d l m o r g;have C:=Tb.DR d l m o r g;have w:=Tb.Pz d l m o r g;rw [<- h0] at E C w;refine ⟨w,fun x=>?_,fun q x c=>?_⟩
  .rw [E,j,Ab,F]
   have d0:(L.take k).length=k:=by rw [List.length_take];omega
   by_cases e:x=(L.getD k (0,[])).1
   .rw [if_pos e,e,iZ.2 f0]
    simp [d0]
   .rw [if_neg e]
    cases hf:(L.take k).findIdx? (fun y=>y.1 == x) with
    | some i=>rfl
    | none=>
     have:((L.getD k (0,[])).1 == x)=Y':=by simp only [beq_eq_false_iff_ne,ne_eq];exact fun q=>e q.symm
     rw [this];rfl
  .rw [C] at c
   by_cases e:q=(J.hd+(k:Int))%(J.P:Int)
   .rw [if_pos e] at c
    injection c with c
    exact .inl ⟨k,Q,e,c⟩
   .rw [if_neg e] at c
    split at c
    .cases c
    .rename_i I
     rcases s _ _ c with ⟨i,hi,G,H⟩|⟨K,P⟩
     .exact .inl ⟨i,Q,G,H⟩
     .refine .inr ⟨K,?_⟩
      rw [j,E5,S9];rintro (h4|h4)
      .exact P h4
      .simp only [List.map_cons,List.map_nil,List.mem_singleton] at h4
       exact I (by rw [<- h4];exact d.qp _ _ c)
end Go.SL
namespace Go.Proofs.Nn
open RowKit SL
abbrev Has:=Int->Option (List UInt8)
structure fP (J:Jr) (D:aB) (has:Has):Prop where
 ok:J.Ok
 nums:J.OD
 Kk:D.Ok
 br:J.br=false
 calm:D.Calm
 sec:(J.P:Int)+1<=D.sec.length
 Kh:J.T.OB
 rm:J.us+J.fr<=J.P
 win:∀ p id,told J.T.os p=some id->∃ a:Int,J.hd-J.us<=a/\a<J.hd/\p=a%(J.P:Int)
 uq:∀ id p,told J.T.ps id=some p->∃ t b,has id=some b/\b.length=480/\D.cD (p+1)=(0,enc t++b)/\t.id=id/\t.ok=true/\t.Fit
 Ut:∀ id,told J.T.ps id=none->has id=none
def fP.place {J:Jr} {D:aB} {has:Has} (h:fP J D has) {id p:Int} (c:told J.T.ps id=U p):0<=p/\p<J.P:=by
 have:=kr (h.Kh.pq _ _ c);have e:=h.ok.os;exact ⟨this.1,by have:=this.2.1;omega⟩
def fP.Bw {J:Jr} {D:aB} {has:Has} (h:fP J D has) {id p:Int} (c:told J.T.ps id=U p):D.has (p+1):=by
 have:=h.place c;have:=h.sec;exact ⟨Q,Q⟩
def fP.dev {J:Jr} {D D':aB} {has:Has} (h:fP J D has) (l:D'.Ok) (g:D'.Calm) (j:D'.sec.length=D.sec.length) (m:∀ a,D.has a->D'.cD a=D.cD a):fP J D' has:=
 ⟨h.ok,h.nums,l,h.br,g,by rw [j];exact h.sec,h.Kh,h.rm,h.win,fun id p c=>by
  obtain ⟨t,b,d,e,f,h4⟩:=h.uq id p c;exact ⟨t,b,d,e,by rw [m _ (h.Bw c)];exact f,h4⟩,h.Ut⟩
def N5 (D:aB) (r:Int) (a:Int):({ D with cr:=r }:aB).cD a=D.cD a:=rfl
def GG {D:aB} (h:D.Calm) (r:Int):({ D with cr:=r }:aB).Calm:=⟨h.down,h.fi⟩
def OL {D:aB} (h:D.Ok) (r:Int):({ D with cr:=r }:aB).Ok:=⟨h.n,h.wait,h.many,h.bF⟩
def fP.cr {J:Jr} {D:aB} {has:Has} (h:fP J D has) (r:Int):fP J { D with cr:=r } has:=
 h.dev (OL h.Kk r) (GG h.calm r) rfl fun _ _=>rfl
def QO {J:Jr} {D D':aB} {id p:Int} {l b:List UInt8} {t:Tg} (e:D.read (p%(J.P:Int)+1)=((0,l),D')) (c:cV l=U (t,b)) (d:t.id=id):J.load D id p=((0,b),J,D'):=by
 unfold Jr.load;simp only [e,c,d,if_true]
def fP.load {J:Jr} {D:aB} {has:Has} (h:fP J D has) {id p:Int} (c:told J.T.ps id=U p):J.load D id p=((0,(has id).getD (zs 480)),J,{ D with cr:=cE (D.cr+1) }):=by
 obtain ⟨t,b,e,o,f,h4,h5,g⟩:=h.uq id p c;obtain ⟨l,m⟩:=h.place c;have j:=R4 l m;have d:=h.calm.read (h.Bw c);rw [f] at d;rw [e];exact QO (by rw [j];exact d) (AM g h5 b) h4
def fP.read {J:Jr} {D:aB} {has:Has} (h:fP J D has) {id:Int} (d:0<=id) (h1:id<J.n) :
  J.read D id=((0,(has id).getD (zs 480)),J,if (told J.T.ps id).isSome then { D with cr:=cE (D.cr+1) } else D):=by
 unfold Jr.read;rw [if_neg Q,h.br,if_neg Si0]
 cases c:told J.T.ps id with
 | none=>simp [h.Ut id c]
 | some p=>simp only [S7,if_true];exact h.load c
def fP.flush {J:Jr} {D:aB} {has:Has} (h:fP J D has):J.flush D=(0,J,D.aH):=by
 unfold Jr.flush;rw [h.br,if_neg Si0,h.calm.flush];simp
def fP.aH {J:Jr} {D:aB} {has:Has} (h:fP J D has):fP J D.aH has:=by
 have c:=aB.ij h.Kk;rw [h.calm.flush] at c;exact h.dev (c.ok h.Kk (by have:=h.Kk.many;omega)) (iz h.calm) (bu D).2.2.2 fun a d=>fJ h.Kk a d
def iK (c:Int):Nat->Int
 | 0=>c
 | k+1=>cE (iK c k+1)
def LM (c:Int) (k:Nat):iK (cE (c+1)) k=iK c (k+1):=by
 induction k with
 | zero=>rfl
 | succ k d=>rw [iK,d];rfl
def AG (has:Has) (own:KV) (c:List (Int × Int)):Bl:=(c.filter fun x => !(aM own x.1).isSome).map fun x=>(x.1,(has x.1).getD (zs 480))
def Dj {J:Jr} {D:aB} {has:Has} (h:fP J D has) (own:KV) (c:List (Int × Int)) (e:∀ x ∈ c,told J.T.ps x.1=U x.2) :
  J.cm D own c=((0,AG has own c),J,{ D with cr:=iK D.cr (AG has own c).length }):=by
 have:∀ (c:List (Int × Int)),(∀ x ∈ c,told J.T.ps x.1=U x.2)->∀ (d:Bl) (r:Int),c.foldl (Jr.cU own) ((0,d),J,{ D with cr:=r })=((0,d++AG has own c),J,{ D with cr:=iK r (AG has own c).length }):=by
  intro c
  induction c with
  | nil=>intro _ d r;simp [AG,iK]
  | cons x c m=>
   intro e d r;rw [L3];have s:=e x O4;have l:=fun y hy=>e y (N4 _ hy)
   cases f:aM own x.1 with
   | some v=>
    have g:Jr.cU own ((0,d),J,{ D with cr:=r }) x=((0,d),J,{ D with cr:=r }):=by
     unfold Jr.cU;simp [f]
    have j:AG has own (x :: c)=AG has own c:=by simp [AG,f]
    rw [g,j];exact m l d r
   | none=>
    have o:=(h.cr r).load s
    have g:Jr.cU own ((0,d),J,{ D with cr:=r }) x=((0,d++[(x.1,(has x.1).getD (zs 480))]),J,{ D with cr:=cE (r+1) }):=by
     unfold Jr.cU;simp only [f];rw [o];simp
    have j:AG has own (x :: c)=(x.1,(has x.1).getD (zs 480)) :: AG has own c:=by simp [AG,f]
    rw [g,j,m l,LM,K7];simp
 exact this c e [] D.cr
def kS {T:Tb} {P first k:Nat} {x:Int × Int} (h:x ∈ bX T P first k):∃ i,i<k/\x.2=(((first+i)%P:Nat):Int)/\told T.os x.2=U x.1:=by
 obtain ⟨p,f,c⟩:=List.mem_filterMap.1 h;obtain ⟨i,e,rfl⟩:=List.mem_map.1 f
 cases d:told T.os (((first+i)%P:Nat):Int) with
 | none=>rw [d] at c;cases c
 | some id=>
  rw [d] at c;injection c with c
  rw [<- c];exact ⟨i,List.mem_range.1 e,rfl,d⟩
def Ci {T:Tb} {P first k i:Nat} {id:Int} (c:i<k) (h:told T.os (((first+i)%P:Nat):Int)=U id):(id,(((first+i)%P:Nat):Int)) ∈ bX T P first k:=by
 refine List.mem_filterMap.2 ⟨(first+i)%P,List.mem_map.2 ⟨i,List.mem_range.2 c,rfl⟩,?_⟩;rw [h];rfl
def lF {T:Tb} (d:T.OB) {P first:Nat}:∀ k,k<=P->((bX T P first k).map A3).Nodup:=by
 intro k
 induction k with
 | zero=>intro _;simp [bX]
 | succ k e=>
  intro r;rw [qV]
  cases l:told T.os (((first+k)%P:Nat):Int) with
  | none=>simp only [List.append_nil];exact e Q
  | some id=>
   simp only [E5,List.map_cons,List.map_nil];rw [K8];refine ⟨e Q,Si0,?_⟩;intro a h b j;rw [List.mem_singleton.1 j];rintro rfl;obtain ⟨x,m,rfl⟩:=List.mem_map.1 h;obtain ⟨i,o,f,g⟩:=kS m;have c:=d.qp _ _ g;rw [d.qp _ _ l] at c;injection c with c
   rw [f] at c;have:=mB (a:=((first+k:Nat):Int)) (b:=((first+i:Nat):Int)) (P:=(P:Int)) Q Q;exact this (by exact_mod_cast c)
structure Xz (J:Jr) (D:aB) (Z:List Wr) (k:Nat) (D':aB):Prop where
 run:J.bP D Z k=(0,D')
 calm:D'.Calm
 sec:D'.sec.length=D.sec.length
 cr:D'.cr=D.cr
 cf:D'.cf=D.cf
 cw:D'.cw=iK D.cw k
 new:∀ i:Nat,i<k->D'.cD ((J.hd+(i:Int))%(J.P:Int)+1)=(0,enc (J.tag i Z.length (Z.getD i Wr.nil).1)++(Z.getD i Wr.nil).2.2)
 qz:∀ a,(∀ i:Nat,i<k->a≠(J.hd+(i:Int))%(J.P:Int)+1)->D'.cD a=D.cD a
def Xe (J:Jr) (D:aB) (P:0<J.P) (r:D.Calm) (hs:(J.P:Int)+1<=D.sec.length) (Z:List Wr) (o:∀ z ∈ Z,z.2.2.length=480) (S:(Z.length:Int)<=J.P):∀ k,k<=Z.length->∃ D',Xz J D Z k D':=by
  intro k
  induction k with
  | zero=>intro _;exact ⟨D,rfl,r,rfl,rfl,rfl,rfl,fun i c=>absurd c (Nat.not_lt_zero i),fun _ _=>rfl⟩
  | succ k C=>
    intro hk;obtain ⟨D',w⟩:=C Q;obtain ⟨E,g,m,F,G,H,I,K⟩:=w;have u:Z.getD k Wr.nil ∈ Z:=by rw [B3,D3 Q];exact J4 _
    have l:(enc (J.tag k Z.length (Z.getD k Wr.nil).1)++(Z.getD k Wr.nil).2.2).length=512:=by rw [D6,dK,o _ u]
    have c0:0<=(J.hd+(k:Int))%(J.P:Int):=K9 _ Q;have d0:(J.hd+(k:Int))%(J.P:Int)<J.P:=R3 _ Q;have s:D'.has ((J.hd+(k:Int))%(J.P:Int)+1):=⟨Q,by rw [m];omega⟩
    have B:=g.write s l
    have f:J.bP D Z (k+1)=if (J.bP D Z k).1=0 then
        (let h:=(J.bP D Z k).2.write ((J.hd+(k:Int))%(J.P:Int)+1) (enc (J.tag k Z.length (Z.getD k Wr.nil).1)++(Z.getD k Wr.nil).2.2)
         (if h.1=0 then 0 else 2,h.2)) else J.bP D Z k:=rfl
    rw [E] at f;rw [B] at f;refine ⟨_,f,⟨g.down,g.fi⟩,m,F,G,by show cE (D'.cw+1)=_;rw [H];rfl,?_,?_⟩
    · intro i c
      rw [tL];rcases Nat.lt_or_eq_of_le (Nat.lt_succ_iff.1 c) with d|d
      · have b0:(J.hd+(k:Int))%(J.P:Int)≠(J.hd+(i:Int))%(J.P:Int):=mB Q Q
        rw [if_neg Q];exact I i d
      · subst d
        rw [if_pos rfl,kD l]
    · intro a j
      rw [tL,if_neg (fun e=>j k Q e.symm)];exact K a fun i c=>j i Q
def nt (has:Has) (L:Bl):Has:=fun id=>(aM L id).or (has id)
structure Batch (n:Int) (L:Bl):Prop where
 n0:1<=L.length
 n1:L.length<=24
 id:∀ x ∈ L,0<=x.1/\x.1<n
 Se:∀ x ∈ L,x.2.length=480
 nd:(L.map A3).Nodup
def AV (L:Bl):KV:=fG (mf L) L.length
def No (L:Bl) (id:Int):(aM (AV L) id).isSome=decide (id ∈ L.map A3):=by
 have c:(mf L).length=L.length:=by simp [mf]
 rw [AV,yS Q];congr 1
 have:((mf L).take L.length).map A3=L.map A3:=by
  rw [<- c,K4];unfold mf;rw [L4];rfl
 rw [this]
def jm (J:Jr) (has:Has) (L:Bl):Bl:=AG has (AV L) (bX J.T J.P (Jr.tail J) (J.aS L.length).toNat)
def B8 {J:Jr} (c:J.Ok) (i:Nat):(((Jr.tail J+i)%J.P:Nat):Int)=(J.hd-J.us+(i:Int))%(J.P:Int):=by
 have d:=c.p0;unfold Jr.tail;rw [Int.natCast_emod,S8,K6 (K9 _ Q),Int.emod_add_emod]
def N7 {L:Bl} {x:Int} {i:Nat} (h:L.findIdx? (fun y=>y.1 == x)=U i):i<L.length/\(L.getD i (0,[])).1=x/\aM L x=U (L.getD i (0,[])).2:=by
 rw [List.findIdx?_eq_some_iff_getElem] at h;obtain ⟨c,d,f⟩:=h;have e:L.getD i (0,[])=L[i]:=by rw [B3,D3 c];rfl
 refine ⟨c,by rw [e];simpa using d,?_⟩;rw [e];have g:L.find? (fun p=>p.1 == x)=U L[i]:=List.find?_eq_some_iff_getElem.2 ⟨d,i,c,rfl,fun j l=>by simpa using f j l⟩;unfold aM;rw [g]
 rfl
def Cs {c:Type} (A B:List (Int × c)) (x:Int):aM (A++B) x=(aM A x).or (aM B x):=by
 unfold aM;rw [List.find?_append];cases A.find? (fun p=>p.1 == x) <;> rfl
def PX {J:Jr} {D:aB} {has:Has} (h:fP J D has) (own:KV) (d:List (Int × Int)) (l:∀ x ∈ d,told J.T.ps x.1=U x.2) (id:Int) (b:List UInt8) (m:aM (AG has own d) id=U b):has id=U b:=by
 have o:=lO m;obtain ⟨x,r,e⟩:=List.mem_map.1 o;have s:=(List.mem_filter.1 r).1;obtain ⟨t,c,g,_⟩:=h.uq _ _ (l x s);injection e with j f
 rw [<- j,g];rw [g] at f;rw [<- f];rfl
def vY {J:Jr} {D:aB} {has:Has} (h:fP J D has) (own:KV) (d:List (Int × Int)) (e:∀ x ∈ d,told J.T.ps x.1=U x.2):∀ x ∈ AG has own d,x.2.length=480/\0<=x.1/\x.1<J.n:=by
 intro y hy;obtain ⟨x,m,rfl⟩:=List.mem_map.1 hy;have f:=(List.mem_filter.1 m).1;obtain ⟨t,c,g,j,_⟩:=h.uq _ _ (e x f);have l:=kr (e x f);have:=h.ok.ps;exact ⟨by simp only [g,L6];exact j,l.1,by show x.1<J.n;omega⟩
def Gi (has:Has) (L:Bl) (c:List (Int × Int)):(AG has (AV L) c).map A3=(c.map A3).filter fun id=>decide (id ∉ L.map A3):=by
 unfold AG;rw [L4,List.filter_map];congr 1;congr 1;funext x;simp only [Function.comp,No];simp
structure VB (J:Jr) (D:aB) (has:Has) (L:Bl) (D':aB):Prop where
 run:eZ J D true L=(0,J.done (L++jm J has L) (J.aS L.length),D')
 inv:fP (J.done (L++jm J has L) (J.aS L.length)) D' (nt has L)
 cr:D'.cr=iK D.cr (jm J has L).length
 cw:D'.cw=iK D.cw (L.length+(jm J has L).length)
 cf:D'.cf=cE (D.cf+1)
def sM {J:Jr} {D:aB} {has:Has} (h:fP J D has) (k:Nat):∀ x ∈ bX J.T J.P (Jr.tail J) k,told J.T.ps x.1=U x.2:=by
 intro x d;obtain ⟨_,_,_,c⟩:=kS d;exact h.Kh.qp _ _ c
def AO {J:Jr} {D:aB} {has:Has} (h:fP J D has) (L:Bl):fm J D L=((0,jm J has L),J,{ D with cr:=iK D.cr (jm J has L).length }):=
 Dj h (AV L) _ (sM h _)
def CA (J:Jr) (has:Has) (L:Bl) (c:0<=J.us):((jm J has L).length:Int)<=J.aS L.length:=by
 have d:(jm J has L).length<=(J.aS L.length).toNat:=by
  unfold jm AG;rw [H3];exact Nat.le_trans (S4 _ _) (kR _ _ _ _)
 have:=(Jr.fK c L.length).1;omega
def AS {J:Jr} {D:aB} {has:Has} (h:fP J D has) {L:Bl} (s:Batch J.n L) (F0:J.sq<281474976710655) (d:¬ (J.P:Int)-J.us-J.fr<((L++jm J has L).length:Int)) :
  ∃ D',VB J D has L D':=by
 have hm:=AO h.aH L;have m:=h.aH;have hc:=Jr.fK h.ok.EM L.length;have N0:=CA J has L h.ok.EM;have hX:=sM h (J.aS L.length).toNat;have E:(jm J has L).map A3=((bX J.T J.P (Jr.tail J) (J.aS L.length).toNat).map A3).filter fun id=>decide (id ∉ L.map A3):=Gi has L _;have s0:∀ id b,aM (jm J has L) id=U b->has id=U b:=fun id b hk=>PX h (AV L) _ hX id b hk;have p0:∀ x ∈ jm J has L,x.2.length=480/\0<=x.1/\x.1<J.n:=vY h (AV L) _ hX;have W0:=h.ok.EM;have X0:=h.ok.TE;have L0:=h.ok.Wn;have T0:=h.ok.p0;have R0:=s.n1;generalize r:jm J has L=l at *;obtain ⟨A,g⟩:∃ A,A=L++l:=⟨_,rfl⟩
 have j0:A.length=L.length+l.length:=by rw [g,D6]
 rw [<- g] at d
 have C:∀ x ∈ A,x.2.length=480/\0<=x.1/\x.1<J.n:=by
  intro x f;rw [g] at f;rcases List.mem_append.1 f with f|f
  .exact ⟨s.Se x f,s.id x f⟩
  .exact p0 x f
 have k0:(A.map A3).Nodup:=by
  rw [g,E5,K8];refine ⟨s.nd,?_,?_⟩
  .rw [E]
   exact (lF h.Kh _ Q).filter _
  .intro a ha b b0 e
   rw [E] at b0;have:=(List.mem_filter.1 b0).2;rw [<- e] at this;simp only [decide_eq_true_eq] at this;exact this ha
 have P:(A.length:Int)<=J.P:=Q
 have K0:(A.length:Int)+J.us<=J.P:=Q
 have l0:∀ i:Nat,i<A.length->told J.T.os ((J.hd+(i:Int))%(J.P:Int))=W:=by
  intro i j
  cases F:told J.T.os ((J.hd+(i:Int))%(J.P:Int)) with
  | none=>rfl
  | some id=>
   obtain ⟨a,z,B,a3⟩:=h.win _ _ F;exact absurd a3 (mB Q Q)
 have x0:=UO J h.ok h.Kh A (fun x f=>(C x f).2) k0 P l0 A.length (J3 _);obtain ⟨p1,I,p3⟩:=x0;rw [K4] at I;have G:(mf A).length=A.length:=by simp [mf]
 have G0:∀ i0 ∈ mf A,i0.2.2.length=480:=by
  intro i0 hz;obtain ⟨x,f,rfl⟩:=List.mem_map.1 hz;exact (C x f).1
 have f0:(J.P:Int)+1<=D.aH.sec.length:=m.sec;obtain ⟨D',H0⟩:=Xe J { D.aH with cr:=iK D.aH.cr l.length } h.ok.p0 (GG m.calm _) f0 (mf A) G0 (by rw [G];exact P) A.length (by rw [G];exact J3 _);have h0:=Jr.qB J (OL m.Kk (iK D.aH.cr l.length)) (mf A) A.length (by show D.aH.wait.length+A.length<=1000000;have:D.aH.wait=[]:=rfl;rw [this];simp only [G3];have:=h.ok.p1;omega);obtain ⟨w1,w2,w3,w4,w5,w6,w7,w8⟩:=H0;rw [w1] at h0
 have D0:eZ J D true L=(0,J.done A (J.aS L.length),D'):=by
  unfold eZ;rw [if_neg Si0,if_neg Q,h.flush,if_neg Si0];unfold vx;rw [hm,<- g,if_neg Si0,if_neg d,w1,if_neg Si0]
 have e0:=J.wg A A.length;have V0:J.hd%(J.P:Int)=J.hd:=R4 h.ok.Kd h.ok.AD
 have u0:∀ i:Nat,i<A.length->D'.cD ((J.hd+(i:Int))%(J.P:Int)+1)=(0,enc (J.tag i A.length (A.getD i (0,[])).1)++(A.getD i (0,[])).2):=by
  intro i j;have:=w7 i j;rw [G,(gp _ _).1,(gp _ _).2,pU] at this;exact this
 have d0:=h.nums.numbers F0
 have w:∃ q:Int,(J.done A (J.aS L.length)).hd=J.hd+(A.length:Int)-(J.P:Int)*q:=⟨(J.hd+(A.length:Int))/(J.P:Int),by
  show (J.hd+(A.length:Int))%(J.P:Int)=_
  have:=T8 (J.hd+(A.length:Int)) (J.P:Int);omega⟩
 obtain ⟨q,w⟩:=w
 have c0:∀ a:Int,J.hd-J.us+J.aS L.length<=a->a<J.hd+(A.length:Int)->∃ b:Int,(J.done A (J.aS L.length)).hd-(J.done A (J.aS L.length)).us<=b/\b<(J.done A (J.aS L.length)).hd/\a%(J.P:Int)=b%(J.P:Int):=by
  intro a z B;have e:(J.done A (J.aS L.length)).us=J.us+((A.length:Int)-J.aS L.length):=rfl;refine ⟨a-(J.P:Int)*q,by rw [w,e];omega,by rw [w];omega,?_⟩;rw [T6]
 refine ⟨D',by rw [r,<- g];exact D0,?_,?_,?_,?_⟩
 .rw [r,<- g]
  refine ⟨?_,?_,?_,h.br,w2,?_,p1,?_,?_,?_,?_⟩
  .exact ⟨h.ok.p0,h.ok.p1,FU h.ok.T A A.length,by show ((J.gi A A.length).ps.length:Int)=J.n;rw [e0.1];exact h.ok.ps,by show (J.gi A A.length).os.length=J.P;rw [e0.2];exact h.ok.os,
    by show 0<=J.us+((A.length:Int)-J.aS L.length);omega,by show J.us+((A.length:Int)-J.aS L.length)<=(J.P:Int);omega,
    K9 _ Q,R3 _ Q,by show 0<=J.aS L.length;omega,by show J.aS L.length<=48;omega⟩
  .exact ⟨h.nums.VS,h.nums.VT,h.nums.T3,by show J.st<=J.sq+1+1;have:=h.nums.bH;omega,by show 0<=J.sq+1;have:=h.nums.Ua;omega,by show J.sq+1<=281474976710655;omega,h.nums.n1,Jr.G1 h.nums.own A A.length⟩
  .exact h0.ok (OL m.Kk _) (by show D.aH.wait.length+A.length<=1000000;have:D.aH.wait=[]:=rfl;rw [this];simp only [G3];have:=h.ok.p1;omega)
  .rw [w3];exact f0
  .show J.us+((A.length:Int)-J.aS L.length)+J.aS L.length<=(J.P:Int);omega
  .intro p id o
   rcases p3 p id o with ⟨i,j,e,_⟩|⟨K,h2⟩
   .rw [e];exact c0 _ Q Q
   .obtain ⟨a,z,B,a3⟩:=h.win p id K
    rw [a3];refine c0 a ?_ Q;refine Classical.byContradiction fun o0=>?_;have o0:a<J.hd-J.us+J.aS L.length:=Q
    apply h2;rw [K4];obtain ⟨i,j⟩:∃ i:Nat,a=J.hd-J.us+(i:Int):=⟨(a-(J.hd-J.us)).toNat,Q⟩
    have F:told J.T.os (((Jr.tail J+i)%J.P:Nat):Int)=U id:=by rw [B8 h.ok,<- j,<- a3];exact K
    have r0:=Ci (T:=J.T) (P:=J.P) (first:=Jr.tail J) (k:=(J.aS L.length).toNat) (i:=i) Q F;rw [g,E5,S9]
    by_cases S:id ∈ L.map A3
    .exact .inl S
    .right
     rw [E];exact List.mem_filter.2 ⟨List.mem_map.2 ⟨_,r0,rfl⟩,by simpa using S⟩
  .intro id p o
   have c:told (J.gi A A.length).ps id=U p:=o;rw [I] at c
   have g0:nt has L id=(aM A id).or (has id):=by
    rw [g,Cs];unfold nt
    cases hk:aM L id with
    | some b=>rfl
    | none=>
     cases m0:aM l id with
     | none=>rfl
     | some b=>simp [s0 id b m0]
   cases d:A.findIdx? (fun y=>y.1 == id) with
   | some i=>
    rw [d] at c;injection c with c
    obtain ⟨H,i2,i3⟩:=N7 d;have q0:A.getD i (0,[]) ∈ A:=by rw [B3,D3 H];exact J4 _
    obtain ⟨b1,b2,b3⟩:=C _ q0;have S0:=h.nums.n1;refine ⟨J.tag i A.length (A.getD i (0,[])).1,(A.getD i (0,[])).2,by rw [g0,i3];rfl,b1,by rw [<- c];exact u0 i H,by show (A.getD i (0,[])).1=id;exact i2,?_,Jr.FA d0 _ _ _⟩;exact Jr.Mp d0 H Q b2 Q
   | none=>
    rw [d] at c;simp only at c;obtain ⟨t,b,t1,t2,t3,t4⟩:=m.uq id p c;have u:=iZ.1 d;refine ⟨t,b,by rw [g0,gr.2 u];exact t1,t2,?_,t4⟩;rw [w8 (p+1),N5]
    .exact t3
    .intro i j
     obtain ⟨a,z,B,a3⟩:=h.win p id (h.Kh.pq _ _ c);have:(J.hd+(i:Int))%(J.P:Int)≠p:=by rw [a3];exact mB Q Q
     omega
  .intro id o
   have c:told (J.gi A A.length).ps id=W:=o;rw [I] at c
   cases d:A.findIdx? (fun y=>y.1 == id) with
   | some i=>rw [d] at c;cases c
   | none=>
    rw [d] at c;have u:=iZ.1 d;rw [g,E5,S9] at u;unfold nt;rw [gr.2 (fun q=>u (.inl q)),h.Ut id c]
    rfl
 .rw [r,w4]
  show iK D.aH.cr _=_
  rw [(bu D).1]
 .rw [r,w6,<- j0]
  show iK D.aH.cw _=_
  rw [(bu D).2.1]
 .rw [w5]
  exact (bu D).2.2.1
def nv (T:Tb) (P first k:Nat):Nat:=(bX T P first k).length
def tp (T:Tb) (P first k:Nat):nv T P first (k+1)=nv T P first k+(if (told T.os (((first+k)%P:Nat):Int)).isSome then 1 else 0):=by
 unfold nv;rw [qV,D6];cases told T.os (((first+k)%P:Nat):Int) <;> simp
def qI (T:Tb) (P first k:Nat):nv T P first k<=k:=kR _ _ _ _
def tq (J:Jr):Prop:=∀ k:Nat,(k:Int)<=J.us->2*J.us-(k:Int)+2*(nv J.T J.P (Jr.tail J) k:Int)<=5*J.n
def Cz {l:List Int} {n:Nat} (h:l.Nodup) (d:∀ x ∈ l,0<=x/\x<n):l.length<=n:=by
 have:=vQ (m:=(List.range n).map fun i:Nat=>(i:Int)) h fun x e=>by
  obtain ⟨c,f⟩:=d x e;exact List.mem_map.2 ⟨x.toNat,List.mem_range.2 Q,K6 c⟩
 simpa using this
structure Wi (J:Jr) (L A:Bl):Prop where
 b:∀ x ∈ A,x.2.length=480/\0<=x.1/\x.1<J.n
 nd:(A.map A3).Nodup
def UC {J:Jr} {D:aB} {has:Has} (h:fP J D has) {L:Bl} (d:Batch J.n L):Wi J L (L++jm J has L):=by
 have o:=Jr.fK h.ok.EM L.length;have j:=sM h (J.aS L.length).toNat;have g:(jm J has L).map A3=((bX J.T J.P (Jr.tail J) (J.aS L.length).toNat).map A3).filter fun id=>decide (id ∉ L.map A3):=Gi has L _;have m:=vY h (AV L) _ j;have r:=h.ok.TE;refine ⟨?_,?_⟩
 .intro x c
  rcases List.mem_append.1 c with c|c
  .exact ⟨d.Se x c,d.id x c⟩
  .exact m x c
 .rw [E5,K8]
  refine ⟨d.nd,?_,?_⟩
  .rw [g]
   exact (lF h.Kh _ Q).filter _
  .intro a l b f e
   rw [g] at f;have:=(List.mem_filter.1 f).2;rw [<- e] at this;simp only [decide_eq_true_eq] at this;exact this l
def Co {J:Jr} {D:aB} {has:Has} (h:fP J D has) {L:Bl} (d:Batch J.n L) (e:¬ (J.P:Int)-J.us-J.fr<((L++jm J has L).length:Int)) :
  VC J (L++jm J has L) (L++jm J has L).length:=by
 have c:=UC h d;have r:=h.ok.EM;have m:=h.ok.Wn;generalize L++jm J has L=A at c e ⊢;refine UO J h.ok h.Kh A (fun x g=>(c.b x g).2) c.nd Q ?_ A.length (J3 _);intro i o
 cases f:told J.T.os ((J.hd+(i:Int))%(J.P:Int)) with
 | none=>rfl
 | some id=>
  obtain ⟨a,j,l,a3⟩:=h.win _ _ f;exact absurd a3 (mB Q Q)
def MI (J:Jr) (has:Has) (L:Bl):(jm J has L).length<=nv J.T J.P (Jr.tail J) (J.aS L.length).toNat:=by
 unfold jm AG nv;rw [H3];exact S4 _ _
def Dg {J:Jr} {D:aB} {has:Has} (h:fP J D has) (e:tq J) (g:5*J.n+240<=2*(J.P:Int)) {L:Bl} (f:Batch J.n L) :
  ¬ (J.P:Int)-J.us-J.fr<((L++jm J has L).length:Int):=by
 have j:=Jr.fK h.ok.EM L.length;have m:=CA J has L h.ok.EM;have o:=f.n1;have l:=h.ok.Xf;have d:=e 0 (by have:=h.ok.EM;omega);have c:nv J.T J.P (Jr.tail J) 0=0:=by have:=qI J.T J.P (Jr.tail J) 0;omega
 rw [c] at d;rw [D6];omega
def KG {T d:Tb} {P f e c:Nat}:∀ k:Nat,(∀ i,i<k->(told d.os (((e+i)%P:Nat):Int)).isSome=true->(told T.os (((f+(c+i))%P:Nat):Int)).isSome=true)->nv d P e k+nv T P f c<=nv T P f (c+k):=by
 intro k
 induction k with
 | zero=>intro _;have:=qI d P e 0;simp only [Nat.add_zero];omega
 | succ k j=>
  intro h;have:=j fun i l=>h i Q;have g:=h k Q;rw [<- P7,tp,tp];generalize (told d.os (((e+k)%P:Nat):Int)).isSome=b at g ⊢
  cases b with
  | false=>simp only [Bool.false_eq_true,if_false];omega
  | true=>rw [g rfl];omega
def OG (T:Tb) (P f a:Nat):∀ x,nv T P f (a+x)<=nv T P f a+x:=by
 intro x
 induction x with
 | zero=>exact J3 _
 | succ x c=>rw [<- P7,tp];split <;> omega
def DY {J:Jr} {D:aB} {has:Has} (h:fP J D has) (m:tq J) {L:Bl} (o:Batch J.n L) (hf:¬ (J.P:Int)-J.us-J.fr<((L++jm J has L).length:Int)) :
  tq (J.done (L++jm J has L) (J.aS L.length)):=by
 have C:=UC h o;have u:=Co h o hf;have hc:=Jr.fK h.ok.EM L.length;have e0:=MI J has L;have q0:=h.ok.Wn;have hps:=h.ok.ps;have p0:=o.n0;generalize hM:jm J has L=l at *;have k0:(L++l).length=L.length+l.length:=D6;generalize hA:L++l=A at *;obtain ⟨c,r⟩:∃ c:Nat,J.aS L.length=(c:Int):=⟨(J.aS L.length).toNat,Q⟩
 have E:(c:Int)=if J.us<2*(L.length:Int) then J.us else 2*(L.length:Int):=by rw [<- r];rfl
 rw [r,J7] at e0;rw [r] at hc ⊢;obtain ⟨s,hs⟩:∃ s:Nat,J.us=(c:Int)+(s:Int):=⟨(J.us-c).toNat,Q⟩
 have z:(J.done A c).us=(s:Int)+(A.length:Int):=by show J.us+((A.length:Int)-c)=_;omega
 have g0:(J.done A c).n=J.n:=rfl;have B:(J.done A c).P=J.P:=rfl;have P:(J.done A c).T=J.gi A A.length:=rfl
 have i0:∀ i:Nat,(((Jr.tail (J.done A c)+i)%J.P:Nat):Int)=(J.hd-J.us+(c:Int)+(i:Int))%(J.P:Int):=by
  intro i;unfold Jr.tail;have c0:(J.done A c).hd=(J.hd+(A.length:Int))%(J.P:Int):=rfl;rw [z,B,c0,Int.natCast_emod,S8,K6 (K9 _ Q),Int.emod_add_emod];have g:=T8 (J.hd+(A.length:Int)) (J.P:Int);generalize (J.hd+(A.length:Int))%(J.P:Int)=x at g;generalize (J.hd+(A.length:Int))/(J.P:Int)=y at g;rw [show x-((s:Int)+(A.length:Int))+(i:Int)=J.hd-J.us+(c:Int)+(i:Int)-(J.P:Int)*y by omega,T6]
 have G:∀ (i:Nat) (x:Int),i<s->told (J.gi A A.length).os (((Jr.tail (J.done A c)+i)%J.P:Nat):Int)=U x->told J.T.os (((Jr.tail J+(c+i))%J.P:Nat):Int)=U x/\x ∉ A.map A3:=by
  intro i x j d;rw [i0] at d;rw [B8 h.ok,S8,<- Int.add_assoc];rcases u.os _ _ d with ⟨k,F,e,_⟩|⟨g,w⟩
  .exact absurd e.symm (mB Q Q)
  .rw [K4] at w;exact ⟨g,w⟩
 have f0:∀ k,k<=s->nv (J.gi A A.length) J.P (Jr.tail (J.done A c)) k+nv J.T J.P (Jr.tail J) c<=nv J.T J.P (Jr.tail J) (c+k):=fun k F=>KG k fun i j d=>by
  obtain ⟨x,d⟩:=Option.isSome_iff_exists.1 d;rw [(G i x Q d).1];rfl
 have o0:nv (J.gi A A.length) J.P (Jr.tail (J.done A c)) s+A.length<=J.T.ps.length:=by
  have h0:(((bX (J.gi A A.length) J.P (Jr.tail (J.done A c)) s).map A3)++A.map A3).Nodup:=by
   rw [K8];refine ⟨lF u.Kh s Q,C.nd,?_⟩;intro a S b b0 e;obtain ⟨y,hy,rfl⟩:=List.mem_map.1 S;obtain ⟨i,j,H,f⟩:=kS hy;rw [H] at f;rw [e] at f;exact (G i _ j f).2 b0
  have:=Cz (n:=J.T.ps.length) h0 fun x d=>by
   rcases List.mem_append.1 d with d|d
   .obtain ⟨y,hy,rfl⟩:=List.mem_map.1 d
    obtain ⟨i,j,H,f⟩:=kS hy;have:=kr (u.Kh.qp _ _ f);have hl:=(J.wg A A.length).1;exact ⟨this.1,by have:=this.2.1;omega⟩
   .obtain ⟨y,hy,rfl⟩:=List.mem_map.1 d
    have:=(C.b y hy).2;exact ⟨this.1,by have:=this.2;omega⟩
  rw [D6,H3,H3] at this;exact this
 intro k F;rw [z,g0,B,P] at *;have K:=m 0 Q;have I:nv J.T J.P (Jr.tail J) 0=0:=by have:=qI J.T J.P (Jr.tail J) 0;omega
 rw [I] at K
 by_cases d0:k<=s
 .have s0:=f0 k d0
  have l0:=m (c+k) Q;have r0:=qI (J.gi A A.length) J.P (Jr.tail (J.done A c)) k
  split at E <;> omega
 .obtain ⟨x,d⟩:∃ x,k=s+x:=⟨k-s,Q⟩
  have j0:=OG (J.gi A A.length) J.P (Jr.tail (J.done A c)) s x;rw [<- d] at j0;have m0:=m c Q
  split at E <;> omega
end Go.Proofs.Nn

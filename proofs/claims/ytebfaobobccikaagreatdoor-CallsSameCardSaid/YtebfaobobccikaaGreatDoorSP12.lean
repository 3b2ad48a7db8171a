/- Steps. -/
import Derived.Test.YtebfaobobccikaaGreatDoorSP11
import Derived.Lib.AppendZeros
set_option linter.all false
set_option maxRecDepth 99999
set_option maxHeartbeats 0
open Go.SL
open Go.Value renaming int->V,slice->X
open Go.Obj renaming cells->Y
open Go renaming World->R,Value->O
open Go.Proofs.Tryz renaming prog->Q
open Option renaming some->U,none->W
open Bool renaming false->Y'
open Go.Proofs.Tryz
open Prod renaming fst->B3
open List renaming getD->D3,length_append->G3,getElem?_eq_getElem->H3,map_append->J3,length_nil->K3,length_map->L3,getElem_mem->T3,nodup_append->Z3,length_cons->J4,take_length->S4,setIfInBounds_toArray->T4,set_cons_zero->W4,map_map->Z4,foldl_cons->E5,mem_cons_of_mem->K5,mem_cons_self->L5,append_assoc->T5,getElem?_set->X5,mem_append->A6,length_replicate->K6,getElem?_replicate->L6,length_filter_le->S6
open Int renaming toNat_natCast->P3,emod_nonneg->Y3,toNat_of_nonneg->K4,eq_ofNat_of_zero_le->L4,emod_eq_of_lt->Y5,emod_lt_of_pos->Z5,natCast_add->D6,emod_add_mul_ediv->W6,sub_mul_emod_self_left->X6
open Nat renaming le_refl->X3,zero_add->Y4,add_assoc->S5
open Option renaming getD_some->X4,isSome_some->H6
namespace Go.Proofs.Nn
open RowKit SL
attribute [local go_sem] Oper.semAt_some
variable {S S':Hp} {F G:ai} {w:R}
theorem oz:(prog.info? 188).map (fun i=>(i.zero,i.size,i.bytes))=U (U (.agg #[V .i64 0,X W 0 0]),2,32):=by kernel_rfl
def TT (S:Hp) (j d r t m:Nat) (own:KV) (c:Mv) (F:ai) (w:R) (e:Ending) (g:R):Prop:=
 ∃ (f:Hp) (v:O) (Z:Zs),Ext S f/\e = .returned (.tuple #[v,V .i64 c.1.1])/\Z.map (fun z=>(z.1,z.2.2))=c.1.2/\(∀ z ∈ Z,qS 5 f z.2.1 z.2.2) /\
  ag g (j8 j d r t c.2.1*(aV f d c.2.2*(ak f*(sl 188 2 v Z.length (bT Z)*(mp m own*F)))))/\aj w g
def lH (S:Hp) (d m bl bj bo b6 b7 j:Nat) (own:KV) (J:Jr) (D:aC) (F:ai) (ys:List (Int × Int)):ai:=ex fun q:Hp × O × Zs=>
 fact (Ext S q.1/\(J.cm D own ys).1.1=0/\q.2.2.map (fun z=>(z.1,z.2.2))=(J.cm D own ys).1.2/\∀ z ∈ q.2.2,qS 5 q.1 z.2.1 z.2.2) *
  (pt bl (Y #[q.2.1] 125 (0,0))*(sl 188 2 q.2.1 q.2.2.length (bT q.2.2)*(aV q.1 d (J.cm D own ys).2.2*(ak q.1 *
   (pt bj (Y #[az j] 122 (0,0))*(pt bo (Y #[.map (U m)] 177 (0,0))*(pt b6 (Y #[X W 0 0] 125 (0,0))*(pt b7 (Y #[V .i64 0] 28 (0,0))*(mp m own*F)))))))))
def Ft (S:Hp) (j d r t m b6 b7:Nat) (own:KV) (J:Jr) (D:aC) (F:ai) (ys:List (Int × Int)):ai:=ex fun c:Hp=>
 fact (Ext S c/\(J.cm D own ys).1.1≠0/\(J.cm D own ys).1.2=[])*(j8 j d r t (J.cm D own ys).2.1*(pt b6 (Y #[X W 0 0] 125 (0,0))*(pt b7 (Y #[V .i64 (J.cm D own ys).1.1] 28 (0,0))*(aV c d (J.cm D own ys).2.2*(ak c*(mp m own*F))))))
theorem ug {d m bl bj bo b6 b7 j:Nat} {own:KV} {J:Jr} {D:aC} {ys:List (Int × Int)} (h:ag w (lH S d m bl bj bo b6 b7 j own J D F ys*G)) :
  ∃ (S':Hp) (v:O) (Z:Zs),Ext S S'/\(J.cm D own ys).1.1=0/\Z.map (fun z=>(z.1,z.2.2))=(J.cm D own ys).1.2/\(∀ z ∈ Z,qS 5 S' z.2.1 z.2.2) /\
   ag w (pt bl (Y #[v] 125 (0,0))*(sl 188 2 v Z.length (bT Z)*(aV S' d (J.cm D own ys).2.2*(ak S' *
   (pt bj (Y #[az j] 122 (0,0))*(pt bo (Y #[.map (U m)] 177 (0,0))*(pt b6 (Y #[X W 0 0] 125 (0,0))*(pt b7 (Y #[V .i64 0] 28 (0,0))*(mp m own*(F*G)))))))))):=by
 obtain ⟨q,h⟩:=ag.aw.1 h;obtain ⟨⟨c,e,f,g⟩,l⟩:=ag.aq.1 (h.to (ax _ _ _));exact ⟨q.1,q.2.1,q.2.2,c,e,f,g,l.to (by ac_rfl)⟩
theorem oj {d m bl bj bo b6 b7 j:Nat} {own:KV} {J:Jr} {D:aC} {ys:List (Int × Int)} {v:O} {Z:Zs} (c:Ext S S') (e:(J.cm D own ys).1.1=0)
  (f:Z.map (fun z=>(z.1,z.2.2))=(J.cm D own ys).1.2) (g:∀ z ∈ Z,qS 5 S' z.2.1 z.2.2)
  (h:ag w (pt bl (Y #[v] 125 (0,0))*(sl 188 2 v Z.length (bT Z)*(aV S' d (J.cm D own ys).2.2*(ak S' *
   (pt bj (Y #[az j] 122 (0,0))*(pt bo (Y #[.map (U m)] 177 (0,0))*(pt b6 (Y #[X W 0 0] 125 (0,0))*(pt b7 (Y #[V .i64 0] 28 (0,0))*(mp m own*(F*G))))))))))):ag w (lH S d m bl bj bo b6 b7 j own J D F ys*G):=
 by
 unfold lH;exact ag.aw.2 ⟨(S',v,Z),(ag.aq.2 ⟨⟨c,e,f,g⟩,h⟩:ag w (fact (_/\_/\_/\_)*_)).to (by ac_rfl)⟩
theorem CT {j d r t m b6 b7:Nat} {own:KV} {J:Jr} {D:aC} {ys:List (Int × Int)} (c:Ext S S') (e:(J.cm D own ys).1.1≠0) (f:(J.cm D own ys).1.2=[])
  (h:ag w (j8 j d r t (J.cm D own ys).2.1*(pt b6 (Y #[X W 0 0] 125 (0,0))*(pt b7 (Y #[V .i64 (J.cm D own ys).1.1] 28 (0,0))*(aV S' d (J.cm D own ys).2.2*(ak S'*(mp m own*(F*G)))))))) :
  ag w (Ft S j d r t m b6 b7 own J D F ys*G):=
 by
 unfold Ft;exact ag.aw.2 ⟨S',(ag.aq.2 ⟨⟨c,e,f⟩,h⟩:ag w (fact (_/\_/\_)*_)).to (by ac_rfl)⟩
theorem pZ {c:Array O} {b6 b7:Nat} {v u:O} (f:c[6]?=U (.pointer (U ⟨b6,0,W⟩))) (g:c[7]?=U (.pointer (U ⟨b7,0,W⟩))) (d:w.cell? ⟨b6,0,W⟩=U v) (e:w.cell? ⟨b7,0,W⟩=U u) :
  (results Tryz.f132 c).run Q w = .ok (.tuple #[v,u]) w:=by
 simp [results,Tryz.results132,go_sem,f,g,d,e]
theorem Ej (Z:Zs) (z:Int × O × List UInt8):bT (Z++[z])=bT Z++[V .i64 z.1,z.2.1]:=by simp [bT]
theorem FB (w:R) (S:Hp) (j d r t m:Nat) (J:Jr) (D:aC) (own:KV) (n:Nat) (F:ai) (c0:ag w (j8 j d r t J*(aV S d D*(ak S*(mp m own*F))))) (hJ:J.Ok) (hD:D.Ok) (hn:n<=J.P) :
  Calls Q 132 #[az j,V .i64 (n:Int),.map (U m)] w (TT S j d r t m own (J.cm D own (bX J.T J.P (Jr.tail J) n)) F w):=by
 obtain ⟨i0,hi,hz,G0,F0⟩:=info_parts oz;refine (callsIn_wide (n:=9)).1 ?_;refine callsIn_of_wp_marks func132 rfl trivial ?_ rfl;simp only [ntmps132,List.size_toArray,J4,K3,Nat.reduceAdd,Nat.reduceSub,Array.replicate_succ,Array.replicate_zero,List.push_toArray,List.append_toArray,List.nil_append,List.cons_append];have I:=((((c0.alloc (Y #[az j] 122 (0,0))).alloc (Y #[.map (U m)] 177 (0,0))).alloc (Y #[X W 0 0] 125 (0,0))).alloc (Y #[V .i64 0] 28 (0,0))).alloc (Y #[X W 0 0] 125 (0,0));have d1:=(((((aj.refl w).alloc (Y #[az j] 122 (0,0))).alloc (Y #[.map (U m)] 177 (0,0))).alloc (Y #[X W 0 0] 125 (0,0))).alloc (Y #[V .i64 0] 28 (0,0))).alloc (Y #[X W 0 0] 125 (0,0));simp only [World.size_alloc] at I
 gi_wp2_with fail
 generalize ((((w.alloc (Y #[az j] 122 (0,0))).alloc (Y #[.map (U m)] 177 (0,0))).alloc (Y #[X W 0 0] 125 (0,0))).alloc (Y #[V .i64 0] 28 (0,0))).alloc (Y #[X W 0 0] 125 (0,0))=w1 at I d1 ⊢;generalize w.heap.size+1+1+1+1=s at I ⊢;generalize w.heap.size+1+1+1=f at I ⊢;generalize w.heap.size+1+1=e at I ⊢;generalize w.heap.size+1=z at I ⊢;generalize w.heap.size=bj at I ⊢;refine ni (Ll w1 j (n:Int)) ?_;rintro c1 w2 ⟨rfl,rfl⟩;have h2:=(I.alloc (Y #[az j] 122 (0,0))).alloc (Y #[V .i64 (n:Int)] 3 (0,0));have d2:=(d1.alloc (Y #[az j] 122 (0,0))).alloc (Y #[V .i64 (n:Int)] 3 (0,0));simp only [World.size_alloc] at h2
 gi_wp2_with fail
 generalize (w1.alloc (Y #[az j] 122 (0,0))).alloc (Y #[V .i64 (n:Int)] 3 (0,0))=w2 at h2 d2 ⊢;generalize w1.heap.size+1=cn at h2 ⊢;generalize w1.heap.size=cj at h2 ⊢;clear I d1 c0
 have hE:ag w2 ((j8 j d r t J*lH S d m s bj z e f j own J D F [])*(ia cj cn j n*emp)):=by
  have P:=h2.fq 188 2
  have h4:ag w2 (lH S d m s bj z e f j own J D F []*(ia cj cn j n*j8 j d r t J)):=oj (S':=S) (v:=X W 0 0) (Z:=[]) (Ext.refl S) rfl rfl (by simp)
   (P.to (by unfold ia;simp only [Jr.cm,List.foldl_nil,K3,bT,List.flatMap_nil];ac_rfl))
  exact h4.to (by rw [gQ];ac_rfl)
 clear h2
 refine mH (w0:=w) rfl (by decide) (gf:=227) (lb:=#[.pointer (U ⟨cj,0,W⟩),.pointer (U ⟨cn,0,W⟩)]) rfl trivial (enters func227 (by kernel_rfl) rfl)
  (Jx _ cj cn j d r t J n hJ hn)
  (fun x tt=>(((tt.setIfInBounds 18 (V .i64 x.1)).setIfInBounds 19 (V .i64 x.2)).setIfInBounds 9 (V .i64 x.1)).setIfInBounds 10 (V .i64 x.2))
  (fun E=>j8 j d r t J*lH S d m s bj z e f j own J D F E) (fun b1=>vC (Cr _ _) b1)
  (fun N0 E=>fact (N0 = .ret)*Ft S j d r t m e f own J D F E)
  (fun u x=>j8 j d r t J*lH S d m s bj z e f j own J D F u) emp ?hps d2 hE ?assign ?body ?done ?stop
 case hps=>
  intro x vs C o c0;unfold BA at c0;obtain ⟨rfl,_⟩:=ag.aq.1 c0
  rfl
 case assign=>
  intro l K u x vs C o g1 _ b0 H hK;have H1:=H.ah;unfold BA at H1;obtain ⟨rfl,h⟩:=ag.aq.1 H1;clear H H1
  gi_wp2
  exact hK _ b0 h
 case done=>
  intro D2 E o hS b0 H;subst hS;obtain ⟨g,v,Z,d0,B,hZ,hV,h⟩:=ug (H.to (by ac_rfl):ag o (lH S d m s bj z e f j own J D F (bX J.T J.P (Jr.tail J) n)*(j8 j d r t J*(ia cj cn j n*(pt D2 (.deferred (U []))*emp)))));have kl:o.cell? ⟨s,0,W⟩=U v:=h.cell 0;have k6:o.cell? ⟨e,0,W⟩=U (X W 0 0):=h.bZ.cell 0;have f6:o.frozen? ⟨e,0,W⟩=Y':=h.bZ.frozen 0;have G:=(h.bZ.setCell 0 v).eK;have k7:(o.setCell ⟨e,0,W⟩ v).cell? ⟨f,0,W⟩=U (V .i64 0):=G.cell 0;have f7:(o.setCell ⟨e,0,W⟩ v).frozen? ⟨f,0,W⟩=Y':=G.frozen 0;have H4:=G.setCell 0 (V .i64 0);have d4:=(b0.setCell ⟨e,0,W⟩ v).setCell ⟨f,0,W⟩ (V .i64 0);obtain ⟨va,vc,rfl⟩:=aF h.ah;have hj:=Jr.vU B;generalize J.cm D own (bX J.T J.P (Jr.tail J) n)=l0 at *;obtain ⟨⟨rc,rl⟩,N,D'⟩:=l0;simp only at B hj hZ;subst B hj;have HH:=ae H4;clear H h G H4 hE d2;have HD:=ae d4;clear d4
  gi_wp2
  generalize (o.setCell ⟨e,0,W⟩ (X va Z.length vc)).setCell ⟨f,0,W⟩ (V .i64 0)=W3 at HH HD ⊢
  have H5:ag W3 (pt D2 (.deferred (U []))*(pt e (Y #[X va Z.length vc] 125 (0,0))*(pt f (Y #[V .i64 0] 28 (0,0))*(j8 j d r t N*(aV g d D'*(ak g*(sl 188 2 (X va Z.length vc) Z.length (bT Z)*(mp m own*F)))))))):=by
   have c0:=HH.out;simp only [T4,W4] at c0;exact (c0.to (by ac_rfl:_=(pt s (Y #[X va Z.length vc] 125 (0,0))*(pt bj (Y #[az j] 122 (0,0))*(pt z (Y #[.map (U m)] 177 (0,0))*(ia cj cn j n*emp))))*(pt D2 (.deferred (U []))*(pt e (Y #[X va Z.length vc] 125 (0,0))*(pt f (Y #[V .i64 0] 28 (0,0))*(j8 j d r t N*(aV g d D'*(ak g*(sl 188 2 (X va Z.length vc) Z.length (bT Z)*(mp m own*F)))))))))).right
  have hK:=H5.heap;have M:=(H5.putObj (.deferred W)).right;refine ⟨by simp,.inl ⟨_,_,rfl,run_takeDeferred hK,?_⟩⟩;exact ⟨_,pZ rfl rfl (M.cell 0) (M.ah.cell 0),g,_,Z,d0,rfl,hZ,hV,M.right.right,HD.out.putObj _ _⟩
 case stop=>
  intro D2 N0 E o f0 b0 H0;obtain ⟨rfl,H⟩:=ag.aq.1 (H0.to (ax _ _ _));obtain ⟨g,H1⟩:=ag.aw.1 H;obtain ⟨⟨d0,B,T0⟩,h⟩:=ag.aq.1 (H1.to (ax _ _ _));have c:=Jr.ET B f0
  have G:ag o (pt D2 (.deferred (U []))*(pt e (Y #[X W 0 0] 125 (0,0))*(pt f (Y #[V .i64 (J.cm D own E).1.1] 28 (0,0))*(j8 j d r t (J.cm D own E).2.1*(aV g d (J.cm D own E).2.2*(ak g*(mp m own*F))))))):=
   (h.to (by ac_rfl:_=(ia cj cn j n*emp)*(pt D2 (.deferred (U []))*(pt e (Y #[X W 0 0] 125 (0,0))*(pt f (Y #[V .i64 (J.cm D own E).1.1] 28 (0,0))*(j8 j d r t (J.cm D own E).2.1*(aV g d (J.cm D own E).2.2*(ak g*(mp m own*F))))))))).right
  rw [c];have hK:=G.heap;have H4:=(G.putObj (.deferred W)).right;have H5:=H4.right.right.fq 188 2;have HD:=ae (b0.putObj D2 (.deferred W));have HN:=ae T0;have K0:=ae H4;have Z0:=ae H5;generalize J.cm D own E=l0 at *;clear H0 H H1 h G H4 H5 hE d2 c B T0
  gi_wp2
  refine ⟨by simp,.inl ⟨_,_,rfl,run_takeDeferred hK,?_⟩⟩;exact ⟨_,pZ rfl rfl (K0.out.cell 0) (K0.out.ah.cell 0),g,X W 0 0,[],d0,rfl,by rw [HN.out];rfl,by simp,Z0.out.to (by ac_rfl),HD.out⟩
 case body=>
  intro l K u x C o f0 b0 H;obtain ⟨id,p⟩:=x;obtain ⟨g,v,Z,d0,B,hZ,hV,h⟩:=ug (H.to (by ac_rfl):ag o (lH S d m s bj z e f j own J D F u*(j8 j d r t J*(pt l (.loop K)*C))));have c:=J.Ek D own u (id,p);unfold Jr.cY at c;rw [if_neg (by simpa using B),Jr.vU B] at c;dsimp only at c
  have p1:Z.length<=n:=by
   have I:=f0.length_le;have h2:=lf J.T J.P (Jr.tail J) n;have P:=Jr.yr (J:=J) (D:=D) (own:=own) u;rw [<- hZ,L3] at P;simp only [G3,J4,K3] at I;omega
  have hP:=hJ.p1;have R0:(J.cm D own u).2.2.Ok:=(J.um hD own u).ok hD (by have:=hD.many;omega);have kj:o.cell? ⟨bj,0,W⟩=U (az j):=h.aM.cell 0;have ko:o.cell? ⟨z,0,W⟩=U (.map (U m)):=h.dV.cell 0;have g0:=ag.lookup (P:=Q) underlying177 underlying3 (z:=V .i64 0) (by kernel_rfl) h.ly id true
  cases hk:aP own id with
  | some q=>
   rw [hk] at c g0;simp only [H6,if_true,X4] at c g0
   have G:ag o ((j8 j d r t J*lH S d m s bj z e f j own J D F (u++[(id,p)]))*(pt l (.loop K)*C)):=by
    have:=oj (S:=S) (S':=g) (own:=own) (J:=J) (D:=D) (ys:=u++[(id,p)]) (F:=F) (G:=j8 j d r t J*(pt l (.loop K)*C)) (v:=v) (Z:=Z) d0 (by rw [c];exact B) (by rw [c];exact hZ) hV (by rw [c];exact h);exact this.to (by ac_rfl)
   have Y0:=ae G;clear H h G c hk f0 hE d2
   gi_wp2
   exact ⟨b0,Y0.out⟩
  | none=>
   rw [hk] at c g0;simp only [Option.isSome_none,if_true,Option.getD_none,if_neg Bool.false_ne_true] at c g0
   have hl:=zp o g j d r t J (J.cm D own u).2.2 id p _ (h.to (by ac_rfl:_=j8 j d r t J*(aV g d (J.cm D own u).2.2*(ak g*(pt s (Y #[v] 125 (0,0))*(sl 188 2 v Z.length (bT Z) *
    (pt bj (Y #[az j] 122 (0,0))*(pt z (Y #[.map (U m)] 177 (0,0))*(pt e (Y #[X W 0 0] 125 (0,0))*(pt f (Y #[V .i64 0] 28 (0,0))*(mp m own*(F*(pt l (.loop K)*C))))))))))))) hJ R0
   have o0:=rF (J:=J) (D:=(J.cm D own u).2.2) (id:=id) (p:=p);have p0:=Jr.Gc (J:=J) (D:=(J.cm D own u).2.2) (id:=id) (p:=p);have q1:Z.length+1<=20001:=by omega
   generalize hR:J.load (J.cm D own u).2.2 id p=l0 at hl c o0 p0;obtain ⟨⟨rc,rl⟩,N,D'⟩:=l0;dsimp only at hl c o0 p0;have k0:=ae c;have s0:=ae o0;have u0:=ae p0;have HZ:=ae hZ;have HV:=ae hV;have L0:=ae d0;clear H h c hk f0 hE d2 hR o0 p0 hZ hV d0 R0 B
   gi_wp2_with fail
   refine sH hl ?_;rintro c1 w3 ⟨dv,rfl,P,d3⟩;clear hl kj ko g0
   by_cases e0:rc=0
   .subst e0
    obtain rfl:=u0.out rfl;have c:=k0.out;rw [if_pos rfl] at c;have e1:=s0.out rfl
    obtain ⟨S3,m0,D0,h4⟩:=ag.zv (P.vh.to (by ac_rfl:_=ak g*(bs 5 dv rl*(pt s (Y #[v] 125 (0,0))*(sl 188 2 v Z.length (bT Z)*(j8 j d r t N*(aV g d D' *
     (pt bj (Y #[az j] 122 (0,0))*(pt z (Y #[.map (U m)] 177 (0,0))*(pt e (Y #[X W 0 0] 125 (0,0))*(pt f (Y #[V .i64 0] 28 (0,0))*(mp m own*(F*(pt l (.loop K)*C)))))))))))))) (by unfold small;omega)
    obtain ⟨da,dc,rfl⟩:∃ da dc,dv = X da rl.length dc:=by
     rcases D0.2 with ⟨rfl,B⟩|⟨j1,h1,i1,rfl,_⟩
     .exact ⟨_,_,by rw [B];rfl⟩
     .exact ⟨_,_,rfl⟩
    have h5:ag w3 (sl 188 2 v Z.length (bT Z)*(pt s (Y #[v] 125 (0,0))*(aV S3 d D'*(ak S3*(pt bj (Y #[az j] 122 (0,0))*(pt z (Y #[.map (U m)] 177 (0,0))*(pt e (Y #[X W 0 0] 125 (0,0))*(pt f (Y #[V .i64 0] 28 (0,0))*(mp m own*(F*(j8 j d r t N*(pt l (.loop K)*C)))))))))))):=
     ((h4.to (by ac_rfl:_=aV g d D'*(sl 188 2 v Z.length (bT Z)*(pt s (Y #[v] 125 (0,0))*(ak S3*(pt bj (Y #[az j] 122 (0,0))*(pt z (Y #[.map (U m)] 177 (0,0))*(pt e (Y #[X W 0 0] 125 (0,0))*(pt f (Y #[V .i64 0] 28 (0,0))*(mp m own*(F*(j8 j d r t N*(pt l (.loop K)*C))))))))))))).fO (yp m0)).to (by ac_rfl)
    have k1:w3.cell? ⟨s,0,W⟩=U v:=h5.ah.cell 0;have m1:=h5.ah.frozen 0;have x0:=h5.alloc (Y #[V .i64 id,X da rl.length dc] 188 (0,0))
    have S0:pP (w3.alloc (Y #[V .i64 id,X da rl.length dc] 188 (0,0))) 2 (X (U ⟨w3.heap.size,0,W⟩) 1 1) 1 [V .i64 id,X da rl.length dc]:=
     ⟨rfl,.inr ⟨_,_,rfl,fun j s1 hu=>by
      rw [Addr.add_lit,Y4];exact (x0.cell j).trans (by simpa using hu)⟩⟩
    obtain ⟨v',w',V0,h0,X0⟩:=ag.append (P:=Q) (ty:=125) underlying125 hi hz G0 F0 rfl x0.right S0 (by simp [Value.oneCell']) (by unfold maxLen;omega) (by omega);obtain ⟨aa,ac,rfl⟩:=aF h0;obtain ⟨wa,wc,rfl⟩:=aF h5;have l1:=h0.ah.cell 0;have o1:=h0.ah.frozen 0;have W0:=h0.ah.setCell 0 (X aa (Z.length+1) ac);have D5:=(((b0.trans d3).alloc (Y #[V .i64 id,X da rl.length dc] 188 (0,0))).trans X0).setCell ⟨s,0,W⟩ (X aa (Z.length+1) ac)
    have M:=oj (S:=S) (S':=S3) (d:=d) (m:=m) (bl:=s) (bj:=bj) (bo:=z) (b6:=e) (b7:=f) (j:=j) (own:=own) (J:=N) (D:=D) (ys:=u++[(id,p)]) (F:=F) (G:=j8 j d r t N*(pt l (.loop K)*C)) (v:=X aa (Z.length+1) ac) (Z:=Z++[(id,X da rl.length dc,rl)]) (L0.out.trans m0) (by rw [c])
     (by rw [c,J3,HZ.out];rfl) (fun f1 hz=>by
      rcases List.mem_append.1 hz with hz|hz
      .exact (HV.out f1 hz).mono m0
      .rw [List.mem_singleton.1 hz];exact D0) (by
      rw [c];refine W0.to ?_;simp only [T4,W4,Ej,G3,J4,K3,Y4])
    have a1:=ae V0;have r0:=ae M;have q0:=ae D5;clear V0 S0 x0 hi hz G0 F0 h4 h5 h0 W0 M D5 c e1 D0 m0 P X0 k0 s0 u0 d3
    gi_wp2_with (gi_at_builtin;refine dF a1.out _ _ rfl rfl rfl rfl rfl ?_)
    exact ⟨q0.out,r0.out.to (by ac_rfl)⟩
   .have c:=k0.out
    rw [if_neg e0] at c;have h4:=(P.CD e0).2;obtain rfl:=(P.CD e0).1;have r1:(rc == 0)=Y':=by simpa using e0
    have k6:w3.cell? ⟨e,0,W⟩=U (X W 0 0):=h4.eK.cell 0;have f6:w3.frozen? ⟨e,0,W⟩=Y':=h4.eK.frozen 0;have H7:=(h4.eK.setCell 0 (X W 0 0)).ly;have k7:=H7.cell 0;have f7:(w3.setCell ⟨e,0,W⟩ (X W 0 0)).frozen? ⟨f,0,W⟩=Y':=H7.frozen 0;have H8:=H7.setCell 0 (V .i64 rc);simp only [T4,W4] at H8;have D5:=((b0.trans d3).setCell ⟨e,0,W⟩ (X W 0 0)).setCell ⟨f,0,W⟩ (V .i64 rc)
    have M:=CT (S:=S) (S':=g) (j:=j) (d:=d) (r:=r) (t:=t) (m:=m) (b6:=e) (b7:=f) (own:=own) (J:=J) (D:=D) (ys:=u++[(id,p)]) (F:=F) (G:=pt l (.loop K)*C) L0.out (by rw [c];exact e0) (by rw [c]) (by
     rw [c];exact (H8.to (by ac_rfl:_=(pt s (Y #[v] 125 (0,0))*(sl 188 2 v Z.length (bT Z)*(pt bj (Y #[az j] 122 (0,0))*pt z (Y #[.map (U m)] 177 (0,0)))))*(j8 j d r t N*(pt e (Y #[X W 0 0] 125 (0,0))*(pt f (Y #[V .i64 rc] 28 (0,0))*(aV g d D'*(ak g*(mp m own*(F*(pt l (.loop K)*C)))))))))).right)
    have r0:=ae M;have q0:=ae D5;clear hi hz G0 F0 P h4 H7 H8 M D5 c k0 s0 u0 e0 d3
    gi_wp2
    exact ⟨q0.out,(ag.aq.2 ⟨rfl,r0.out⟩:ag _ (fact (Code.ret=Code.ret)*_)).to (ax _ _ _).symm⟩
end Go.Proofs.Nn
namespace Go.Proofs.Nn
open RowKit SL
def Vi (w:R) (e:Ending) (c:R):Prop:=∃ v,e = .returned v/\ag c (sl 188 2 v 0 []*whole w)/\aj w c
theorem M6 (w:R) (n:Nat) (I:n<=1000000):Calls Q 177 #[X W 0 0,V .i64 (n:Int)] w (Vi w):=by
 obtain ⟨F,B,E,C,s⟩:=info_parts oz
 by_cases l:n=0
 .subst l
  go_enter func177,ntmps177
  go_wp2
  go_ret
  exact ⟨_,rfl,(ag.whole w).fq _ _,aj.refl w⟩
 .have c:=fun w=>Lib.run_append_nil_zeros (P:=Q) w 125 3 125 188 F _ .i64 .i64 underlying125 underlying3 B E n (by omega) (by rw [C];decide) (by omega) (by rw [s];omega)
  have z:=grownCap_ge w n 0 188;have f:=grownCap_le_maxLen w n 0 188 (by unfold maxLen;omega);have c:=c w;generalize H:grownCap w n 0 188=e at c z f;generalize o:Builtin.zeroCells (Value.agg #[V .i64 0,X W 0 0]).cells n++Builtin.zeroCells (Value.agg #[V .i64 0,X W 0 0]).cells (e-n)=d at c;have r:d.size=e*2:=by rw [<- o];simp [size_zeroCells,Value.cells];omega
  have u:ag (w.drew.alloc (Y d 188)) (sl 188 2 (X (U ⟨w.heap.size,0,W⟩) 0 e) 0 []*whole w):=by
   have m:=((ag.whole w).drew.alloc (Y d 188 (0,0))).oa (n:=0) (sz:=2) (by omega) f r;simpa using m
  have j:=(aj.refl w).drew.alloc (Y d 188 (0,0));have G:(0:Int)<(n:Int):=by omega
  have h:=ae u;have g:=ae j
  go_enter func177,ntmps177
  go_wp2_with (at_builtin;refine Lib.wpList_append_run _ rfl _ _ _ _ rfl _ _ rfl rfl _ _ c ?_)
  go_ret
  exact ⟨_,rfl,h.out,g.out⟩
def upto {c:Type} (k:Nat) (x y z:c):c:=if k=0 then x else if k=1 then y else z
def PZ (n:Nat) (d:List O) (w:R) (e:Ending) (c:R):Prop:=∃ v,e = .returned v/\ag c (sl 188 2 v n d*whole w)/\aj w c
def J6 (n m:Nat) (c d:List O) (w:R) (u i:O) (wr:R):Prop:=
 ∃ k:Nat,k<=2/\i = V .i64 (k:Int)/\ag wr (sl 188 2 u (upto k 0 n (n+m)) (upto k [] c (c++d))*whole w)/\aj w wr
theorem EV (w:R) (g n m:Nat) (E F:Option Addr) (G H:Nat) (f j:List O) (h0:w.cell? ⟨g,0,W⟩=U (X E n G)) (h1:w.cell? ⟨g,1,W⟩=U (X F m H))
  (hx:pP w 2 (X E n G) n f) (hy:pP w 2 (X F m H) m j) (ox:∀ u ∈ f,u.oneCell'=true) (oy:∀ u ∈ j,u.oneCell'=true) (hn:n<=500000) (hm:m<=500000) :
  Calls Q 133 #[X (U ⟨g,0,W⟩) 2 2] w (PZ (n+m) (f++j) w):=by
 obtain ⟨i0,hi,hz,c0,b0⟩:=info_parts oz;have I:=M6 w (n+m) (by omega);rw [show ((n+m:Nat):Int)=(n:Int)+(m:Int) by omega] at I;have K:=ae hx;have M:=ae hy;have N:=ae ox;have P:=ae oy;have z:=ae hi;have C:=ae hz;have B:=ae c0;have s:=ae b0
 go_enter func133,ntmps133
 go_wp2_with fail
 go_loop [3,11] (fun u i=>∃ k:Nat,k<=2/\i = V .i64 (k:Int)/\u = V .i64 (upto k 0 (n:Int) ((n:Int)+(m:Int)))) (fun _ i=>2-(intOf i).toNat)
 case atStart=>exact ⟨0,by omega,rfl,rfl⟩
 case round=>
  obtain ⟨k,hk,rfl,rfl⟩:=hrel;obtain rfl|rfl|rfl:k=0\/k=1\/k=2:=by omega
  .simp only [upto,if_true]
   go_wp2_with fail
   go_round
   case rel=>exact ⟨1,by omega,by go_num,by simp [upto]⟩
   case measure=>simp [intOf]
  .simp only [upto,if_true,if_neg (show ¬ (1:Nat)=0 by decide)]
   go_wp2_with fail
   go_round
   case rel=>exact ⟨2,by omega,by go_num,by simp [upto]⟩
   case measure=>simp [intOf]
  .simp only [upto,if_neg (show ¬ (2:Nat)=0 by decide),if_neg (show ¬ (2:Nat)=1 by decide)]
   go_wp2_with fail
   (refine I.mono ?_)
   rintro d0 w1 ⟨v,rfl,h2,d2⟩
   go_wp2_with fail
   go_loopw [6,27] (fun u i wr=>J6 n m f j w u i wr) (fun _ i _=>2-(intOf i).toNat)
   case atStart=>exact ⟨0,by omega,rfl,h2,d2⟩
   case round=>
    obtain ⟨k,hk,rfl,c,o⟩:=hrel;have k0:=c.bJ h0;have k1:=c.bJ h1;obtain rfl|rfl|rfl:k=0\/k=1\/k=2:=by omega
    .simp only [upto,if_true] at c
     obtain ⟨va,vc,rfl⟩:=aF c;obtain ⟨v',w',l,e,r⟩:=ag.append (P:=Q) (ty:=125) underlying125 z.out C.out B.out s.out rfl c (K.out.carry fun a u h=>c.bJ h) N.out (by unfold maxLen;omega) (by omega);have d:=ae e;have Hd:=ae (o.trans r);obtain ⟨S,bc,rfl⟩:=aF e
     go_wp2_with (at_builtin;refine wpList_append_run l _ _ rfl rfl rfl rfl rfl ?_)
     go_roundw
     case rel=>exact ⟨1,by omega,by go_num,by simpa [upto] using d.out,Hd.out⟩
     case measure=>simp [intOf]
    .simp only [upto,if_true,if_neg (show ¬ (1:Nat)=0 by decide)] at c
     obtain ⟨va,vc,rfl⟩:=aF c;obtain ⟨v',w',l,e,r⟩:=ag.append (P:=Q) (ty:=125) underlying125 z.out C.out B.out s.out rfl c (M.out.carry fun a u h=>c.bJ h) P.out (by unfold maxLen;omega) (by omega);have d:=ae e;have Hd:=ae (o.trans r);obtain ⟨S,bc,rfl⟩:=aF e
     go_wp2_with (at_builtin;refine wpList_append_run l _ _ rfl rfl rfl rfl rfl ?_)
     go_roundw
     case rel=>exact ⟨2,by omega,by go_num,by simpa [upto] using d.out,Hd.out⟩
     case measure=>simp [intOf]
    .simp only [upto,if_neg (show ¬ (2:Nat)=0 by decide),if_neg (show ¬ (2:Nat)=1 by decide)] at c
     have d:=ae c;have Hd:=ae o
     go_wp2
     go_ret
     exact ⟨_,rfl,d.out,Hd.out⟩
end Go.Proofs.Nn
namespace Go.SL
open RowKit
abbrev Bl:=List (Int × List UInt8)
def cu (Z:List Wr):Bl:=Z.map fun z=>(z.1,z.2.2)
def mA (L:Bl):List Wr:=L.map fun x=>(x.1,X W 0 0,x.2)
theorem qO (L:Bl):cu (mA L)=L:=by
 unfold cu mA;rw [Z4];exact List.map_id L
theorem j5 (Z:List Wr):(cu Z).length=Z.length:=by simp [cu]
theorem gB (Z:List Wr) (k:Nat):(Z.getD k Wr.nil).1=((cu Z).getD k (0,[])).1/\(Z.getD k Wr.nil).2.2=((cu Z).getD k (0,[])).2:=by
 simp only [cu,D3,List.getElem?_map];cases Z[k]? <;> simp [Wr.nil]
theorem Jr.AE (J:Jr) (D:aC) {Z Z':List Wr} (h:cu Z=cu Z') (k:Nat):J.bR D Z k=J.bR D Z' k:=by
 have c:Z.length=Z'.length:=by rw [<- j5,h,j5]
 induction k with
 | zero=>rfl
 | succ k d=>
  rw [Jr.bR,Jr.bR,d,(gB Z k).1,(gB Z k).2,(gB Z' k).1,(gB Z' k).2,h,c]
theorem Fv {Z Z':List Wr} (h:cu Z=cu Z') (k:Nat):fN Z k=fN Z' k:=by
 induction k with
 | zero=>rfl
 | succ k c=>rw [fN,fN,c,(gB Z k).1,(gB Z' k).1,h]
def Jr.gx (J:Jr) (L:Bl):Nat->Tb
 | 0=>J.T
 | k+1=>((Jr.gx J L k).put (L.getD k (0,[])).1 ((J.hd+(k:Int))%(J.P:Int))).2
def Jr.aX (J:Jr) (n:Nat):Int:=if J.us<2*(n:Int) then J.us else 2*(n:Int)
def Jr.done (J:Jr) (L:Bl) (c:Int):Jr:=
 { J with T:=J.gx L L.length,sq:=J.sq+1,hd:=(J.hd+(L.length:Int))%(J.P:Int),us:=J.us+((L.length:Int)-c),fr:=c }
structure Tb.Og (T:Tb):Prop where
 os:∀ v ∈ T.os,v=-1\/(0<=v/\v<T.ps.length)
theorem mem_set {l:List Int} {i:Nat} {x v:Int} (h:v ∈ l.set i x):v=x\/v ∈ l:=by grind
theorem Tb.OA {T:Tb} (h:T.Og) (id p:Int):(T.put id p).2.Og:=by
 refine ⟨fun v c=>?_⟩;rw [(T.pL id p).1];unfold Tb.put at c
 split at c
 .rename_i d
  rcases mem_set c with c|c
  .exact .inr ⟨by omega,by omega⟩
  .unfold Tb.drop at c
   split at c
   .rcases mem_set c with c|c
    .exact .inl c
    .exact h.os v c
   .exact h.os v c
 .exact h.os v c
theorem Jr.wM (J:Jr) (L:Bl) (k:Nat):(J.gx L k).ps.length=J.T.ps.length/\(J.gx L k).os.length=J.T.os.length:=by
 induction k with
 | zero=>exact ⟨rfl,rfl⟩
 | succ k c=>exact ⟨((Jr.gx J L k).pL _ _).1.trans c.1,((Jr.gx J L k).pL _ _).2.trans c.2⟩
theorem Jr.IE {J:Jr} (h:J.T.Og) (L:Bl) (k:Nat):(J.gx L k).Og:=by
 induction k with
 | zero=>exact h
 | succ k c=>exact Tb.OA c _ _
structure Jr.NC (J:Jr):Prop where
 VW:1<=J.ep
 VV:J.ep<4294967296
 Up:1<=J.st
 aS:J.st<=J.sq+1
 Un:0<=J.sq
 WC:J.sq<=281474976710655
 n1:J.n<=3840
 own:J.T.Og
theorem Jr.NC.numbers {J:Jr} (h:J.NC) (c:J.sq<281474976710655):J.uV:=⟨h.VW,h.VV,h.Up,h.aS,h.Un,c⟩
theorem Jr.fU {J:Jr} (c:0<=J.us) (n:Nat):0<=J.aX n/\J.aX n<=J.us/\J.aX n<=2*n:=by
 unfold Jr.aX
 split <;> omega
end Go.SL
namespace Go.Proofs.Nn
open RowKit SL
variable {w:R}
theorem GC {J:Jr} (h:J.T.Ok) (L:Bl) (k:Nat):(J.gx L k).Ok:=by
 induction k with
 | zero=>exact h
 | succ k c=>exact Tb.NK c _ _
def fj (J:Jr) (D:aC) (L:Bl):Mv:=J.cm D (fN (mA L) L.length) (bX J.T J.P (Jr.tail J) (J.aX L.length).toNat)
def vM (J:Jr) (D:aC) (L:Bl):Int × Jr × aC:=
 if (fj J D L).1.1≠0 then ((fj J D L).1.1,(fj J D L).2)
 else if (J.P:Int)-J.us-J.fr<((L++(fj J D L).1.2).length:Int) then (9,J,(fj J D L).2.2)
 else if (J.bR (fj J D L).2.2 (mA (L++(fj J D L).1.2)) (L++(fj J D L).1.2).length).1≠0 then
  ((J.bR (fj J D L).2.2 (mA (L++(fj J D L).1.2)) (L++(fj J D L).1.2).length).1,{ J with br:=true },(J.bR (fj J D L).2.2 (mA (L++(fj J D L).1.2)) (L++(fj J D L).1.2).length).2)
 else (0,J.done (L++(fj J D L).1.2) (J.aX L.length),(J.bR (fj J D L).2.2 (mA (L++(fj J D L).1.2)) (L++(fj J D L).1.2).length).2)
def fg (J:Jr) (D:aC) (ok:Bool) (L:Bl):Int × Jr × aC:=
 if ok=Y' then (1,J,D)
 else if 281474976710655<=J.sq then (12,J,D)
 else if (J.flush D).1≠0 then J.flush D
 else vM J (J.flush D).2.2 L
theorem JL {J:Jr} {D:aC} (h:(J.flush D).1=0):(J.flush D).2.1=J/\(J.flush D).2.2=D.flush.2/\J.br=Y'/\D.flush.1=0:=by
 unfold Jr.flush at h ⊢
 split
 .rename_i c;rw [if_pos c] at h;exact absurd h (show (2:Int)≠0 by decide)
 .rename_i c
  rw [if_neg c] at h
  split
  .rename_i d;exact ⟨rfl,rfl,by simpa using c,d⟩
  .rename_i d;rw [if_neg d] at h;exact absurd h (show (2:Int)≠0 by decide)
theorem IM {J:Jr} (r:J.Ok) (j:J.NC) {D:aC} {own:KV} {P first m:Nat}:∀ x ∈ (J.cm D own (bX J.T P first m)).1.2,0<=x.1/\x.1<3840:=by
 have B:∀ y ∈ bX J.T P first m,0<=y.1/\y.1<3840:=by
  intro y E;obtain ⟨p,_,d⟩:=List.mem_filterMap.1 E
  cases f:told J.T.os (p:Int) with
  | none=>rw [f] at d;cases d
  | some id=>
   rw [f] at d;injection d with d
   obtain ⟨k,_,l,C,w⟩:=tp f;have u:id ∈ J.T.os:=by rw [<- C,D3,H3 l];exact T3 l
   have:=j.n1;have:=r.ps;rcases j.own.os id u with e|⟨o,H⟩
   .exact absurd e w
   .rw [<- d];exact ⟨o,by show id<3840;omega⟩
 have:∀ (L:List (Int × Int)) (s:Mv),(∀ y ∈ L,0<=y.1/\y.1<3840)->(∀ x ∈ s.1.2,0<=x.1/\x.1<3840)->∀ x ∈ (L.foldl (Jr.cY own) s).1.2,0<=x.1/\x.1<3840:=by
  intro L
  induction L with
  | nil=>intro s _ h;exact h
  | cons y L G=>
   intro s g h;rw [E5];refine G _ (fun z F=>g z (K5 _ F)) ?_;unfold Jr.cY
   split
   .exact h
   .split
    .exact h
    .split
     .intro x c
      rcases List.mem_append.1 c with c|c
      .exact h x c
      .rw [List.mem_singleton.1 c];exact g y L5
     .intro x c;cases c
 exact this _ _ B (by simp)
def QK (S:Hp) (j d:Nat) (c:Int × Jr × aC) (F:ai) (w:R) (e:Ending) (g:R):Prop:=
 ∃ f,Ext S f/\e = .returned (V .i64 c.1)/\ag g (qz j d c.2.1*(aV f d c.2.2*(ak f*F)))/\aj w g
theorem TY {v:O} {Z:List Wr} (h:VX w v Z):pP w 2 v Z.length (bT Z):=by
 refine ⟨qU Z,?_⟩;rcases h with ⟨rfl,rfl⟩|⟨g,o,c,rfl,_,_,r⟩
 .exact .inl ⟨rfl,rfl⟩
 .refine .inr ⟨_,_,rfl,fun i u d=>?_⟩
  have B:=qU Z;have z:i<Z.length*2:=by grind
  rw [Addr.add_lit];obtain ⟨k,s⟩:∃ k,i=k*2\/i=k*2+1:=⟨i/2,by omega⟩
  have e:k<Z.length:=by omega
  obtain ⟨l,m⟩:=yI Z k e;obtain ⟨f,j⟩:=r k e;rw [D3,H3 e] at f j;rcases s with rfl|rfl
  .rw [l] at d;injection d with d;rw [<- d];exact f
  .rw [m] at d;injection d with d;rw [<- d];exact j
theorem yB (Z:List Wr) (h:∀ z ∈ Z,∃ a n c,z.2.1 = X a n c):∀ u ∈ bT Z,u.oneCell'=true:=by
 intro u d;obtain ⟨z,f,d⟩:=List.mem_flatMap.1 d;obtain ⟨a,n,c,e⟩:=h z f;simp only [List.mem_cons,List.not_mem_nil,or_false] at d;rcases d with rfl|rfl
 .rfl
 .rw [e];rfl
theorem yi {T:TypeId} {v:O} {Z:List Wr} {F:ai} (h:ag w (sl T 2 v Z.length (bT Z)*F)):VX w v Z:=by
 rcases h.dm with ⟨rfl,e,_,_⟩|⟨g,d,o,rfl,f,j,r,s,_⟩
 .exact .inl ⟨rfl,List.eq_nil_of_length_eq_zero e⟩
 .refine .inr ⟨g,0,d,rfl,f,j,fun k c=>?_⟩
  obtain ⟨l,m⟩:=h.kI c;rw [Y4,D3,H3 c];exact ⟨l,m⟩
theorem Nz {n:Int} {Z:List Wr} (h:IV n Z) {z:Wr} (d:z ∈ Z):0<=z.1/\z.1<n/\z.2.2.length=480:=by
 obtain ⟨k,c,rfl⟩:=List.getElem_of_mem d;have:=h.ok k c;unfold okW at this;rw [D3,H3 c] at this;exact ⟨this.1,this.2.1,this.2.2.1⟩
theorem FE {T:TypeId} {S:Hp} {v:O} {l:List UInt8} (h:qS T S v l):∃ a n c,v = X a n c:=by
 rcases h.2 with ⟨rfl,_⟩|⟨g,d,e,rfl,_⟩ <;> exact ⟨_,_,_,rfl⟩
theorem El {D:aC} (h:D.flush.1=0):D.flush.2.wait=[]:=by
 unfold aC.flush at h ⊢
 split
 .rfl
 .rename_i c;rw [if_neg c] at h;exact absurd h (show (2:Int)≠0 by decide)
theorem xO:∀ c w,(callFunc 137 c).run Q w = .ok (.enter 137 c) w:=enters func137 (by kernel_rfl) rfl
def Em (n t:Nat) (J:Jr) (L:Bl) (c:ai) (w:R) (i:O) (wr:R):Prop:=
 ∃ k:Nat,k<=n/\i = V .i64 (k:Int)/\ag wr (bP t (J.gx L k)*c)/\aj w wr
theorem A9 (w:R) (S:Hp) (j d:Nat) (J:Jr) (D:aC) (F:ai) (v:O) (Z:List Wr) (h:ag w (qz j d J*(aV S d D*(ak S*F)))) (G:J.Ok) (hN:J.NC) (hD:D.Ok)
  (hl:Z.length<=1000000) (hr:Reads S v Z F) (u0:Bool) (K:u0=true↔IV J.n Z) :
  Calls Q 77 #[az j,v] w (QK S j d (fg J D u0 (cu Z)) F w):=by
 have hv:=hr S (qz j d J*aV S d D) w (Ext.refl S) (h.to (by ac_rfl));have M1:∀ z ∈ Z,∃ a l0,z.2.1 = X a z.2.2.length l0:=fun z o=>(hv.2 z o).shape;have hb:=EX w j d J _ h v Z hv.1 M1 hl u0 K
 obtain ⟨aa,ac,M2⟩:∃ aa ac,v = X aa Z.length ac:=by
  rcases hv.1 with ⟨rfl,h⟩|⟨X1,q3,l0,rfl,_⟩
  .rw [h];exact ⟨_,_,rfl⟩
  .exact ⟨_,_,rfl⟩
 subst M2;obtain ⟨x,hx⟩:=h.tF;obtain ⟨t,hx⟩:=hx;have c6:w.cell? ⟨j,6,W⟩=U (V .u64 J.sq):=hx.cell 6;clear hx hv;obtain ⟨W0,f⟩:∃ W0,W0=fg J D u0 (cu Z):=⟨_,rfl⟩
 rw [<- f];unfold fg at f
 cases u0 with
 | false=>
  have HR:=ae hr;rw [if_pos rfl] at f;have m:=ae f;clear K hr c6 f
  go_enter func77,ntmps77
  go_wp2_with fail
  (with_reducible refine hb.mono ?_)
  rintro e w1 ⟨rfl,B,d1⟩;have h2:=B.ei h;clear hb B
  go_wp2
  go_ret
  exact ⟨S,Ext.refl S,by rw [m.out];rfl,by rw [m.out];exact h2,d1⟩
 | true=>
  have K0:=K.1 rfl;rw [if_neg (by simp)] at f
  by_cases hq:281474976710655<=J.sq
  .rw [if_pos hq] at f
   have m:=ae f;have HM:=ae K0;have HR:=ae hr;clear K K0 hr f
   go_enter func77,ntmps77
   go_wp2_with fail
   (with_reducible refine hb.mono ?_)
   rintro e w1 ⟨i0,rfl,B,d1⟩;have h2:=(B.under h).right;have u1:w1.cell? ⟨j,6,W⟩=U (V .u64 J.sq):=B.bJ c6;clear hb B h c6
   go_wp2
   go_ret
   exact ⟨S,Ext.refl S,by rw [m.out];rfl,by rw [m.out];exact h2,d1⟩
  .rw [if_neg hq] at f
   have W2:=hN.numbers (by omega);have c3:Z.length<=24:=K0.n1;have f3:(Z.length:Int)<=24:=by omega
   have HM:=ae K0;have HR:=ae hr;have m:=ae f;clear K K0 hr f
   go_enter func77,ntmps77
   go_wp2_with fail
   (with_reducible refine hb.mono ?_)
   rintro e w1 ⟨i0,rfl,B,d1⟩;have h2:=B.under h;have u1:w1.cell? ⟨j,6,W⟩=U (V .u64 J.sq):=B.bJ c6;clear hb B h c6;have g0:=vX w1 S j d J D (ak S*(mp i0 (fN Z Z.length)*F)) (h2.to (by ac_rfl)) hD
   by_cases P:(J.flush D).1=0
   .obtain ⟨e1,e2,N2,l2⟩:=JL P
    have f:=m.out;rw [if_neg (by simpa using P)] at f;clear m;have a1:(J.flush D).2.2.Ok:=by rw [e2];exact (aC.iE hD).ok hD (by have:=hD.many;omega)
    have N1:(J.flush D).2.2.wait=[]:=by rw [e2];exact El l2
    have p2:fN (mA (cu Z)) (cu Z).length=fN Z Z.length:=by rw [j5];exact Fv (qO _) _
    have K1:=Jr.fU G.EK Z.length;have p3:=G.TE;have h1:=fun (w2:R) (r0 t:Nat) h=>FB w2 S j d r0 t i0 J (J.flush D).2.2 (fN Z Z.length) (J.aX Z.length).toNat F h G a1 (by omega);rw [K4 K1.1] at h1;have j2:J.flush D=(0,J,(J.flush D).2.2):=Prod.ext P (Prod.ext e1 rfl);unfold vM fj at f;rw [p2,j5] at f;generalize (J.flush D).2.2=D1 at *;rw [j2] at g0;have g2:=Jr.vU (J:=J) (D:=D1) (own:=fN Z Z.length) (L:=bX J.T J.P (Jr.tail J) (J.aX Z.length).toNat);have c1:=Jr.um J a1 (fN Z Z.length) (bX J.T J.P (Jr.tail J) (J.aX Z.length).toNat);have A1:=Jr.yr (J:=J) (D:=D1) (own:=fN Z Z.length) (bX J.T J.P (Jr.tail J) (J.aX Z.length).toNat);have f2:=IM G hN (D:=D1) (own:=fN Z Z.length) (P:=J.P) (first:=Jr.tail J) (m:=(J.aX Z.length).toNat);have Z1:=Ie (J:=J) (D:=D1) (own:=fN Z Z.length) (L:=bX J.T J.P (Jr.tail J) (J.aX Z.length).toNat)
    replace A1:(J.cm D1 (fN Z Z.length) (bX J.T J.P (Jr.tail J) (J.aX Z.length).toNat)).1.2.length<=48:=by
     have:=lf J.T J.P (Jr.tail J) (J.aX Z.length).toNat;omega
    generalize J.cm D1 (fN Z Z.length) (bX J.T J.P (Jr.tail J) (J.aX Z.length).toNat)=k0 at *;have a2:k0.2.2.Ok:=c1.ok a1 (by rw [N1];simp);have i2:k0.2.2.wait.length=0:=by have:=c1.many;rw [N1] at this;simpa using this
    have hc:(J.us<2*(Z.length:Int)/\J.aX Z.length=J.us)\/(¬ J.us<2*(Z.length:Int)/\J.aX Z.length=2*(Z.length:Int)):=by
     unfold Jr.aX
     split
     .exact .inl ⟨by assumption,rfl⟩
     .exact .inr ⟨by assumption,rfl⟩
    have m:=ae f;have Z2:=ae K1;have o1:=ae c1;have V0:=ae A1;have T0:=ae f2;have S0:=ae Z1;have m1:=ae a2;have r1:=ae i2;have p1:=ae g2;clear P e1 e2 l2 N2 p2 h2 f j2 K1 a1 N1 c1 A1 f2 Z1 a2 i2 g2;rcases hc with ⟨O2,f1⟩|⟨O2,f1⟩
    all_goals
     have E2:=ae f1;rw [f1] at h1;clear f1
     go_wp2_with fail
     (with_reducible refine g0.mono ?_)
     rintro e w2 ⟨rfl,h3,d2⟩;obtain ⟨r0,t,h4⟩:=h3.GZ;have k8:w2.cell? ⟨j,8,W⟩=U (V .i64 J.us):=h4.GK.cell 8;have o2:=h1 w2 r0 t h4;clear h1 g0 h3 u1 h4
     go_wp2_with fail
     (with_reducible refine o2.mono ?_)
     rintro e w3 ⟨E,v3,g,m0,rfl,F0,H1,h5,d3⟩;clear o2 k8
     by_cases o0:k0.1.1=0
     .have c2:=p1.out o0
      obtain ⟨⟨mc,ml⟩,c,mD⟩:=k0;dsimp only at o0 c2 F0 h5 m o1 V0 T0 S0 m1 r1;subst o0 c2;have f:=m.out;rw [if_neg (by simp)] at f;obtain ⟨va,vc,rfl⟩:=aF h5.aA;have C:=h5.alloc (Y #[X aa Z.length ac,X va g.length vc] 125 (0,0));have dA:=((d1.trans d2).trans d3).alloc (Y #[X aa Z.length ac,X va g.length vc] 125 (0,0));have r2:=HR.out E (pt w3.heap.size (Y #[X aa Z.length ac,X va g.length vc] 125 (0,0))*(j8 j d r0 t c*(aV E d mD*(sl 188 2 (X va g.length vc) g.length (bT g)*mp i0 (fN Z Z.length))))) _ m0 (C.to (by ac_rfl));have g3:g.length<=48:=by have:=V0.out;rw [<- F0,L3] at this;exact this
      have G0:=EV (w3.alloc (Y #[X aa Z.length ac,X va g.length vc] 125 (0,0))) w3.heap.size Z.length g.length aa va ac vc (bT Z) (bT g) (C.cell 0) (C.cell 1) (TY r2.1) C.aM.oI
       (yB Z fun z o=>by obtain ⟨a,l0,e⟩:=M1 z o;exact ⟨a,_,l0,e⟩) (yB g fun z o=>FE (H1 z o)) (by omega) (by omega)
      have e5:bT Z++bT g=bT (Z++g):=by simp [bT]
      have e6:cu Z++ml=cu (Z++g):=by rw [<- F0];simp [cu]
      rw [e5] at G0;rw [e6,j5,Jr.AE c (Z:=mA (cu (Z++g))) (Z':=Z++g) mD (qO _),G3] at f;have T2:Z.length+g.length<=72:=by omega
      have L1:∀ z ∈ Z++g,0<=z.1/\z.1<3840/\z.2.2.length=480:=by
       intro z o;rcases List.mem_append.1 o with o|o
       .have:=Nz HM.out o
        have:=hN.n1;exact ⟨by omega,by omega,by omega⟩
       .have hm:(z.1,z.2.2) ∈ ml:=by rw [<- F0];exact List.mem_map.2 ⟨z,o,rfl⟩
        have B:=T0.out _ hm;exact ⟨B.1,B.2,S0.out _ hm⟩
      have N0:∀ v5,Reads E v5 (Z++g) (sl 188 2 v5 (Z++g).length (bT (Z++g))*F):=by
       intro v5 S' Y0 w' e hs;refine ⟨yi (hs.to (by ac_rfl:_=sl 188 2 v5 (Z++g).length (bT (Z++g))*(Y0*(ak S'*F)))),fun z o=>?_⟩;rcases List.mem_append.1 o with o|o
       .exact (HR.out S' (Y0*sl 188 2 v5 (Z++g).length (bT (Z++g))) w' (m0.trans e) (hs.to (by ac_rfl))).2 z o
       .exact ((H1 z o).mono e).rd hs.ah
      have H0:(Z++g).length=Z.length+g.length:=G3;rw [H0] at N0;generalize Z++g=l at G0 f L1 N0 H0;generalize Z.length+g.length=r at G0 f T2 N0 H0;have e0:=ae f;have H2:=ae L1;have t1:=ae N0;have D0:=ae H0;have T1:=ae C;have m3:(r:Int)<=72:=by omega
      clear f m r2 e5 e6 L1 N0 H0 h5 H1 F0 o1 V0 T0 S0 p1 HR HM C M1
      go_wp2_with fail
      (with_reducible refine G0.mono ?_)
      rintro e w5 ⟨v5,rfl,h6,d6⟩
      have H7:ag w5 (qz j d c*(aV E d mD*(ak E*(sl 188 2 v5 r (bT l)*F)))):=
       ((h6.under T1.out).to (by ac_rfl:_=(pt w3.heap.size (Y #[X aa Z.length ac,X va g.length vc] 125 (0,0))*(sl 188 2 (X va g.length vc) g.length (bT g)*mp i0 (fN Z Z.length)))*(j8 j d r0 t c*(aV E d mD*(ak E*(sl 188 2 v5 r (bT l)*F)))))).right.Gz
      have D7:=dA.trans d6;obtain ⟨ba,bc,rfl⟩:=aF h6;have u2:=Lf w5 j d c _ H7 G;clear G0 T1 h6 d6 dA d1 d2 d3
      go_wp2_with fail
      (with_reducible refine u2.mono ?_)
      rintro e w6 ⟨rfl,h8,d8⟩;have H8:=h8.ei H7;have D8:=D7.trans d8;clear u2 h8 d8 H7 D7
      by_cases n2:(c.P:Int)-c.us-c.fr<(r:Int)
      .have f:=e0.out
       rw [if_pos n2] at f;have f0:=ae f;have x2:=ae H8;clear f e0 H8
       go_wp2
       go_ret
       exact ⟨E,m0,by rw [f0.out];rfl,by rw [f0.out];exact (x2.out.to (by ac_rfl:_=sl 188 2 (X ba r bc) r (bT l)*(qz j d c*(aV E d mD*(ak E*F))))).right,D8⟩
      .have f:=e0.out
       rw [if_neg n2] at f;have R0:=Fh w6 E j d c mD _ (X ba r bc) l H8 G W2 m1.out (by have:=r1.out;have:=D0.out;omega) (by have:=D0.out;omega) H2.out (t1.out _);rw [D0.out] at R0;generalize hW:c.bR mD l r=X0 at R0 f;obtain ⟨rc,D4⟩:=X0;dsimp only at R0 f;have f0:=ae f;clear f e0 H8 hW
       go_wp2_with fail
       (with_reducible refine R0.mono ?_)
       rintro e w7 ⟨H,z1,rfl,s,d9⟩;have D9:=D8.trans d9;clear R0 d9 D8
       by_cases h0:rc=0
       .have f:=f0.out
        dsimp only at s;rw [if_neg (by simpa using h0)] at f;rw [if_pos h0] at s;subst h0;have v2:∀ z ∈ l,∃ a l0,z.2.1 = X a z.2.2.length l0:=fun z o=>((t1.out _ H (qz j d c*aV H d D4) w7 z1 (s.to (by ac_rfl))).2 z o).shape;obtain ⟨u,t4,Y1⟩:=s.GZ;obtain ⟨U1,E1⟩:∃ Y0,Y0=aV H d D4*(ak H*F):=⟨_,rfl⟩
        have R1:ag w7 (bP t4 (c.gx (cu l) 0)*(pt j (Y (c.cells d u t4) 183 (0,0))*(bY u (cH c.P)*(sl 188 2 (X ba r bc) r (bT l)*U1)))):=
         Y1.GK.to (by rw [E1];show _=bP t4 c.T*_;ac_rfl)
        have z2:=ae E1;have K2:=ae v2;have x0:=ae f;clear s Y1 E1 v2 f f0 t1
        go_wp2_with fail
        go_loopw [70] (fun i wr=>Em r t4 c (cu l) (pt j (Y (c.cells d u t4) 183 (0,0))*(bY u (cH c.P)*(sl 188 2 (X ba r bc) r (bT l)*U1))) w i wr) (fun i _=>r-(intOf i).toNat)
        case atStart=>exact ⟨0,Nat.zero_le _,rfl,R1,D9⟩
        case round=>
         clear R1 D9;obtain ⟨k,hk,rfl,q0,i1⟩:=hrel
         by_cases i3:k<r
         .have l3:(k:Int)<(r:Int):=by omega
          have P2:=D0.out;have g1:k<l.length:=by omega
          obtain ⟨X1,gc,hg⟩:=rf q0.aA (by omega);obtain ⟨rfl,rfl⟩:ba=U ⟨X1,0,W⟩/\bc=gc:=by injection hg with e1 e2 e3;exact ⟨e1,e3⟩
          obtain ⟨q1,q2⟩:=q0.aA.kI g1;obtain ⟨da,dc,hd⟩:=K2.out _ (T3 g1);have p0:=(gB l k).1;rw [D3,H3 g1,X4] at p0;have X2:=Tb.pL;have j1:c.gx (cu l) (k+1)=((c.gx (cu l) k).put l[k].1 ((c.hd+(k:Int))%(c.P:Int))).2:=by rw [p0];rfl
          have k2:=GC G.T (cu l) k;generalize l[k]=z at q1 q2 hd j1;obtain ⟨id,dv,db⟩:=z;dsimp only at q1 q2 hd j1;subst hd;generalize db.length=dl at q2;have C:=q0.alloc (Y #[V .i64 id,X da dl dc] 188 (0,0));have dA:=i1.alloc (Y #[V .i64 id,X da dl dc] 188 (0,0));have L2:=ae j1;have D2:=ae k2;clear q0 i1 j1 k2 p0 X2 P2 g1 hg
          go_wp2_with fail
          generalize wr.alloc (Y #[V .i64 id,X da dl dc] 188 (0,0))=I at C dA ⊢;generalize wr.heap.size=bw at C ⊢;have s0:I.cell? ⟨bw,0,W⟩=U (V .i64 id):=C.cell 0;have s1:I.cell? ⟨j,1,W⟩=U (az u):=C.au.cell 1;have s2:I.cell? ⟨j,2,W⟩=U (az t4):=C.au.cell 2;have s7:I.cell? ⟨j,7,W⟩=U (V .i64 c.hd):=C.au.cell 7;have x1:=ag.drew C;have c0:=AW I.drew u (cH c.P) c.hd (k:Int) _ x1.aA (by rw [aY];exact G.p0) (by rw [aY];have:=G.p1;omega);rw [aY] at c0;have L0:=fD I.drew t4 (c.gx (cu l) k) id ((c.hd+(k:Int))%(c.P:Int)) _ x1.ah D2.out;rw [<- L2.out] at L0;generalize (c.hd+(k:Int))%(c.P:Int)=pl at c0 L0;generalize ((c.gx (cu l) k).put id pl).1=pb at L0;clear C x1 q1 q2
          go_region_held3 (fun w'=>w'.cell? ⟨bw,0,W⟩=U (V .i64 id)/\w'.cell? ⟨j,1,W⟩=U (az u)/\w'.cell? ⟨j,2,W⟩=U (az t4)/\w'.cell? ⟨j,7,W⟩=U (V .i64 c.hd)) (first|(with_reducible exact ⟨b0,b1,b2,b7⟩)|exact ⟨s0,s1,s2,s7⟩) (first
           | (go_at_call 137;(with_reducible refine c0.mono ?_);rintro e N ⟨rfl,rfl⟩)
           | (go_at_call 136;(with_reducible refine L0.mono ?_);rintro e N ⟨rfl,s,d9⟩;have b0:N.cell? ⟨bw,0,W⟩=U (V .i64 id):=s.ah.cell 0;have b1:N.cell? ⟨j,1,W⟩=U (az u):=s.au.cell 1;have b2:N.cell? ⟨j,2,W⟩=U (az t4):=s.au.cell 2;have b7:N.cell? ⟨j,7,W⟩=U (V .i64 c.hd):=s.au.cell 7))
          have H9:=ae s.iJ;have DD:=ae (dA.drew.trans d9);clear s d9 dA c0 L0 s0 s1 s2 s7 b0 b1 b2 b7
          go_wp2
          go_roundw
          case rel=>exact ⟨k+1,by omega,by go_num,H9.out,DD.out⟩
          case measure=>simp [intOf];omega
         .obtain rfl:k=r:=by omega
          have K:=q0.ah;have k6:wr.cell? ⟨j,6,W⟩=U (V .u64 c.sq):=K.cell 6;have f6:=K.frozen 6;have M:=K.setCell 6 (V .u64 (c.sq+1));have v1:=i1.setCell ⟨j,6,W⟩ (V .u64 (c.sq+1))
          have n3:IntKind.u64.wrap (c.sq+1)=c.sq+1:=by
           have:=hN.Un;rw [IntKind.wrap_u64];omega
          have k1:=ae M;clear q0 i1 K M
          go_wp2_with fail
          generalize wr.setCell ⟨j,6,W⟩ (V .u64 (c.sq+1))=I at k1 v1 ⊢;have M:=k1.out;have s1:I.cell? ⟨j,1,W⟩=U (az u):=M.cell 1;have s7:I.cell? ⟨j,7,W⟩=U (V .i64 c.hd):=M.cell 7;have f7:=M.frozen 7;have R2:=M.lt;have c0:=AW I.drew u (cH c.P) c.hd (k:Int) _ (M.au.drew) (by rw [aY];exact G.p0) (by rw [aY];have:=G.p1;omega);rw [aY] at c0;generalize p0:(c.hd+(k:Int))%(c.P:Int)=pl at c0;have d0:=M.setCell 7 (V .i64 pl);have Y2:(I.setCell ⟨j,7,W⟩ (V .i64 pl)).cell? ⟨j,1,W⟩=U (az u):=d0.cell 1;have V1:=(v1.setCell ⟨j,7,W⟩ (V .i64 pl)).drew;have l1:=ae (ag.drew d0);have J2:=ae p0;clear M k1 d0 p0 k6 f6 v1
          go_region_law (refine pT c0 xO rfl _ _ rfl (by rfl) ?_;rintro e N ⟨rfl,rfl⟩;refine ⟨_,rfl,?_⟩)
          all_goals
           clear s1 Y2 s7 f7 R2 c0;generalize (I.setCell ⟨j,7,W⟩ (V .i64 pl)).drew=N at l1 V1 ⊢;have d0:=l1.out;have s8:N.cell? ⟨j,8,W⟩=U (V .i64 c.us):=d0.cell 8;have f8:=d0.frozen 8;have Z0:=d0.setCell 8 (V .i64 (c.us+((k:Int)-c.aX Z.length)));have s9:(N.setCell ⟨j,8,W⟩ (V .i64 (c.us+((k:Int)-c.aX Z.length)))).cell? ⟨j,9,W⟩=U (V .i64 c.fr):=Z0.cell 9;have f9:=Z0.frozen 9;have y1:=Z0.setCell 9 (V .i64 (c.aX Z.length));have W1:=(V1.setCell ⟨j,8,W⟩ (V .i64 (c.us+((k:Int)-c.aX Z.length)))).setCell ⟨j,9,W⟩ (V .i64 (c.aX Z.length))
           have m2:ag ((N.setCell ⟨j,8,W⟩ (V .i64 (c.us+((k:Int)-c.aX Z.length)))).setCell ⟨j,9,W⟩ (V .i64 (c.aX Z.length))) (qz j d W0.2.1*(aV H d W0.2.2*(ak H*F))):=by
            rw [x0.out];rw [<- J2.out,z2.out] at y1;have hL:(cu l).length=k:=by rw [j5];exact D0.out
            have e:(c.cells d u t4).setIfInBounds 6 (V .u64 (c.sq+1))=(c.cells d u t4).setIfInBounds 6 (V .u64 (c.sq+1)):=rfl;have B:=(y1.to (by ac_rfl:_=sl 188 2 (X ba k bc) k (bT l)*(pt j (Y (((((c.cells d u t4).setIfInBounds 6 (V .u64 (c.sq+1))).setIfInBounds 7 (V .i64 ((c.hd+(k:Int))%(c.P:Int)))).setIfInBounds 8 (V .i64 (c.us+((k:Int)-c.aX Z.length)))).setIfInBounds 9 (V .i64 (c.aX Z.length))) 183 (0,0))*(bY u (cH c.P)*(bP t4 (c.gx (cu l) k)*(aV H d D4*(ak H*F))))))).right;refine ag.AT (r:=u) (t:=t4) ?_;unfold Jr.done;rw [hL];exact B
           have S1:=ae m2;have O1:=ae W1;rw [E2.out] at S1 O1 s9 f9;have b3:(c.P:Int)<=20000:=by have:=G.p1;omega
           have o3:=G.EK;clear d0 l1 Z0 y1 W1 m2
           go_wp2
           go_ret
           exact ⟨H,m0.trans z1,by rw [x0.out];rfl,S1.out,O1.out⟩
       .have t2:(rc == 0)=Y':=by simpa using h0
        have f:=f0.out;dsimp only at s;rw [if_pos h0] at f;rw [if_neg h0] at s;have x0:=ae f;have y2:=ae s;clear f f0 s h0
        go_wp2
        go_ret
        exact ⟨H,m0.trans z1,by rw [x0.out];rfl,by rw [x0.out];exact (y2.out.to (by ac_rfl:_=sl 188 2 (X ba r bc) r (bT l)*(qz j d { c with br:=true }*(aV H d D4*(ak H*F))))).right,D9⟩
     .have S2:(k0.1.1 == 0)=Y':=by simpa using o0
      have f:=m.out;rw [if_pos o0] at f;obtain ⟨⟨mc,ml⟩,c,mD⟩:=k0;dsimp only at S2 h5 f;have e0:=ae f;clear o0 f m o1 V0 T0 S0 m1 r1 p1
      go_wp2
      go_ret
      exact ⟨E,m0,by rw [e0.out];rfl,by rw [e0.out];exact (h5.to (by ac_rfl:_=(sl 188 2 v3 g.length (bT g)*mp i0 (fN Z Z.length))*(j8 j d r0 t c*(aV E d mD*(ak E*F))))).right.Gz,(d1.trans d2).trans d3⟩
   .have f:=m.out
    rw [if_pos P] at f;clear m;generalize hR:J.flush D=X0 at g0 P f;have t2:(X0.1 == 0)=Y':=by simpa using P
    obtain ⟨rc,J',D'⟩:=X0;dsimp only at g0 t2 P;have m:=ae f;clear hR P h2 f
    go_wp2_with fail
    (with_reducible refine g0.mono ?_)
    rintro e w2 ⟨rfl,h3,d2⟩;clear g0 u1
    go_wp2
    go_ret
    exact ⟨S,Ext.refl S,by rw [m.out];rfl,by rw [m.out];exact (h3.to (by ac_rfl:_=mp i0 (fN Z Z.length)*_)).right,d1.trans d2⟩
end Go.Proofs.Nn
namespace Go.SL
open RowKit
variable {α:Type}
theorem Oz (t:Tg) (k:Nat):(sn t k).length=mx k:=by
 induction k with
 | zero=>rfl
 | succ k c=>rw [lX,G3,c,bu,tC]
theorem I4 (t:Tg) (k:Nat) (f:k<9):∃ rest,enc t=sn t k++(dH (t.field k) (eM k)++rest):=by
 obtain ⟨m,c⟩:∃ m,9=k+1+m:=⟨8-k,by omega⟩
 unfold enc;rw [c];clear c
 induction m with
 | zero=>exact ⟨[],by rw [Nat.add_zero,lX,List.append_nil]⟩
 | succ m e=>
  obtain ⟨r,d⟩:=e;exact ⟨r++dH (t.field (k+1+m)) (eM (k+1+m)),by rw [<- S5,lX,d];simp only [T5]⟩
theorem PR (t:Tg) (b:List UInt8) (k:Nat) (c:k<9):iY ((enc t++b).drop (mx k)) (eM k)=t.field k%(256:Int) ^ eM k:=by
 obtain ⟨r,d⟩:=I4 t k c;rw [d,T5,<- Oz t k,List.drop_left,T5,mZ _ _ _ _ (X3 _)]
theorem KF {t:Tg} (r:t.Fit) (c:t.ok=true) (b:List UInt8):jm (enc t++b) 9=t:=by
 have h:∀ k,k<9->jm (enc t++b) (k+1)=(jm (enc t++b) k).set (t.field k%(256:Int) ^ eM k) k:=fun k s=>by
  rw [jm,PR t b k s]
 rw [h 8 (by omega),h 7 (by omega),h 6 (by omega),h 5 (by omega),h 4 (by omega),h 3 (by omega),h 2 (by omega),h 1 (by omega),h 0 (by omega)];simp only [Tg.ok,Bool.and_eq_true,decide_eq_true_eq,and_assoc] at c;obtain ⟨u,B,C,E,F,G,H,I,K,w,z⟩:=c;obtain ⟨d,e,f,g,j,l,m,o⟩:=r;obtain ⟨N,st,sq,P,S,M,id⟩:=t;simp only at u B C E F G H I K w z d e f g j l m o;simp only [jm,Tg.set,Tg.field,eM,J1,Tg.zero,wrap64];congr 1 <;> omega
theorem CG {t:Tg} (f:t.Fit) (c:t.ok=true) (b:List UInt8):cZ (enc t++b)=U (t,b):=by
 have d:=KF f c b;have e:(enc t++b).drop 32=b:=by rw [<- dO t,List.drop_left]
 unfold cZ;rw [d,e,if_pos ⟨c,rfl⟩]
structure aC.Calm (D:aC):Prop where
 down:D.down=false
 fo:D.fo=false
theorem aC.Calm.dy {D:aC} (h:D.Calm):D.dy=D:=by
 unfold aC.dy;rw [h.fo];simp
theorem aC.Calm.begun {D:aC} (h:D.Calm):D.begun=D:=by
 unfold aC.begun;rw [h.dy,h.down,h.fo];simp
theorem aC.Calm.cS {D:aC} (h:D.Calm):D.cS=0:=by
 unfold aC.cS;rw [h.dy,h.down];simp
theorem aC.Calm.read {D:aC} (h:D.Calm) {a:Int} (c:D.has a):D.read a=(D.cE a,{ D with cr:=cG (D.cr+1) }):=by
 unfold aC.read;rw [if_pos c,if_pos h.cS,h.begun]
theorem aC.Calm.write {D:aC} (h:D.Calm) {a:Int} (c:D.has a) {l:List UInt8} (d:l.length=512):D.write a l=(0,{ D with cw:=cG (D.cw+1),wait:=D.wait++[(a,l)] }):=by
 unfold aC.write;rw [if_pos ⟨c,d⟩,if_pos h.cS,h.begun]
theorem aC.Calm.flush {D:aC} (h:D.Calm):D.flush=(0,D.aK):=by
 unfold aC.flush;rw [if_pos h.cS,h.begun]
theorem qQ (D:aC) (l:List (Int × List UInt8)):(D.bU l).down=D.down/\(D.bU l).fo=D.fo/\(D.bU l).cr=D.cr/\(D.bU l).cw=D.cw/\(D.bU l).cf=D.cf/\(D.bU l).left=D.left/\(D.bU l).bD=D.bD/\(D.bU l).wait=D.wait:=by
 unfold aC.bU
 induction l generalizing D with
 | nil=>exact ⟨rfl,rfl,rfl,rfl,rfl,rfl,rfl,rfl⟩
 | cons x l c=>rw [E5];exact c _
theorem Ey (a:Int):eN [] a=W:=rfl
theorem jH (l:List (Int × List UInt8)) (x:Int × List UInt8) (a:Int):eN (l++[x]) a=if x.1=a then U x.2 else eN l a:=by
 unfold eN;rw [List.reverse_append,List.reverse_cons,List.reverse_nil,List.nil_append,List.singleton_append,List.find?_cons]
 by_cases h:x.1=a
 .rw [if_pos h];simp [h]
 .rw [if_neg h]
  have:(x.1 == a)=Y':=by simpa using h
  rw [this]
theorem BB (l:List (Int × List UInt8)) (x:Int × List UInt8) (a:Int):eN (x :: l) a=match eN l a with|some y=>U y|none=>if x.1=a then U x.2 else W:=by
 unfold eN;rw [List.reverse_cons,List.find?_append]
 cases h:l.reverse.find? (fun x=>x.1 == a) with
 | some y=>simp
 | none=>
  by_cases e:x.1=a
  .simp [e]
  .have:(x.1 == a)=Y':=by simpa using e
   simp [e]
theorem kg (p:Int × α) (M:List (Int × α)) (y:Int):aP (p :: M) y=if p.1=y then U p.2 else aP M y:=by
 unfold aP;rw [List.find?_cons]
 by_cases h:p.1=y
 .simp [h]
 .have:(p.1 == y)=Y':=by simpa using h
  rw [this,if_neg h]
theorem BE (M:List (Int × α)) (x y:Int):aP (del M x) y=if y=x then W else aP M y:=by
 induction M with
 | nil=>simp [del,aP]
 | cons p M d=>
  have e:del (p :: M) x=if p.1=x then del M x else p :: del M x:=by
   unfold del;rw [List.filter_cons]
   by_cases h:p.1=x
   .simp [h]
   .have:(p.1 == x)=Y':=by simpa using h
    simp [this,h]
  rw [e]
  by_cases h:p.1=x
  .rw [if_pos h,d,kg]
   by_cases c:y=x
   .rw [if_pos c,if_pos c]
   .rw [if_neg c,if_neg c,if_neg (by rw [h];exact fun q=>c q.symm)]
  .rw [if_neg h,kg,kg,d]
   by_cases c:p.1=y
   .rw [if_pos c,if_pos c,if_neg (by rw [<- c];exact h)]
   .rw [if_neg c,if_neg c]
theorem Fw (D:aC) (x:Int × List UInt8) (s:D.has x.1) (c:D.wait=[]) (a:Int) (g:D.has a):(D.done x).cE a=if x.1=a then (0,bW 512 x.2) else D.cE a:=by
 have r:=(D.mf x).2.1.trans c;have o:aP (D.done x).nx a=if a=x.1 then W else aP D.nx a:=BE D.nx x.1 a
 have l:(D.done x).sec=D.sec.set x.1.toNat x.2:=rfl;unfold aC.cE;simp only [r,c,Ey,o,l];obtain ⟨a0,w⟩:=g;obtain ⟨u,z⟩:=s;obtain ⟨k,rfl⟩:=L4 a0;obtain ⟨j,h⟩:=L4 u;rw [h,P3,P3]
 by_cases e:j=k
 .subst e
  rw [if_pos rfl,if_pos rfl];have:j<D.sec.length:=by omega
  simp [D3,X5,this]
 .have d:¬ (k:Int)=(j:Int):=by omega
  have f:¬ (j:Int)=(k:Int):=by omega
  rw [if_neg d,if_neg f];have m:(D.sec.set j x.2).getD k []=D.sec.getD k []:=by grind
  rw [m]
theorem BX (D:aC) (x:Int × List UInt8) (a:Int):(D.done x).has a↔D.has a:=by unfold aC.has;rw [(D.mf x).1]
theorem xQ (l:List (Int × List UInt8)):∀ (D:aC),D.wait=[]->(∀ x ∈ l,D.has x.1)->∀ a,D.has a->(D.bU l).cE a=match eN l a with|some y=>(0,bW 512 y)|none=>D.cE a:=by
 induction l with
 | nil=>intro D _ _ a _;rfl
 | cons x l h=>
  intro D e d a c;have f:=h (D.done x) ((D.mf x).2.1.trans e) (fun y g=>(BX D x _).2 (d y (K5 _ g))) a ((BX D x a).2 c);show (aC.bU (D.done x) l).cE a=_
  rw [f,BB]
  cases j:eN l a with
  | some y=>rfl
  | none=>
   simp only;rw [Fw D x (d x L5) e a c]
   split <;> rfl
theorem fS {D:aC} (w:D.Ok) (a:Int) (z:D.has a):D.aK.cE a=D.cE a:=by
 have h:=xQ D.wait { D with cf:=cG (D.cf+1),wait:=[] } rfl (fun x C=>w.wait x C) a z
 have e:D.aK=({ D with cf:=cG (D.cf+1),wait:=[] }:aC).bU D.wait:=by
  have:∀ (l:List (Int × List UInt8)) (A B:aC),A.sec=B.sec->A.nx=B.nx->A.cr=B.cr->A.cw=B.cw->A.cf=B.cf->A.down=B.down->A.fo=B.fo->A.left=B.left->A.bD=B.bD->B.wait=[] ->
    ({ l.foldl aC.done A with wait:=[] }:aC)=l.foldl aC.done B:=by
   intro l
   induction l with
   | nil=>
    intro A B c f g j m o r s u d;obtain ⟨F,H,I,K,M,N,P,S,b9,G⟩:=B;subst c f g j m o r s u d
    rfl
   | cons x l E=>
    intro A B c f g j m o r s u d;exact E _ _ (by simp [aC.done,c]) (by simp [aC.done,f]) g j m o r s u d
  exact this _ _ _ rfl rfl rfl rfl rfl rfl rfl rfl rfl rfl
 rw [e,h];unfold aC.cE
 cases hn:eN D.wait a with
 | some y=>rfl
 | none=>rfl
theorem iP {D:aC} (h:D.Calm):D.aK.Calm:=by
 have:=qQ { D with cf:=cG (D.cf+1) } D.wait;exact ⟨this.1.trans h.down,this.2.1.trans h.fo⟩
theorem bB (D:aC):D.aK.cr=D.cr/\D.aK.cw=D.cw/\D.aK.cf=cG (D.cf+1)/\D.aK.sec.length=D.sec.length:=by
 have:=qQ { D with cf:=cG (D.cf+1) } D.wait;exact ⟨this.2.2.1,this.2.2.2.1,this.2.2.2.2.1,(aC.ud _ _).1⟩
theorem tW (D:aC) (a:Int) (l:List UInt8) (n:Int) (b:Int):({ D with cw:=n,wait:=D.wait++[(a,l)] }:aC).cE b=if a=b then (0,bW 512 l) else D.cE b:=by
 unfold aC.cE;simp only [jH]
 by_cases h:a=b
 .simp [h]
 .simp [h]
structure Tb.Lt (T:Tb):Prop where
 pq:∀ id p,told T.ps id=some p->told T.os p=some id
 qp:∀ id p,told T.os p=some id->told T.ps id=some p
theorem kD {l:List Int} {i v:Int} (h:told l i=U v):0<=i/\i<l.length/\v ≠ -1:=by
 unfold told at h
 split at h
 .rename_i c
  injection h with h
  exact ⟨c.1,c.2.1,by rw [<- h];exact c.2.2⟩
 .cases h
theorem told_none {l:List Int} {i:Int} (h:told l i=W) (c:0<=i) (d:i<l.length):l.getD i.toNat 0=-1:=by
 unfold told at h
 split at h
 .cases h
 .rename_i e
  exact Classical.byContradiction fun q=>e ⟨c,d,q⟩
theorem r9 {l:List Int} {i:Int} (g:0<=i) (h:i<l.length) (v x:Int):told (l.set i.toNat v) x=if x=i then (if v=-1 then W else U v) else told l x:=by
 obtain ⟨k,rfl⟩:=L4 g;have o:k<l.length:=by omega
 unfold told;rw [List.length_set,P3]
 by_cases f:x=(k:Int)
 .subst f
  rw [if_pos rfl,P3];have e:(l.set k v).getD k 0=v:=by simp [D3,X5,o]
  rw [e]
  by_cases c:v=-1
  .rw [if_pos c,if_neg (fun q=>q.2.2 c)]
  .rw [if_neg c,if_pos ⟨by omega,h,c⟩]
 .rw [if_neg f]
  by_cases d:0<=x
  .obtain ⟨j,rfl⟩:=L4 d
   rw [P3];have m:k≠j:=by omega
   have e:(l.set k v).getD j 0=l.getD j 0:=by simp only [D3,X5];rw [if_neg m]
   rw [e]
  .rw [if_neg (fun q=>d q.1),if_neg (fun q=>d q.1)]
theorem Tb.C4 (T:Tb) (id:Int):(T.drop id).2.ps.length=T.ps.length/\(T.drop id).2.os.length=T.os.length:=by
 unfold Tb.drop
 split <;> simp
section
variable {T:Tb}
theorem Tb.Qw (h:T.Lt) (id:Int) (x:Int):told (T.drop id).2.ps x=if x=id then W else told T.ps x:=by
 unfold Tb.drop
 cases c:told T.ps id with
 | none=>
  simp only
  split
  .rename_i e;rw [e,c]
  .rfl
 | some p=>
  have d:=kD c;rw [r9 d.1 d.2.1];simp
theorem Tb.Qh (h:T.Lt) (id:Int) (q:Int):told (T.drop id).2.os q=if told T.ps id=U q then W else told T.os q:=by
 unfold Tb.drop
 cases f:told T.ps id with
 | none=>simp
 | some p=>
  have d:=kD (h.pq _ _ f);rw [r9 d.1 d.2.1]
  by_cases e:q=p
  .subst e;simp
  .rw [if_neg e,if_neg (by intro c;injection c with c;exact e c.symm)]
theorem Tb.EF (h:T.Lt) {id p:Int} (c:0<=id) (d:id<T.ps.length) (f:0<=p) (g:p<T.os.length) (l:told T.os p=W) (x:Int) :
  told (T.put id p).2.ps x=if x=id then U p else told T.ps x:=by
 have j:=told_none l f g;unfold Tb.put;rw [if_pos ⟨c,d,f,g,.inl j⟩];rw [r9 c (by rw [(Tb.C4 T id).1];exact d),T.Qw h]
 by_cases e:x=id
 .rw [if_pos e,if_pos e,if_neg (by omega)]
 .rw [if_neg e,if_neg e,if_neg e]
theorem Tb.FR (h:T.Lt) {id p:Int} (j:0<=id) (l:id<T.ps.length) (c:0<=p) (d:p<T.os.length) (g:told T.os p=W) (q:Int) :
  told (T.put id p).2.os q=if q=p then U id else if told T.ps id=U q then W else told T.os q:=by
 have f:=told_none g c d;unfold Tb.put;rw [if_pos ⟨j,l,c,d,.inl f⟩];rw [r9 c (by rw [(Tb.C4 T id).2];exact d),T.Qh h]
 by_cases e:q=p
 .rw [if_pos e,if_pos e,if_neg (by omega)]
 .rw [if_neg e,if_neg e]
theorem Tb.Pn (h:T.Lt) {id p:Int} (l:0<=id) (m:id<T.ps.length) (o:0<=p) (r:p<T.os.length) (f:told T.os p=W):(T.put id p).2.Lt:=by
 constructor
 .intro x q c
  rw [Tb.EF h l m o r f] at c;rw [Tb.FR h l m o r f]
  by_cases e:x=id
  .rw [if_pos e] at c;injection c with c
   rw [if_pos c.symm,e]
  .rw [if_neg e] at c
   have d:=h.pq _ _ c;have u:q≠p:=by rintro rfl;rw [f] at d;cases d
   rw [if_neg u]
   have g:told T.ps id≠U q:=by
    intro s;have j:=h.pq _ _ s;rw [d] at j;injection j with j;exact e j
   rw [if_neg g,d]
 .intro x q c
  rw [Tb.FR h l m o r f] at c;rw [Tb.EF h l m o r f]
  by_cases e:q=p
  .rw [if_pos e] at c;injection c with c
   rw [if_pos c.symm,e]
  .rw [if_neg e] at c
   split at c
   .cases c
   .rename_i d
    have g:=h.qp _ _ c;have:x≠id:=by rintro rfl;exact d g
    rw [if_neg this,g]
end
theorem Tb.jo (b p:Nat) (i:Int):told (Tb.fresh b p).ps i=W/\told (Tb.fresh b p).os i=W:=by
 constructor
 .unfold told
  rw [if_neg];rintro ⟨e,c,d⟩;apply d;simp only [Tb.fresh,K6] at c;have:i.toNat<b:=by omega
  simp [Tb.fresh,D3,L6,this]
 .unfold told
  rw [if_neg];rintro ⟨e,c,d⟩;apply d;simp only [Tb.fresh,K6] at c;have:i.toNat<p:=by omega
  simp [Tb.fresh,D3,L6,this]
theorem Tb.Jh (b p:Nat):(Tb.fresh b p).Lt:=
 ⟨fun i q h=>(by rw [(Tb.jo b p i).1] at h;cases h),fun i q h=>(by rw [(Tb.jo b p q).2] at h;cases h)⟩
theorem na {a b P:Int} (d:b<a) (e:a<b+P):a%P≠b%P:=by
 intro h;have:=Int.emod_emod_of_dvd a (Int.dvd_refl P);have c:=Int.emod_eq_emod_iff_emod_sub_eq_zero.1 h;rw [Y5 (by omega) (by omega)] at c;omega
structure UG (J:Jr) (L:Bl) (k:Nat):Prop where
 Kv:(J.gx L k).Lt
 ps:∀ x,told (J.gx L k).ps x=match (L.take k).findIdx? (fun y=>y.1 == x) with|some i=>some ((J.hd+(i:Int))%(J.P:Int))|none=>told J.T.ps x
 os:∀ q x,told (J.gx L k).os q=some x->(∃ i:Nat,i<k/\q=(J.hd+(i:Int))%(J.P:Int)/\(L.getD i (0,[])).1=x)\/(told J.T.os q=some x/\x ∉ (L.take k).map B3)
theorem zt (l:List α) (a:α) (f:α->Bool):(l++[a]).findIdx? f=match l.findIdx? f with|some i=>U i|none=>if f a then U l.length else W:=by grind
theorem jj {L:Bl} {x:Int}:L.findIdx? (fun y=>y.1 == x)=W↔x ∉ L.map B3:=by grind
theorem I9 (L:List α) (k:Nat) (d:α) (h:k<L.length):L.take (k+1)=L.take k++[L.getD k d]:=by simp_all
theorem UU (J:Jr) (w:J.Ok) (P:J.T.Lt) (L:Bl) (b0:∀ x ∈ L,0<=x.1/\x.1<J.n) (d0:(L.map B3).Nodup) (h0:(L.length:Int)<=J.P)
  (S:∀ i:Nat,i<L.length->told J.T.os ((J.hd+(i:Int))%(J.P:Int))=W):∀ k,k<=L.length->UG J L k:=by
 have hps:=w.ps;have f0:=w.os;intro k
 induction k with
 | zero=>
  intro _;exact ⟨P,fun x=>rfl,fun q x h=>.inr ⟨h,by simp⟩⟩
 | succ k ih=>
  intro hk;obtain ⟨d,G,u⟩:=ih (by omega);have g:k<L.length:=by omega
  have hm:L.getD k (0,[]) ∈ L:=by rw [D3,H3 g];exact T3 _
  obtain ⟨m,i1⟩:=b0 _ hm;have l:=I9 L k (0,[]) g;have g0:J.gx L (k+1)=((J.gx L k).put (L.getD k (0,[])).1 ((J.hd+(k:Int))%(J.P:Int))).2:=rfl;have B:=J.wM L k;have r:0<=(J.hd+(k:Int))%(J.P:Int):=Y3 _ (by omega);have s:(J.hd+(k:Int))%(J.P:Int)<(J.gx L k).os.length:=by rw [B.2,f0];exact Z5 _ (by omega)
  have j:told (J.gx L k).os ((J.hd+(k:Int))%(J.P:Int))=W:=by
   cases h:told (J.gx L k).os ((J.hd+(k:Int))%(J.P:Int)) with
   | none=>rfl
   | some x=>
    rcases u _ _ h with ⟨i,hi,e,_⟩|⟨e,_⟩
    .exact absurd e (na (by omega) (by omega))
    .rw [S k g] at e;cases e
  have o:(L.getD k (0,[])).1<((J.gx L k).ps.length:Int):=by rw [B.1,hps];exact i1
  have e0:(L.getD k (0,[])).1 ∉ (L.take k).map B3:=by
   intro c;have C:((L.take (k+1)).map B3).Nodup:=d0.sublist ((List.take_sublist _ _).map _);rw [l,J3,Z3] at C;exact C.2.2 _ c _ (by simp) rfl
  have F:=Tb.EF d m o r s j;have E:=Tb.FR d m o r s j;have z:=Tb.Pn d m o r s j;rw [<- g0] at F E z;refine ⟨z,fun x=>?_,fun q x c=>?_⟩
  .rw [F,l,zt,G]
   have c0:(L.take k).length=k:=by rw [List.length_take];omega
   by_cases e:x=(L.getD k (0,[])).1
   .rw [if_pos e,e,jj.2 e0]
    simp [c0]
   .rw [if_neg e]
    cases hf:(L.take k).findIdx? (fun y=>y.1 == x) with
    | some i=>rfl
    | none=>
     have:((L.getD k (0,[])).1 == x)=Y':=by simp only [beq_eq_false_iff_ne,ne_eq];exact fun q=>e q.symm
     rw [this];rfl
  .rw [E] at c
   by_cases e:q=(J.hd+(k:Int))%(J.P:Int)
   .rw [if_pos e] at c
    injection c with c
    exact .inl ⟨k,by omega,e,c⟩
   .rw [if_neg e] at c
    split at c
    .cases c
    .rename_i K
     rcases u _ _ c with ⟨i,hi,H,I⟩|⟨M,N⟩
     .exact .inl ⟨i,by omega,H,I⟩
     .refine .inr ⟨M,?_⟩
      rw [l,J3,A6];rintro (f|f)
      .exact N f
      .simp only [List.map_cons,List.map_nil,List.mem_singleton] at f
       exact K (by rw [<- f];exact d.qp _ _ c)
end Go.SL
namespace Go.Proofs.Nn
open RowKit SL
abbrev Has:=Int->Option (List UInt8)
structure fY (J:Jr) (D:aC) (has:Has):Prop where
 ok:J.Ok
 nums:J.NC
 Kw:D.Ok
 br:J.br=false
 calm:D.Calm
 sec:(J.P:Int)+1<=D.sec.length
 Kv:J.T.Lt
 rm:J.us+J.fr<=J.P
 win:∀ p id,told J.T.os p=some id->∃ a:Int,J.hd-J.us<=a/\a<J.hd/\p=a%(J.P:Int)
 pR:∀ id p,told J.T.ps id=some p->∃ t b,has id=some b/\b.length=480/\D.cE (p+1)=(0,enc t++b)/\t.id=id/\t.ok=true/\t.Fit
 Vg:∀ id,told J.T.ps id=none->has id=none
theorem fY.place {J:Jr} {D:aC} {has:Has} (h:fY J D has) {id p:Int} (c:told J.T.ps id=U p):0<=p/\p<J.P:=by
 have:=kD (h.Kv.pq _ _ c);have e:=h.ok.os;exact ⟨this.1,by have:=this.2.1;omega⟩
theorem fY.BK {J:Jr} {D:aC} {has:Has} (h:fY J D has) {id p:Int} (c:told J.T.ps id=U p):D.has (p+1):=by
 have:=h.place c;have:=h.sec;exact ⟨by omega,by omega⟩
theorem fY.dev {J:Jr} {D D':aC} {has:Has} (h:fY J D has) (m:D'.Ok) (j:D'.Calm) (l:D'.sec.length=D.sec.length) (o:∀ a,D.has a->D'.cE a=D.cE a):fY J D' has:=
 ⟨h.ok,h.nums,m,h.br,j,by rw [l];exact h.sec,h.Kv,h.rm,h.win,fun id p c=>by
  obtain ⟨t,b,d,e,f,g⟩:=h.pR id p c;exact ⟨t,b,d,e,by rw [o _ (h.BK c)];exact f,g⟩,h.Vg⟩
theorem NG (D:aC) (r:Int) (a:Int):({ D with cr:=r }:aC).cE a=D.cE a:=rfl
theorem FV {D:aC} (h:D.Calm) (r:Int):({ D with cr:=r }:aC).Calm:=⟨h.down,h.fo⟩
theorem N6 {D:aC} (h:D.Ok) (r:Int):({ D with cr:=r }:aC).Ok:=⟨h.n,h.wait,h.many,h.bD⟩
theorem fY.cr {J:Jr} {D:aC} {has:Has} (h:fY J D has) (r:Int):fY J { D with cr:=r } has:=
 h.dev (N6 h.Kw r) (FV h.calm r) rfl fun _ _=>rfl
theorem QS {J:Jr} {D D':aC} {id p:Int} {l b:List UInt8} {t:Tg} (e:D.read (p%(J.P:Int)+1)=((0,l),D')) (c:cZ l=U (t,b)) (d:t.id=id):J.load D id p=((0,b),J,D'):=by
 unfold Jr.load;simp only [e,c,d,if_true]
theorem fY.load {J:Jr} {D:aC} {has:Has} (h:fY J D has) {id p:Int} (c:told J.T.ps id=U p):J.load D id p=((0,(has id).getD (zs 480)),J,{ D with cr:=cG (D.cr+1) }):=by
 obtain ⟨t,b,e,s,f,g,j,l⟩:=h.pR id p c;obtain ⟨o,r⟩:=h.place c;have m:=Y5 o r;have d:=h.calm.read (h.BK c);rw [f] at d;rw [e];exact QS (by rw [m];exact d) (CG l j b) g
theorem fY.read {J:Jr} {D:aC} {has:Has} (h:fY J D has) {id:Int} (d:0<=id) (h1:id<J.n) :
  J.read D id=((0,(has id).getD (zs 480)),J,if (told J.T.ps id).isSome then { D with cr:=cG (D.cr+1) } else D):=by
 unfold Jr.read;rw [if_neg (by omega),h.br,if_neg (by simp)]
 cases c:told J.T.ps id with
 | none=>simp [h.Vg id c]
 | some p=>simp only [H6,if_true];exact h.load c
theorem fY.flush {J:Jr} {D:aC} {has:Has} (h:fY J D has):J.flush D=(0,J,D.aK):=by
 unfold Jr.flush;rw [h.br,if_neg (by simp),h.calm.flush];simp
theorem fY.aK {J:Jr} {D:aC} {has:Has} (h:fY J D has):fY J D.aK has:=by
 have c:=aC.iE h.Kw;rw [h.calm.flush] at c;exact h.dev (c.ok h.Kw (by have:=h.Kw.many;omega)) (iP h.calm) (bB D).2.2.2 fun a d=>fS h.Kw a d
def iT (c:Int):Nat->Int
 | 0=>c
 | k+1=>cG (iT c k+1)
theorem Mn (c:Int) (k:Nat):iT (cG (c+1)) k=iT c (k+1):=by
 induction k with
 | zero=>rfl
 | succ k d=>rw [iT,d];rfl
def A4 (has:Has) (own:KV) (c:List (Int × Int)):Bl:=(c.filter fun x => !(aP own x.1).isSome).map fun x=>(x.1,(has x.1).getD (zs 480))
theorem DT {J:Jr} {D:aC} {has:Has} (h:fY J D has) (own:KV) (c:List (Int × Int)) (e:∀ x ∈ c,told J.T.ps x.1=U x.2) :
  J.cm D own c=((0,A4 has own c),J,{ D with cr:=iT D.cr (A4 has own c).length }):=by
 have:∀ (c:List (Int × Int)),(∀ x ∈ c,told J.T.ps x.1=U x.2)->∀ (d:Bl) (r:Int),c.foldl (Jr.cY own) ((0,d),J,{ D with cr:=r })=((0,d++A4 has own c),J,{ D with cr:=iT r (A4 has own c).length }):=by
  intro c
  induction c with
  | nil=>intro _ d r;simp [A4,iT]
  | cons x c m=>
   intro e d r;rw [E5];have s:=e x L5;have l:=fun y u=>e y (K5 _ u)
   cases f:aP own x.1 with
   | some v=>
    have g:Jr.cY own ((0,d),J,{ D with cr:=r }) x=((0,d),J,{ D with cr:=r }):=by
     unfold Jr.cY;simp [f]
    have j:A4 has own (x :: c)=A4 has own c:=by simp [A4,f]
    rw [g,j];exact m l d r
   | none=>
    have o:=(h.cr r).load s
    have g:Jr.cY own ((0,d),J,{ D with cr:=r }) x=((0,d++[(x.1,(has x.1).getD (zs 480))]),J,{ D with cr:=cG (r+1) }):=by
     unfold Jr.cY;simp only [f];rw [o];simp
    have j:A4 has own (x :: c)=(x.1,(has x.1).getD (zs 480)) :: A4 has own c:=by simp [A4,f]
    rw [g,j,m l,Mn,J4];simp
 exact this c e [] D.cr
theorem kZ {T:Tb} {P first k:Nat} {x:Int × Int} (h:x ∈ bX T P first k):∃ i,i<k/\x.2=(((first+i)%P:Nat):Int)/\told T.os x.2=U x.1:=by
 obtain ⟨p,f,c⟩:=List.mem_filterMap.1 h;obtain ⟨i,e,rfl⟩:=List.mem_map.1 f
 cases d:told T.os (((first+i)%P:Nat):Int) with
 | none=>rw [d] at c;cases c
 | some id=>
  rw [d] at c;injection c with c
  rw [<- c];exact ⟨i,List.mem_range.1 e,rfl,d⟩
theorem Cq {T:Tb} {P first k i:Nat} {id:Int} (c:i<k) (h:told T.os (((first+i)%P:Nat):Int)=U id):(id,(((first+i)%P:Nat):Int)) ∈ bX T P first k:=by
 refine List.mem_filterMap.2 ⟨(first+i)%P,List.mem_map.2 ⟨i,List.mem_range.2 c,rfl⟩,?_⟩;rw [h];rfl
theorem lA {T:Tb} (d:T.Lt) {P first:Nat}:∀ k,k<=P->((bX T P first k).map B3).Nodup:=by
 intro k
 induction k with
 | zero=>intro _;simp [bX]
 | succ k e=>
  intro r;rw [rB]
  cases l:told T.os (((first+k)%P:Nat):Int) with
  | none=>simp only [List.append_nil];exact e (by omega)
  | some id=>
   simp only [J3,List.map_cons,List.map_nil];rw [Z3];refine ⟨e (by omega),by simp,?_⟩;intro a h b j;rw [List.mem_singleton.1 j];rintro rfl;obtain ⟨x,m,rfl⟩:=List.mem_map.1 h;obtain ⟨i,o,f,g⟩:=kZ m;have c:=d.qp _ _ g;rw [d.qp _ _ l] at c;injection c with c
   rw [f] at c;have:=na (a:=((first+k:Nat):Int)) (b:=((first+i:Nat):Int)) (P:=(P:Int)) (by omega) (by omega);exact this (by exact_mod_cast c)
structure WZ (J:Jr) (D:aC) (Z:List Wr) (k:Nat) (D':aC):Prop where
 run:J.bR D Z k=(0,D')
 calm:D'.Calm
 sec:D'.sec.length=D.sec.length
 cr:D'.cr=D.cr
 cf:D'.cf=D.cf
 cw:D'.cw=iT D.cw k
 new:∀ i:Nat,i<k->D'.cE ((J.hd+(i:Int))%(J.P:Int)+1)=(0,enc (J.tag i Z.length (Z.getD i Wr.nil).1)++(Z.getD i Wr.nil).2.2)
 qk:∀ a,(∀ i:Nat,i<k->a≠(J.hd+(i:Int))%(J.P:Int)+1)->D'.cE a=D.cE a
theorem Xc (J:Jr) (D:aC) (M:0<J.P) (r:D.Calm) (hs:(J.P:Int)+1<=D.sec.length) (Z:List Wr) (o:∀ z ∈ Z,z.2.2.length=480) (N:(Z.length:Int)<=J.P):∀ k,k<=Z.length->∃ D',WZ J D Z k D':=by
  intro k
  induction k with
  | zero=>intro _;exact ⟨D,rfl,r,rfl,rfl,rfl,rfl,fun i c=>absurd c (Nat.not_lt_zero i),fun _ _=>rfl⟩
  | succ k C=>
    intro P;obtain ⟨D',w⟩:=C (by omega);obtain ⟨E,g,m,F,G,H,I,K⟩:=w;have u:Z.getD k Wr.nil ∈ Z:=by rw [D3,H3 (by omega)];exact T3 _
    have l:(enc (J.tag k Z.length (Z.getD k Wr.nil).1)++(Z.getD k Wr.nil).2.2).length=512:=by rw [G3,dO,o _ u]
    have b0:0<=(J.hd+(k:Int))%(J.P:Int):=Y3 _ (by omega);have c0:(J.hd+(k:Int))%(J.P:Int)<J.P:=Z5 _ (by omega);have s:D'.has ((J.hd+(k:Int))%(J.P:Int)+1):=⟨by omega,by rw [m];omega⟩
    have B:=g.write s l
    have f:J.bR D Z (k+1)=if (J.bR D Z k).1=0 then
        (let h:=(J.bR D Z k).2.write ((J.hd+(k:Int))%(J.P:Int)+1) (enc (J.tag k Z.length (Z.getD k Wr.nil).1)++(Z.getD k Wr.nil).2.2)
         (if h.1=0 then 0 else 2,h.2)) else J.bR D Z k:=rfl
    rw [E] at f;rw [B] at f;refine ⟨_,f,⟨g.down,g.fo⟩,m,F,G,by show cG (D'.cw+1)=_;rw [H];rfl,?_,?_⟩
    · intro i c
      rw [tW];rcases Nat.lt_or_eq_of_le (Nat.lt_succ_iff.1 c) with d|d
      · have S:(J.hd+(k:Int))%(J.P:Int)≠(J.hd+(i:Int))%(J.P:Int):=na (by omega) (by omega)
        rw [if_neg (by omega)];exact I i d
      · subst d
        rw [if_pos rfl,kp l]
    · intro a j
      rw [tW,if_neg (fun e=>j k (by omega) e.symm)];exact K a fun i c=>j i (by omega)
def nF (has:Has) (L:Bl):Has:=fun id=>(aP L id).or (has id)
structure Batch (n:Int) (L:Bl):Prop where
 n0:1<=L.length
 n1:L.length<=24
 id:∀ x ∈ L,0<=x.1/\x.1<n
 SI:∀ x ∈ L,x.2.length=480
 nd:(L.map B3).Nodup
def CK (L:Bl):KV:=fN (mA L) L.length
theorem MM (L:Bl) (id:Int):(aP (CK L) id).isSome=decide (id ∈ L.map B3):=by
 have c:(mA L).length=L.length:=by simp [mA]
 rw [CK,yX (by omega)];congr 1
 have:((mA L).take L.length).map B3=L.map B3:=by
  rw [<- c,S4];unfold mA;rw [Z4];rfl
 rw [this]
def jJ (J:Jr) (has:Has) (L:Bl):Bl:=A4 has (CK L) (bX J.T J.P (Jr.tail J) (J.aX L.length).toNat)
theorem Db {J:Jr} (c:J.Ok) (i:Nat):(((Jr.tail J+i)%J.P:Nat):Int)=(J.hd-J.us+(i:Int))%(J.P:Int):=by
 have d:=c.p0;unfold Jr.tail;rw [Int.natCast_emod,D6,K4 (Y3 _ (by omega)),Int.emod_add_emod]
theorem Nq {L:Bl} {x:Int} {i:Nat} (h:L.findIdx? (fun y=>y.1 == x)=U i):i<L.length/\(L.getD i (0,[])).1=x/\aP L x=U (L.getD i (0,[])).2:=by
 rw [List.findIdx?_eq_some_iff_getElem] at h;obtain ⟨c,d,f⟩:=h;have e:L.getD i (0,[])=L[i]:=by rw [D3,H3 c];rfl
 refine ⟨c,by rw [e];simpa using d,?_⟩;rw [e];have g:L.find? (fun p=>p.1 == x)=U L[i]:=List.find?_eq_some_iff_getElem.2 ⟨d,i,c,rfl,fun j l=>by simpa using f j l⟩;unfold aP;rw [g]
 rfl
theorem BV {c:Type} (A B:List (Int × c)) (x:Int):aP (A++B) x=(aP A x).or (aP B x):=by
 unfold aP;rw [List.find?_append];cases A.find? (fun p=>p.1 == x) <;> rfl
theorem PO {J:Jr} {D:aC} {has:Has} (h:fY J D has) (own:KV) (d:List (Int × Int)) (l:∀ x ∈ d,told J.T.ps x.1=U x.2) (id:Int) (b:List UInt8) (m:aP (A4 has own d) id=U b):has id=U b:=by
 have o:=oK m;obtain ⟨x,r,e⟩:=List.mem_map.1 o;have s:=(List.mem_filter.1 r).1;obtain ⟨t,c,g,_⟩:=h.pR _ _ (l x s);injection e with j f
 rw [<- j,g];rw [g] at f;rw [<- f];rfl
theorem vf {J:Jr} {D:aC} {has:Has} (h:fY J D has) (own:KV) (d:List (Int × Int)) (e:∀ x ∈ d,told J.T.ps x.1=U x.2):∀ x ∈ A4 has own d,x.2.length=480/\0<=x.1/\x.1<J.n:=by
 intro y o;obtain ⟨x,m,rfl⟩:=List.mem_map.1 o;have f:=(List.mem_filter.1 m).1;obtain ⟨t,c,g,j,_⟩:=h.pR _ _ (e x f);have l:=kD (e x f);have:=h.ok.ps;exact ⟨by simp only [g,X4];exact j,l.1,by show x.1<J.n;omega⟩
theorem GA (has:Has) (L:Bl) (c:List (Int × Int)):(A4 has (CK L) c).map B3=(c.map B3).filter fun id=>decide (id ∉ L.map B3):=by
 unfold A4;rw [Z4,List.filter_map];congr 1;congr 1;funext x;simp only [Function.comp,MM];simp
structure Uz (J:Jr) (D:aC) (has:Has) (L:Bl) (D':aC):Prop where
 run:fg J D true L=(0,J.done (L++jJ J has L) (J.aX L.length),D')
 inv:fY (J.done (L++jJ J has L) (J.aX L.length)) D' (nF has L)
 cr:D'.cr=iT D.cr (jJ J has L).length
 cw:D'.cw=iT D.cw (L.length+(jJ J has L).length)
 cf:D'.cf=cG (D.cf+1)
theorem tu {J:Jr} {D:aC} {has:Has} (h:fY J D has) (k:Nat):∀ x ∈ bX J.T J.P (Jr.tail J) k,told J.T.ps x.1=U x.2:=by
 intro x d;obtain ⟨_,_,_,c⟩:=kZ d;exact h.Kv.qp _ _ c
theorem BC {J:Jr} {D:aC} {has:Has} (h:fY J D has) (L:Bl):fj J D L=((0,jJ J has L),J,{ D with cr:=iT D.cr (jJ J has L).length }):=
 DT h (CK L) _ (tu h _)
theorem Bd (J:Jr) (has:Has) (L:Bl) (c:0<=J.us):((jJ J has L).length:Int)<=J.aX L.length:=by
 have d:(jJ J has L).length<=(J.aX L.length).toNat:=by
  unfold jJ A4;rw [L3];exact Nat.le_trans (S6 _ _) (lf _ _ _ _)
 have:=(Jr.fU c L.length).1;omega
theorem Dl {J:Jr} {D:aC} {has:Has} (h:fY J D has) {L:Bl} (r:Batch J.n L) (F0:J.sq<281474976710655) (d:¬ (J.P:Int)-J.us-J.fr<((L++jJ J has L).length:Int)) :
  ∃ D',Uz J D has L D':=by
 have hm:=BC h.aK L;have l:=h.aK;have hc:=Jr.fU h.ok.EK L.length;have N0:=Bd J has L h.ok.EK;have P:=tu h (J.aX L.length).toNat;have C:(jJ J has L).map B3=((bX J.T J.P (Jr.tail J) (J.aX L.length).toNat).map B3).filter fun id=>decide (id ∉ L.map B3):=GA has L _;have s0:∀ id b,aP (jJ J has L) id=U b->has id=U b:=fun id b hk=>PO h (CK L) _ P id b hk;have p0:∀ x ∈ jJ J has L,x.2.length=480/\0<=x.1/\x.1<J.n:=vf h (CK L) _ P;have W0:=h.ok.EK;have X0:=h.ok.TE;have L0:=h.ok.Wm;have T0:=h.ok.p0;have R0:=r.n1;generalize o:jJ J has L=M at *;obtain ⟨A,g⟩:∃ A,A=L++M:=⟨_,rfl⟩
 have i0:A.length=L.length+M.length:=by rw [g,G3]
 rw [<- g] at d
 have B:∀ x ∈ A,x.2.length=480/\0<=x.1/\x.1<J.n:=by
  intro x f;rw [g] at f;rcases List.mem_append.1 f with f|f
  .exact ⟨r.SI x f,r.id x f⟩
  .exact p0 x f
 have k0:(A.map B3).Nodup:=by
  rw [g,J3,Z3];refine ⟨r.nd,?_,?_⟩
  .rw [C]
   exact (lA h.Kv _ (by omega)).filter _
  .intro a ha b S e
   rw [C] at S;have:=(List.mem_filter.1 S).2;rw [<- e] at this;simp only [decide_eq_true_eq] at this;exact this ha
 have K:(A.length:Int)<=J.P:=by omega
 have K0:(A.length:Int)+J.us<=J.P:=by omega
 have l0:∀ i:Nat,i<A.length->told J.T.os ((J.hd+(i:Int))%(J.P:Int))=W:=by
  intro i j
  cases E:told J.T.os ((J.hd+(i:Int))%(J.P:Int)) with
  | none=>rfl
  | some id=>
   obtain ⟨a,w,z,a3⟩:=h.win _ _ E;exact absurd a3 (na (by omega) (by omega))
 have x0:=UU J h.ok h.Kv A (fun x f=>(B x f).2) k0 K l0 A.length (X3 _);obtain ⟨p1,H,p3⟩:=x0;rw [S4] at H;have F:(mA A).length=A.length:=by simp [mA]
 have G0:∀ h0 ∈ mA A,h0.2.2.length=480:=by
  intro h0 hz;obtain ⟨x,f,rfl⟩:=List.mem_map.1 hz;exact (B x f).1
 have e0:(J.P:Int)+1<=D.aK.sec.length:=l.sec;obtain ⟨D',H0⟩:=Xc J { D.aK with cr:=iT D.aK.cr M.length } h.ok.p0 (FV l.calm _) e0 (mA A) G0 (by rw [F];exact K) A.length (by rw [F];exact X3 _);have g0:=Jr.ry J (N6 l.Kw (iT D.aK.cr M.length)) (mA A) A.length (by show D.aK.wait.length+A.length<=1000000;have:D.aK.wait=[]:=rfl;rw [this];simp only [K3];have:=h.ok.p1;omega);obtain ⟨w1,w2,w3,w4,w5,w6,w7,w8⟩:=H0;rw [w1] at g0
 have D0:fg J D true L=(0,J.done A (J.aX L.length),D'):=by
  unfold fg;rw [if_neg (by simp),if_neg (by omega),h.flush,if_neg (by simp)];unfold vM;rw [hm,<- g,if_neg (by simp),if_neg d,w1,if_neg (by simp)]
 have d0:=J.wM A A.length;have V0:J.hd%(J.P:Int)=J.hd:=Y5 h.ok.Ky h.ok.xA
 have u0:∀ i:Nat,i<A.length->D'.cE ((J.hd+(i:Int))%(J.P:Int)+1)=(0,enc (J.tag i A.length (A.getD i (0,[])).1)++(A.getD i (0,[])).2):=by
  intro i j;have:=w7 i j;rw [F,(gB _ _).1,(gB _ _).2,qO] at this;exact this
 have c0:=h.nums.numbers F0
 have u:∃ q:Int,(J.done A (J.aX L.length)).hd=J.hd+(A.length:Int)-(J.P:Int)*q:=⟨(J.hd+(A.length:Int))/(J.P:Int),by
  show (J.hd+(A.length:Int))%(J.P:Int)=_
  have:=W6 (J.hd+(A.length:Int)) (J.P:Int);omega⟩
 obtain ⟨q,u⟩:=u
 have b0:∀ a:Int,J.hd-J.us+J.aX L.length<=a->a<J.hd+(A.length:Int)->∃ b:Int,(J.done A (J.aX L.length)).hd-(J.done A (J.aX L.length)).us<=b/\b<(J.done A (J.aX L.length)).hd/\a%(J.P:Int)=b%(J.P:Int):=by
  intro a w z;have e:(J.done A (J.aX L.length)).us=J.us+((A.length:Int)-J.aX L.length):=rfl;refine ⟨a-(J.P:Int)*q,by rw [u,e];omega,by rw [u];omega,?_⟩;rw [X6]
 refine ⟨D',by rw [o,<- g];exact D0,?_,?_,?_,?_⟩
 .rw [o,<- g]
  refine ⟨?_,?_,?_,h.br,w2,?_,p1,?_,?_,?_,?_⟩
  .exact ⟨h.ok.p0,h.ok.p1,GC h.ok.T A A.length,by show ((J.gx A A.length).ps.length:Int)=J.n;rw [d0.1];exact h.ok.ps,by show (J.gx A A.length).os.length=J.P;rw [d0.2];exact h.ok.os,
    by show 0<=J.us+((A.length:Int)-J.aX L.length);omega,by show J.us+((A.length:Int)-J.aX L.length)<=(J.P:Int);omega,
    Y3 _ (by omega),Z5 _ (by omega),by show 0<=J.aX L.length;omega,by show J.aX L.length<=48;omega⟩
  .exact ⟨h.nums.VW,h.nums.VV,h.nums.Up,by show J.st<=J.sq+1+1;have:=h.nums.aS;omega,by show 0<=J.sq+1;have:=h.nums.Un;omega,by show J.sq+1<=281474976710655;omega,h.nums.n1,Jr.IE h.nums.own A A.length⟩
  .exact g0.ok (N6 l.Kw _) (by show D.aK.wait.length+A.length<=1000000;have:D.aK.wait=[]:=rfl;rw [this];simp only [K3];have:=h.ok.p1;omega)
  .rw [w3];exact e0
  .show J.us+((A.length:Int)-J.aX L.length)+J.aX L.length<=(J.P:Int);omega
  .intro p id m
   rcases p3 p id m with ⟨i,j,e,_⟩|⟨I,h2⟩
   .rw [e];exact b0 _ (by omega) (by omega)
   .obtain ⟨a,w,z,a3⟩:=h.win p id I
    rw [a3];refine b0 a ?_ (by omega);refine Classical.byContradiction fun o0=>?_;have o0:a<J.hd-J.us+J.aX L.length:=by omega
    apply h2;rw [S4];obtain ⟨i,j⟩:∃ i:Nat,a=J.hd-J.us+(i:Int):=⟨(a-(J.hd-J.us)).toNat,by omega⟩
    have E:told J.T.os (((Jr.tail J+i)%J.P:Nat):Int)=U id:=by rw [Db h.ok,<- j,<- a3];exact I
    have r0:=Cq (T:=J.T) (P:=J.P) (first:=Jr.tail J) (k:=(J.aX L.length).toNat) (i:=i) (by omega) E;rw [g,J3,A6]
    by_cases N:id ∈ L.map B3
    .exact .inl N
    .right
     rw [C];exact List.mem_filter.2 ⟨List.mem_map.2 ⟨_,r0,rfl⟩,by simpa using N⟩
  .intro id p m
   have c:told (J.gx A A.length).ps id=U p:=m;rw [H] at c
   have f0:nF has L id=(aP A id).or (has id):=by
    rw [g,BV];unfold nF
    cases hk:aP L id with
    | some b=>rfl
    | none=>
     cases m0:aP M id with
     | none=>rfl
     | some b=>simp [s0 id b m0]
   cases d:A.findIdx? (fun y=>y.1 == id) with
   | some i=>
    rw [d] at c;injection c with c
    obtain ⟨G,i2,i3⟩:=Nq d;have q0:A.getD i (0,[]) ∈ A:=by rw [D3,H3 G];exact T3 _
    obtain ⟨b1,b2,b3⟩:=B _ q0;have S0:=h.nums.n1;refine ⟨J.tag i A.length (A.getD i (0,[])).1,(A.getD i (0,[])).2,by rw [f0,i3];rfl,b1,by rw [<- c];exact u0 i G,by show (A.getD i (0,[])).1=id;exact i2,?_,Jr.G5 c0 _ _ _⟩;exact Jr.Oj c0 G (by omega) b2 (by omega)
   | none=>
    rw [d] at c;simp only at c;obtain ⟨t,b,t1,t2,t3,t4⟩:=l.pR id p c;have s:=jj.1 d;refine ⟨t,b,by rw [f0,gE.2 s];exact t1,t2,?_,t4⟩;rw [w8 (p+1),NG]
    .exact t3
    .intro i j
     obtain ⟨a,w,z,a3⟩:=h.win p id (h.Kv.pq _ _ c);have:(J.hd+(i:Int))%(J.P:Int)≠p:=by rw [a3];exact na (by omega) (by omega)
     omega
  .intro id m
   have c:told (J.gx A A.length).ps id=W:=m;rw [H] at c
   cases d:A.findIdx? (fun y=>y.1 == id) with
   | some i=>rw [d] at c;cases c
   | none=>
    rw [d] at c;have s:=jj.1 d;rw [g,J3,A6] at s;unfold nF;rw [gE.2 (fun q=>s (.inl q)),h.Vg id c]
    rfl
 .rw [o,w4]
  show iT D.aK.cr _=_
  rw [(bB D).1]
 .rw [o,w6,<- i0]
  show iT D.aK.cw _=_
  rw [(bB D).2.1]
 .rw [w5]
  exact (bB D).2.2.1
def nv (T:Tb) (P first k:Nat):Nat:=(bX T P first k).length
theorem tB (T:Tb) (P first k:Nat):nv T P first (k+1)=nv T P first k+(if (told T.os (((first+k)%P:Nat):Int)).isSome then 1 else 0):=by
 unfold nv;rw [rB,G3];cases told T.os (((first+k)%P:Nat):Int) <;> simp
theorem rT (T:Tb) (P first k:Nat):nv T P first k<=k:=lf _ _ _ _
def tD (J:Jr):Prop:=∀ k:Nat,(k:Int)<=J.us->2*J.us-(k:Int)+2*(nv J.T J.P (Jr.tail J) k:Int)<=5*J.n
theorem Cs {l:List Int} {n:Nat} (h:l.Nodup) (d:∀ x ∈ l,0<=x/\x<n):l.length<=n:=by
 have:=vT (m:=(List.range n).map fun i:Nat=>(i:Int)) h fun x e=>by
  obtain ⟨c,f⟩:=d x e;exact List.mem_map.2 ⟨x.toNat,List.mem_range.2 (by omega),K4 c⟩
 simpa using this
structure V6 (J:Jr) (L A:Bl):Prop where
 b:∀ x ∈ A,x.2.length=480/\0<=x.1/\x.1<J.n
 nd:(A.map B3).Nodup
theorem VA {J:Jr} {D:aC} {has:Has} (h:fY J D has) {L:Bl} (d:Batch J.n L):V6 J L (L++jJ J has L):=by
 have o:=Jr.fU h.ok.EK L.length;have j:=tu h (J.aX L.length).toNat;have g:(jJ J has L).map B3=((bX J.T J.P (Jr.tail J) (J.aX L.length).toNat).map B3).filter fun id=>decide (id ∉ L.map B3):=GA has L _;have m:=vf h (CK L) _ j;have r:=h.ok.TE;refine ⟨?_,?_⟩
 .intro x c
  rcases List.mem_append.1 c with c|c
  .exact ⟨d.SI x c,d.id x c⟩
  .exact m x c
 .rw [J3,Z3]
  refine ⟨d.nd,?_,?_⟩
  .rw [g]
   exact (lA h.Kv _ (by omega)).filter _
  .intro a l b f e
   rw [g] at f;have:=(List.mem_filter.1 f).2;rw [<- e] at this;simp only [decide_eq_true_eq] at this;exact this l
theorem CJ {J:Jr} {D:aC} {has:Has} (h:fY J D has) {L:Bl} (d:Batch J.n L) (e:¬ (J.P:Int)-J.us-J.fr<((L++jJ J has L).length:Int)) :
  UG J (L++jJ J has L) (L++jJ J has L).length:=by
 have c:=VA h d;have r:=h.ok.EK;have m:=h.ok.Wm;generalize L++jJ J has L=A at c e ⊢;refine UU J h.ok h.Kv A (fun x g=>(c.b x g).2) c.nd (by omega) ?_ A.length (X3 _);intro i o
 cases f:told J.T.os ((J.hd+(i:Int))%(J.P:Int)) with
 | none=>rfl
 | some id=>
  obtain ⟨a,j,l,a3⟩:=h.win _ _ f;exact absurd a3 (na (by omega) (by omega))
theorem LO (J:Jr) (has:Has) (L:Bl):(jJ J has L).length<=nv J.T J.P (Jr.tail J) (J.aX L.length).toNat:=by
 unfold jJ A4 nv;rw [L3];exact S6 _ _
theorem Fp {J:Jr} {D:aC} {has:Has} (h:fY J D has) (e:tD J) (g:5*J.n+240<=2*(J.P:Int)) {L:Bl} (f:Batch J.n L) :
  ¬ (J.P:Int)-J.us-J.fr<((L++jJ J has L).length:Int):=by
 have j:=Jr.fU h.ok.EK L.length;have m:=Bd J has L h.ok.EK;have o:=f.n1;have l:=h.ok.W8;have d:=e 0 (by have:=h.ok.EK;omega);have c:nv J.T J.P (Jr.tail J) 0=0:=by have:=rT J.T J.P (Jr.tail J) 0;omega
 rw [c] at d;rw [G3];omega
theorem Mz {T d:Tb} {P f e c:Nat}:∀ k:Nat,(∀ i,i<k->(told d.os (((e+i)%P:Nat):Int)).isSome=true->(told T.os (((f+(c+i))%P:Nat):Int)).isSome=true)->nv d P e k+nv T P f c<=nv T P f (c+k):=by
 intro k
 induction k with
 | zero=>intro _;have:=rT d P e 0;simp only [Nat.add_zero];omega
 | succ k j=>
  intro h;have:=j fun i l=>h i (by omega);have g:=h k (by omega);rw [<- S5,tB,tB];generalize (told d.os (((e+k)%P:Nat):Int)).isSome=b at g ⊢
  cases b with
  | false=>simp only [Bool.false_eq_true,if_false];omega
  | true=>rw [g rfl];omega
theorem Od (T:Tb) (P f a:Nat):∀ x,nv T P f (a+x)<=nv T P f a+x:=by
 intro x
 induction x with
 | zero=>exact X3 _
 | succ x c=>rw [<- S5,tB];split <;> omega
theorem FJ {J:Jr} {D:aC} {has:Has} (h:fY J D has) (m:tD J) {L:Bl} (o:Batch J.n L) (hf:¬ (J.P:Int)-J.us-J.fr<((L++jJ J has L).length:Int)) :
  tD (J.done (L++jJ J has L) (J.aX L.length)):=by
 have C:=VA h o;have u:=CJ h o hf;have hc:=Jr.fU h.ok.EK L.length;have d0:=LO J has L;have q0:=h.ok.Wm;have hps:=h.ok.ps;have p0:=o.n0;generalize hM:jJ J has L=M at *;have k0:(L++M).length=L.length+M.length:=G3;generalize hA:L++M=A at *;obtain ⟨c,r⟩:∃ c:Nat,J.aX L.length=(c:Int):=⟨(J.aX L.length).toNat,by omega⟩
 have E:(c:Int)=if J.us<2*(L.length:Int) then J.us else 2*(L.length:Int):=by rw [<- r];rfl
 rw [r,P3] at d0;rw [r] at hc ⊢;obtain ⟨s,hs⟩:∃ s:Nat,J.us=(c:Int)+(s:Int):=⟨(J.us-c).toNat,by omega⟩
 have z:(J.done A c).us=(s:Int)+(A.length:Int):=by show J.us+((A.length:Int)-c)=_;omega
 have f0:(J.done A c).n=J.n:=rfl;have B:(J.done A c).P=J.P:=rfl;have N:(J.done A c).T=J.gx A A.length:=rfl
 have h0:∀ i:Nat,(((Jr.tail (J.done A c)+i)%J.P:Nat):Int)=(J.hd-J.us+(c:Int)+(i:Int))%(J.P:Int):=by
  intro i;unfold Jr.tail;have b0:(J.done A c).hd=(J.hd+(A.length:Int))%(J.P:Int):=rfl;rw [z,B,b0,Int.natCast_emod,D6,K4 (Y3 _ (by omega)),Int.emod_add_emod];have j:=W6 (J.hd+(A.length:Int)) (J.P:Int);generalize (J.hd+(A.length:Int))%(J.P:Int)=x at j;generalize (J.hd+(A.length:Int))/(J.P:Int)=y at j;rw [show x-((s:Int)+(A.length:Int))+(i:Int)=J.hd-J.us+(c:Int)+(i:Int)-(J.P:Int)*y by omega,X6]
 have G:∀ (i:Nat) (x:Int),i<s->told (J.gx A A.length).os (((Jr.tail (J.done A c)+i)%J.P:Nat):Int)=U x->told J.T.os (((Jr.tail J+(c+i))%J.P:Nat):Int)=U x/\x ∉ A.map B3:=by
  intro i x l d;rw [h0] at d;rw [Db h.ok,D6,<- Int.add_assoc];rcases u.os _ _ d with ⟨k,F,e,_⟩|⟨j,w⟩
  .exact absurd e.symm (na (by omega) (by omega))
  .rw [S4] at w;exact ⟨j,w⟩
 have e0:∀ k,k<=s->nv (J.gx A A.length) J.P (Jr.tail (J.done A c)) k+nv J.T J.P (Jr.tail J) c<=nv J.T J.P (Jr.tail J) (c+k):=fun k F=>Mz k fun i l d=>by
  obtain ⟨x,d⟩:=Option.isSome_iff_exists.1 d;rw [(G i x (by omega) d).1];rfl
 have o0:nv (J.gx A A.length) J.P (Jr.tail (J.done A c)) s+A.length<=J.T.ps.length:=by
  have g0:(((bX (J.gx A A.length) J.P (Jr.tail (J.done A c)) s).map B3)++A.map B3).Nodup:=by
   rw [Z3];refine ⟨lA u.Kv s (by omega),C.nd,?_⟩;intro a P b S e;obtain ⟨y,f,rfl⟩:=List.mem_map.1 P;obtain ⟨i,l,H,g⟩:=kZ f;rw [H] at g;rw [e] at g;exact (G i _ l g).2 S
  have:=Cs (n:=J.T.ps.length) g0 fun x d=>by
   rcases List.mem_append.1 d with d|d
   .obtain ⟨y,f,rfl⟩:=List.mem_map.1 d
    obtain ⟨i,l,H,g⟩:=kZ f;have:=kD (u.Kv.qp _ _ g);have hl:=(J.wM A A.length).1;exact ⟨this.1,by have:=this.2.1;omega⟩
   .obtain ⟨y,f,rfl⟩:=List.mem_map.1 d
    have:=(C.b y f).2;exact ⟨this.1,by have:=this.2;omega⟩
  rw [G3,L3,L3] at this;exact this
 intro k F;rw [z,f0,B,N] at *;have K:=m 0 (by omega);have I:nv J.T J.P (Jr.tail J) 0=0:=by have:=rT J.T J.P (Jr.tail J) 0;omega
 rw [I] at K
 by_cases c0:k<=s
 .have s0:=e0 k c0
  have l0:=m (c+k) (by omega);have r0:=rT (J.gx A A.length) J.P (Jr.tail (J.done A c)) k
  split at E <;> omega
 .obtain ⟨x,d⟩:∃ x,k=s+x:=⟨k-s,by omega⟩
  have i0:=Od (J.gx A A.length) J.P (Jr.tail (J.done A c)) s x;rw [<- d] at i0;have m0:=m c (by omega)
  split at E <;> omega
end Go.Proofs.Nn

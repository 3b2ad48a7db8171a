/- Steps. -/
import Derived.Test.YtacliaemfegopaaGreatDoorKP11
import Derived.Lib.AppendZeros
set_option linter.all false
set_option maxRecDepth 99999
set_option maxHeartbeats 0
open Go.SL
open Go.Value renaming int->V,slice->X
open Go.Obj renaming cells->Y
open Go renaming World->R,Value->O
open Go.Proofs.Tryz renaming prog->Q
open Option renaming some->U,none->W
open Bool renaming false->Y'
open Go.Proofs.Tryz
open Prod renaming fst->B3
open List renaming getD->D3,length_append->G3,getElem?_eq_getElem->H3,map_append->J3,length_nil->K3,length_map->L3,getElem_mem->Q3,nodup_append->V3,length_cons->X3,take_length->J4,setIfInBounds_toArray->K4,set_cons_zero->L4,map_map->T4,foldl_cons->U4,mem_cons_of_mem->V4,mem_cons_self->W4,append_assoc->Y4,getElem?_set->Z4,mem_append->L5,length_replicate->U5,getElem?_replicate->V5,length_filter_le->W5
open Int renaming toNat_natCast->P3,emod_nonneg->U3,toNat_of_nonneg->Y3,eq_ofNat_of_zero_le->Z3,emod_eq_of_lt->E5,emod_lt_of_pos->K5,natCast_add->S5,emod_add_mul_ediv->X5,sub_mul_emod_self_left->Y5
open Nat renaming le_refl->T3,zero_add->S4,add_assoc->X4
open Option renaming getD_some->N4,isSome_some->T5
namespace Go.Proofs.Nn
open Go.RowKit Go.SL
attribute [local go_sem] Oper.semAt_some
variable {S S':Hp} {F G:ai} {w:R}
theorem mL:(prog.info? 188).map (fun i=>(i.zero,i.size,i.bytes))=U (U (.agg #[V .i64 0,X W 0 0]),2,32):=by kernel_rfl
def Px (S:Hp) (j d r t m:Nat) (own:KV) (c:Mv) (F:ai) (w:R) (e:Ending) (g:R):Prop:=
 ∃ (f:Hp) (v:O) (Z:Zs),Ext S f/\e = .returned (.tuple #[v,V .i64 c.1.1])/\Z.map (fun z=>(z.1,z.2.2))=c.1.2/\(∀ z ∈ Z,pF 5 f z.2.1 z.2.2) /\
  ag g (jk j d r t c.2.1*(aL f d c.2.2*(ak f*(sl 188 2 v Z.length (bE Z)*(mp m own*F)))))/\aj w g
def jZ (S:Hp) (d m bl bj bo b6 b7 j:Nat) (own:KV) (J:Jr) (D:az) (F:ai) (ys:List (Int × Int)):ai:=ex fun q:Hp × O × Zs=>
 fact (Ext S q.1/\(J.bQ D own ys).1.1=0/\q.2.2.map (fun z=>(z.1,z.2.2))=(J.bQ D own ys).1.2/\∀ z ∈ q.2.2,pF 5 q.1 z.2.1 z.2.2) *
  (pt bl (Y #[q.2.1] 126 (0,0))*(sl 188 2 q.2.1 q.2.2.length (bE q.2.2)*(aL q.1 d (J.bQ D own ys).2.2*(ak q.1 *
   (pt bj (Y #[ay j] 123 (0,0))*(pt bo (Y #[.map (U m)] 177 (0,0))*(pt b6 (Y #[X W 0 0] 126 (0,0))*(pt b7 (Y #[V .i64 0] 28 (0,0))*(mp m own*F)))))))))
def Bn (S:Hp) (j d r t m b6 b7:Nat) (own:KV) (J:Jr) (D:az) (F:ai) (ys:List (Int × Int)):ai:=ex fun c:Hp=>
 fact (Ext S c/\(J.bQ D own ys).1.1≠0/\(J.bQ D own ys).1.2=[])*(jk j d r t (J.bQ D own ys).2.1*(pt b6 (Y #[X W 0 0] 126 (0,0))*(pt b7 (Y #[V .i64 (J.bQ D own ys).1.1] 28 (0,0))*(aL c d (J.bQ D own ys).2.2*(ak c*(mp m own*F))))))
theorem rq {d m bl bj bo b6 b7 j:Nat} {own:KV} {J:Jr} {D:az} {ys:List (Int × Int)} (h:ag w (jZ S d m bl bj bo b6 b7 j own J D F ys*G)) :
  ∃ (S':Hp) (v:O) (Z:Zs),Ext S S'/\(J.bQ D own ys).1.1=0/\Z.map (fun z=>(z.1,z.2.2))=(J.bQ D own ys).1.2/\(∀ z ∈ Z,pF 5 S' z.2.1 z.2.2) /\
   ag w (pt bl (Y #[v] 126 (0,0))*(sl 188 2 v Z.length (bE Z)*(aL S' d (J.bQ D own ys).2.2*(ak S' *
   (pt bj (Y #[ay j] 123 (0,0))*(pt bo (Y #[.map (U m)] 177 (0,0))*(pt b6 (Y #[X W 0 0] 126 (0,0))*(pt b7 (Y #[V .i64 0] 28 (0,0))*(mp m own*(F*G)))))))))):=by
 obtain ⟨q,h⟩:=ag.aw.1 h;obtain ⟨⟨c,e,f,g⟩,l⟩:=ag.au.1 (h.to (ax _ _ _));exact ⟨q.1,q.2.1,q.2.2,c,e,f,g,l.to (by ac_rfl)⟩
theorem mw {d m bl bj bo b6 b7 j:Nat} {own:KV} {J:Jr} {D:az} {ys:List (Int × Int)} {v:O} {Z:Zs} (c:Ext S S') (e:(J.bQ D own ys).1.1=0)
  (f:Z.map (fun z=>(z.1,z.2.2))=(J.bQ D own ys).1.2) (g:∀ z ∈ Z,pF 5 S' z.2.1 z.2.2)
  (h:ag w (pt bl (Y #[v] 126 (0,0))*(sl 188 2 v Z.length (bE Z)*(aL S' d (J.bQ D own ys).2.2*(ak S' *
   (pt bj (Y #[ay j] 123 (0,0))*(pt bo (Y #[.map (U m)] 177 (0,0))*(pt b6 (Y #[X W 0 0] 126 (0,0))*(pt b7 (Y #[V .i64 0] 28 (0,0))*(mp m own*(F*G))))))))))):ag w (jZ S d m bl bj bo b6 b7 j own J D F ys*G):=
 by
 unfold jZ;exact ag.aw.2 ⟨(S',v,Z),(ag.au.2 ⟨⟨c,e,f,g⟩,h⟩:ag w (fact (_/\_/\_/\_)*_)).to (by ac_rfl)⟩
theorem zL {j d r t m b6 b7:Nat} {own:KV} {J:Jr} {D:az} {ys:List (Int × Int)} (c:Ext S S') (e:(J.bQ D own ys).1.1≠0) (f:(J.bQ D own ys).1.2=[])
  (h:ag w (jk j d r t (J.bQ D own ys).2.1*(pt b6 (Y #[X W 0 0] 126 (0,0))*(pt b7 (Y #[V .i64 (J.bQ D own ys).1.1] 28 (0,0))*(aL S' d (J.bQ D own ys).2.2*(ak S'*(mp m own*(F*G)))))))) :
  ag w (Bn S j d r t m b6 b7 own J D F ys*G):=
 by
 unfold Bn;exact ag.aw.2 ⟨S',(ag.au.2 ⟨⟨c,e,f⟩,h⟩:ag w (fact (_/\_/\_)*_)).to (by ac_rfl)⟩
theorem nK {c:Array O} {b6 b7:Nat} {v u:O} (f:c[6]?=U (.pointer (U ⟨b6,0,W⟩))) (g:c[7]?=U (.pointer (U ⟨b7,0,W⟩))) (d:w.cell? ⟨b6,0,W⟩=U v) (e:w.cell? ⟨b7,0,W⟩=U u) :
  (results Tryz.f125 c).run Q w = .ok (.tuple #[v,u]) w:=by
 simp [results,Tryz.results125,go_sem,f,g,d,e]
theorem Cw (Z:Zs) (z:Int × O × List UInt8):bE (Z++[z])=bE Z++[V .i64 z.1,z.2.1]:=by simp [bE]
theorem B0 (w:R) (S:Hp) (j d r t m:Nat) (J:Jr) (D:az) (own:KV) (n:Nat) (F:ai) (c0:ag w (jk j d r t J*(aL S d D*(ak S*(mp m own*F))))) (hJ:J.Ok) (hD:D.Ok) (hn:n<=J.P) :
  Calls Q 125 #[ay j,V .i64 (n:Int),.map (U m)] w (Px S j d r t m own (J.bQ D own (bN J.T J.P (Jr.tail J) n)) F w):=by
 obtain ⟨i0,hi,hz,G0,F0⟩:=info_parts mL;refine (callsIn_wide (n:=9)).1 ?_;refine callsIn_of_wp_marks func125 rfl trivial ?_ rfl;simp only [ntmps125,List.size_toArray,X3,K3,Nat.reduceAdd,Nat.reduceSub,Array.replicate_succ,Array.replicate_zero,List.push_toArray,List.append_toArray,List.nil_append,List.cons_append];have I:=((((c0.alloc (Y #[ay j] 123 (0,0))).alloc (Y #[.map (U m)] 177 (0,0))).alloc (Y #[X W 0 0] 126 (0,0))).alloc (Y #[V .i64 0] 28 (0,0))).alloc (Y #[X W 0 0] 126 (0,0));have d1:=(((((aj.refl w).alloc (Y #[ay j] 123 (0,0))).alloc (Y #[.map (U m)] 177 (0,0))).alloc (Y #[X W 0 0] 126 (0,0))).alloc (Y #[V .i64 0] 28 (0,0))).alloc (Y #[X W 0 0] 126 (0,0));simp only [World.size_alloc] at I
 gi_wp2_with fail
 generalize ((((w.alloc (Y #[ay j] 123 (0,0))).alloc (Y #[.map (U m)] 177 (0,0))).alloc (Y #[X W 0 0] 126 (0,0))).alloc (Y #[V .i64 0] 28 (0,0))).alloc (Y #[X W 0 0] 126 (0,0))=w1 at I d1 ⊢;generalize w.heap.size+1+1+1+1=s at I ⊢;generalize w.heap.size+1+1+1=f at I ⊢;generalize w.heap.size+1+1=e at I ⊢;generalize w.heap.size+1=z at I ⊢;generalize w.heap.size=bj at I ⊢;refine lY (IT w1 j (n:Int)) ?_;rintro b1 w2 ⟨rfl,rfl⟩;have h2:=(I.alloc (Y #[ay j] 123 (0,0))).alloc (Y #[V .i64 (n:Int)] 3 (0,0));have d2:=(d1.alloc (Y #[ay j] 123 (0,0))).alloc (Y #[V .i64 (n:Int)] 3 (0,0));simp only [World.size_alloc] at h2
 gi_wp2_with fail
 generalize (w1.alloc (Y #[ay j] 123 (0,0))).alloc (Y #[V .i64 (n:Int)] 3 (0,0))=w2 at h2 d2 ⊢;generalize w1.heap.size+1=cn at h2 ⊢;generalize w1.heap.size=cj at h2 ⊢;clear I d1 c0
 have hE:ag w2 ((jk j d r t J*jZ S d m s bj z e f j own J D F [])*(gv cj cn j n*emp)):=by
  have P:=h2.eC 188 2
  have h4:ag w2 (jZ S d m s bj z e f j own J D F []*(gv cj cn j n*jk j d r t J)):=mw (S':=S) (v:=X W 0 0) (Z:=[]) (Ext.refl S) rfl rfl (by simp)
   (P.to (by unfold gv;simp only [Jr.bQ,List.foldl_nil,K3,bE,List.flatMap_nil];ac_rfl))
  exact h4.to (by rw [ku];ac_rfl)
 clear h2
 refine kZ (w0:=w) rfl (by decide) (gf:=225) (lb:=#[.pointer (U ⟨cj,0,W⟩),.pointer (U ⟨cn,0,W⟩)]) rfl trivial (enters func225 (by kernel_rfl) rfl)
  (DY _ cj cn j d r t J n hJ hn)
  (fun x tt=>(((tt.setIfInBounds 18 (V .i64 x.1)).setIfInBounds 19 (V .i64 x.2)).setIfInBounds 9 (V .i64 x.1)).setIfInBounds 10 (V .i64 x.2))
  (fun E=>jk j d r t J*jZ S d m s bj z e f j own J D F E) (fun a1=>s5 (yx _ _) a1)
  (fun N0 E=>fact (N0 = .ret)*Bn S j d r t m e f own J D F E)
  (fun u x=>jk j d r t J*jZ S d m s bj z e f j own J D F u) emp ?hps d2 hE ?assign ?body ?done ?stop
 case hps=>
  intro x vs C o c0;unfold yp at c0;obtain ⟨rfl,_⟩:=ag.au.1 c0
  rfl
 case assign=>
  intro l K u x vs C o f1 _ b0 H hK;have H1:=H.ah;unfold yp at H1;obtain ⟨rfl,h⟩:=ag.au.1 H1;clear H H1
  gi_wp2
  exact hK _ b0 h
 case done=>
  intro D2 E o hS b0 H;subst hS;obtain ⟨g,v,Z,d0,B,hZ,hV,h⟩:=rq (H.to (by ac_rfl):ag o (jZ S d m s bj z e f j own J D F (bN J.T J.P (Jr.tail J) n)*(jk j d r t J*(gv cj cn j n*(pt D2 (.deferred (U []))*emp)))));have kl:o.cell? ⟨s,0,W⟩=U v:=h.cell 0;have k6:o.cell? ⟨e,0,W⟩=U (X W 0 0):=h.bP.cell 0;have f6:o.frozen? ⟨e,0,W⟩=Y':=h.bP.frozen 0;have G:=(h.bP.setCell 0 v).dR;have k7:(o.setCell ⟨e,0,W⟩ v).cell? ⟨f,0,W⟩=U (V .i64 0):=G.cell 0;have f7:(o.setCell ⟨e,0,W⟩ v).frozen? ⟨f,0,W⟩=Y':=G.frozen 0;have H4:=G.setCell 0 (V .i64 0);have d4:=(b0.setCell ⟨e,0,W⟩ v).setCell ⟨f,0,W⟩ (V .i64 0);obtain ⟨va,vc,rfl⟩:=aC h.ah;have hj:=Jr.tV B;generalize J.bQ D own (bN J.T J.P (Jr.tail J) n)=l0 at *;obtain ⟨⟨rc,rl⟩,N,D'⟩:=l0;simp only at B hj hZ;subst B hj;have HH:=ae H4;clear H h G H4 hE d2;have HD:=ae d4;clear d4
  gi_wp2
  generalize (o.setCell ⟨e,0,W⟩ (X va Z.length vc)).setCell ⟨f,0,W⟩ (V .i64 0)=W3 at HH HD ⊢
  have H5:ag W3 (pt D2 (.deferred (U []))*(pt e (Y #[X va Z.length vc] 126 (0,0))*(pt f (Y #[V .i64 0] 28 (0,0))*(jk j d r t N*(aL g d D'*(ak g*(sl 188 2 (X va Z.length vc) Z.length (bE Z)*(mp m own*F)))))))):=by
   have c0:=HH.out;simp only [K4,L4] at c0;exact (c0.to (by ac_rfl:_=(pt s (Y #[X va Z.length vc] 126 (0,0))*(pt bj (Y #[ay j] 123 (0,0))*(pt z (Y #[.map (U m)] 177 (0,0))*(gv cj cn j n*emp))))*(pt D2 (.deferred (U []))*(pt e (Y #[X va Z.length vc] 126 (0,0))*(pt f (Y #[V .i64 0] 28 (0,0))*(jk j d r t N*(aL g d D'*(ak g*(sl 188 2 (X va Z.length vc) Z.length (bE Z)*(mp m own*F)))))))))).right
  have hK:=H5.heap;have M:=(H5.putObj (.deferred W)).right;refine ⟨by simp,.inl ⟨_,_,rfl,run_takeDeferred hK,?_⟩⟩;exact ⟨_,nK rfl rfl (M.cell 0) (M.ah.cell 0),g,_,Z,d0,rfl,hZ,hV,M.right.right,HD.out.putObj _ _⟩
 case stop=>
  intro D2 N0 E o f0 b0 H0;obtain ⟨rfl,H⟩:=ag.au.1 (H0.to (ax _ _ _));obtain ⟨g,H1⟩:=ag.aw.1 H;obtain ⟨⟨d0,B,T0⟩,h⟩:=ag.au.1 (H1.to (ax _ _ _));have c:=Jr.BS B f0
  have G:ag o (pt D2 (.deferred (U []))*(pt e (Y #[X W 0 0] 126 (0,0))*(pt f (Y #[V .i64 (J.bQ D own E).1.1] 28 (0,0))*(jk j d r t (J.bQ D own E).2.1*(aL g d (J.bQ D own E).2.2*(ak g*(mp m own*F))))))):=
   (h.to (by ac_rfl:_=(gv cj cn j n*emp)*(pt D2 (.deferred (U []))*(pt e (Y #[X W 0 0] 126 (0,0))*(pt f (Y #[V .i64 (J.bQ D own E).1.1] 28 (0,0))*(jk j d r t (J.bQ D own E).2.1*(aL g d (J.bQ D own E).2.2*(ak g*(mp m own*F))))))))).right
  rw [c];have hK:=G.heap;have H4:=(G.putObj (.deferred W)).right;have H5:=H4.right.right.eC 188 2;have HD:=ae (b0.putObj D2 (.deferred W));have HN:=ae T0;have K0:=ae H4;have Y0:=ae H5;generalize J.bQ D own E=l0 at *;clear H0 H H1 h G H4 H5 hE d2 c B T0
  gi_wp2
  refine ⟨by simp,.inl ⟨_,_,rfl,run_takeDeferred hK,?_⟩⟩;exact ⟨_,nK rfl rfl (K0.out.cell 0) (K0.out.ah.cell 0),g,X W 0 0,[],d0,rfl,by rw [HN.out];rfl,by simp,Y0.out.to (by ac_rfl),HD.out⟩
 case body=>
  intro l K u x C o f0 b0 H;obtain ⟨id,p⟩:=x;obtain ⟨g,v,Z,d0,B,hZ,hV,h⟩:=rq (H.to (by ac_rfl):ag o (jZ S d m s bj z e f j own J D F u*(jk j d r t J*(pt l (.loop K)*C))));have c:=J.BQ D own u (id,p);unfold Jr.cM at c;rw [if_neg (by simpa using B),Jr.tV B] at c;dsimp only at c
  have o1:Z.length<=n:=by
   have I:=f0.length_le;have h2:=jV J.T J.P (Jr.tail J) n;have P:=Jr.wL (J:=J) (D:=D) (own:=own) u;rw [<- hZ,L3] at P;simp only [G3,X3,K3] at I;omega
  have hP:=hJ.p1;have R0:(J.bQ D own u).2.2.Ok:=(J.rO hD own u).ok hD (by have:=hD.many;omega);have kj:o.cell? ⟨bj,0,W⟩=U (ay j):=h.aI.cell 0;have ko:o.cell? ⟨z,0,W⟩=U (.map (U m)):=h.du.cell 0;have g0:=ag.lookup (P:=Q) underlying177 underlying3 (z:=V .i64 0) (by kernel_rfl) h.ke id true
  cases hk:aG own id with
  | some q=>
   rw [hk] at c g0;simp only [T5,if_true,N4] at c g0
   have G:ag o ((jk j d r t J*jZ S d m s bj z e f j own J D F (u++[(id,p)]))*(pt l (.loop K)*C)):=by
    have:=mw (S:=S) (S':=g) (own:=own) (J:=J) (D:=D) (ys:=u++[(id,p)]) (F:=F) (G:=jk j d r t J*(pt l (.loop K)*C)) (v:=v) (Z:=Z) d0 (by rw [c];exact B) (by rw [c];exact hZ) hV (by rw [c];exact h);exact this.to (by ac_rfl)
   have X0:=ae G;clear H h G c hk f0 hE d2
   gi_wp2
   exact ⟨b0,X0.out⟩
  | none=>
   rw [hk] at c g0;simp only [Option.isSome_none,if_true,Option.getD_none,if_neg Bool.false_ne_true] at c g0
   have hl:=wR o g j d r t J (J.bQ D own u).2.2 id p _ (h.to (by ac_rfl:_=jk j d r t J*(aL g d (J.bQ D own u).2.2*(ak g*(pt s (Y #[v] 126 (0,0))*(sl 188 2 v Z.length (bE Z) *
    (pt bj (Y #[ay j] 123 (0,0))*(pt z (Y #[.map (U m)] 177 (0,0))*(pt e (Y #[X W 0 0] 126 (0,0))*(pt f (Y #[V .i64 0] 28 (0,0))*(mp m own*(F*(pt l (.loop K)*C))))))))))))) hJ R0
   have o0:=oN (J:=J) (D:=(J.bQ D own u).2.2) (id:=id) (p:=p);have p0:=Jr.DM (J:=J) (D:=(J.bQ D own u).2.2) (id:=id) (p:=p);have p1:Z.length+1<=20001:=by omega
   generalize hR:J.load (J.bQ D own u).2.2 id p=l0 at hl c o0 p0;obtain ⟨⟨rc,rl⟩,N,D'⟩:=l0;dsimp only at hl c o0 p0;have k0:=ae c;have s0:=ae o0;have u0:=ae p0;have HZ:=ae hZ;have HV:=ae hV;have L0:=ae d0;clear H h c hk f0 hE d2 hR o0 p0 hZ hV d0 R0 B
   gi_wp2_with fail
   refine qk hl ?_;rintro b1 w3 ⟨dv,rfl,P,d3⟩;clear hl kj ko g0
   by_cases e0:rc=0
   .subst e0
    obtain rfl:=u0.out rfl;have c:=k0.out;rw [if_pos rfl] at c;have c1:=s0.out rfl
    obtain ⟨S3,m0,D0,h4⟩:=ag.wY (P.tU.to (by ac_rfl:_=ak g*(bs 5 dv rl*(pt s (Y #[v] 126 (0,0))*(sl 188 2 v Z.length (bE Z)*(jk j d r t N*(aL g d D' *
     (pt bj (Y #[ay j] 123 (0,0))*(pt z (Y #[.map (U m)] 177 (0,0))*(pt e (Y #[X W 0 0] 126 (0,0))*(pt f (Y #[V .i64 0] 28 (0,0))*(mp m own*(F*(pt l (.loop K)*C)))))))))))))) (by unfold small;omega)
    obtain ⟨da,dc,rfl⟩:∃ da dc,dv = X da rl.length dc:=by
     rcases D0.2 with ⟨rfl,B⟩|⟨i1,g1,h1,rfl,_⟩
     .exact ⟨_,_,by rw [B];rfl⟩
     .exact ⟨_,_,rfl⟩
    have h5:ag w3 (sl 188 2 v Z.length (bE Z)*(pt s (Y #[v] 126 (0,0))*(aL S3 d D'*(ak S3*(pt bj (Y #[ay j] 123 (0,0))*(pt z (Y #[.map (U m)] 177 (0,0))*(pt e (Y #[X W 0 0] 126 (0,0))*(pt f (Y #[V .i64 0] 28 (0,0))*(mp m own*(F*(jk j d r t N*(pt l (.loop K)*C)))))))))))):=
     ((h4.to (by ac_rfl:_=aL g d D'*(sl 188 2 v Z.length (bE Z)*(pt s (Y #[v] 126 (0,0))*(ak S3*(pt bj (Y #[ay j] 123 (0,0))*(pt z (Y #[.map (U m)] 177 (0,0))*(pt e (Y #[X W 0 0] 126 (0,0))*(pt f (Y #[V .i64 0] 28 (0,0))*(mp m own*(F*(jk j d r t N*(pt l (.loop K)*C))))))))))))).fp (vU m0)).to (by ac_rfl)
    have j1:w3.cell? ⟨s,0,W⟩=U v:=h5.ah.cell 0;have l1:=h5.ah.frozen 0;have x0:=h5.alloc (Y #[V .i64 id,X da rl.length dc] 188 (0,0))
    have S0:nG (w3.alloc (Y #[V .i64 id,X da rl.length dc] 188 (0,0))) 2 (X (U ⟨w3.heap.size,0,W⟩) 1 1) 1 [V .i64 id,X da rl.length dc]:=
     ⟨rfl,.inr ⟨_,_,rfl,fun j r1 hu=>by
      rw [Addr.add_lit,S4];exact (x0.cell j).trans (by simpa using hu)⟩⟩
    obtain ⟨v',w',U0,h0,W0⟩:=ag.append (P:=Q) (ty:=126) underlying126 hi hz G0 F0 rfl x0.right S0 (by simp [Value.oneCell']) (by unfold maxLen;omega) (by omega);obtain ⟨aa,ac,rfl⟩:=aC h0;obtain ⟨wa,wc,rfl⟩:=aC h5;have k1:=h0.ah.cell 0;have m1:=h0.ah.frozen 0;have V0:=h0.ah.setCell 0 (X aa (Z.length+1) ac);have D5:=(((b0.trans d3).alloc (Y #[V .i64 id,X da rl.length dc] 188 (0,0))).trans W0).setCell ⟨s,0,W⟩ (X aa (Z.length+1) ac)
    have M:=mw (S:=S) (S':=S3) (d:=d) (m:=m) (bl:=s) (bj:=bj) (bo:=z) (b6:=e) (b7:=f) (j:=j) (own:=own) (J:=N) (D:=D) (ys:=u++[(id,p)]) (F:=F) (G:=jk j d r t N*(pt l (.loop K)*C)) (v:=X aa (Z.length+1) ac) (Z:=Z++[(id,X da rl.length dc,rl)]) (L0.out.trans m0) (by rw [c])
     (by rw [c,J3,HZ.out];rfl) (fun e1 hz=>by
      rcases List.mem_append.1 hz with hz|hz
      .exact (HV.out e1 hz).mono m0
      .rw [List.mem_singleton.1 hz];exact D0) (by
      rw [c];refine V0.to ?_;simp only [K4,L4,Cw,G3,X3,K3,S4])
    have Z0:=ae U0;have r0:=ae M;have q0:=ae D5;clear U0 S0 x0 hi hz G0 F0 h4 h5 h0 V0 M D5 c c1 D0 m0 P W0 k0 s0 u0 d3
    gi_wp2_with (gi_at_builtin;refine df Z0.out _ _ rfl rfl rfl rfl rfl ?_)
    exact ⟨q0.out,r0.out.to (by ac_rfl)⟩
   .have c:=k0.out
    rw [if_neg e0] at c;have h4:=(P.zk e0).2;obtain rfl:=(P.zk e0).1;have q1:(rc == 0)=Y':=by simpa using e0
    have k6:w3.cell? ⟨e,0,W⟩=U (X W 0 0):=h4.dR.cell 0;have f6:w3.frozen? ⟨e,0,W⟩=Y':=h4.dR.frozen 0;have H7:=(h4.dR.setCell 0 (X W 0 0)).ke;have k7:=H7.cell 0;have f7:(w3.setCell ⟨e,0,W⟩ (X W 0 0)).frozen? ⟨f,0,W⟩=Y':=H7.frozen 0;have H8:=H7.setCell 0 (V .i64 rc);simp only [K4,L4] at H8;have D5:=((b0.trans d3).setCell ⟨e,0,W⟩ (X W 0 0)).setCell ⟨f,0,W⟩ (V .i64 rc)
    have M:=zL (S:=S) (S':=g) (j:=j) (d:=d) (r:=r) (t:=t) (m:=m) (b6:=e) (b7:=f) (own:=own) (J:=J) (D:=D) (ys:=u++[(id,p)]) (F:=F) (G:=pt l (.loop K)*C) L0.out (by rw [c];exact e0) (by rw [c]) (by
     rw [c];exact (H8.to (by ac_rfl:_=(pt s (Y #[v] 126 (0,0))*(sl 188 2 v Z.length (bE Z)*(pt bj (Y #[ay j] 123 (0,0))*pt z (Y #[.map (U m)] 177 (0,0)))))*(jk j d r t N*(pt e (Y #[X W 0 0] 126 (0,0))*(pt f (Y #[V .i64 rc] 28 (0,0))*(aL g d D'*(ak g*(mp m own*(F*(pt l (.loop K)*C)))))))))).right)
    have r0:=ae M;have q0:=ae D5;clear hi hz G0 F0 P h4 H7 H8 M D5 c k0 s0 u0 e0 d3
    gi_wp2
    exact ⟨q0.out,(ag.au.2 ⟨rfl,r0.out⟩:ag _ (fact (Code.ret=Code.ret)*_)).to (ax _ _ _).symm⟩
end Go.Proofs.Nn
namespace Go.Proofs.Nn
open Go.RowKit Go.SL
def QL (w:R) (e:Ending) (c:R):Prop:=∃ v,e = .returned v/\ag c (sl 188 2 v 0 []*whole w)/\aj w c
theorem KQ (w:R) (n:Nat) (I:n<=1000000):Calls Q 172 #[X W 0 0,V .i64 (n:Int)] w (QL w):=by
 obtain ⟨F,B,E,C,s⟩:=info_parts mL
 by_cases l:n=0
 .subst l
  go_enter func172,ntmps172
  go_wp2
  go_ret
  exact ⟨_,rfl,(ag.whole w).eC _ _,aj.refl w⟩
 .have c:=fun w=>Lib.run_append_nil_zeros (P:=Q) w 126 3 126 188 F _ .i64 .i64 underlying126 underlying3 B E n (by omega) (by rw [C];decide) (by omega) (by rw [s];omega)
  have z:=grownCap_ge w n 0 188;have f:=grownCap_le_maxLen w n 0 188 (by unfold maxLen;omega);have c:=c w;generalize H:grownCap w n 0 188=e at c z f;generalize o:Builtin.zeroCells (Value.agg #[V .i64 0,X W 0 0]).cells n++Builtin.zeroCells (Value.agg #[V .i64 0,X W 0 0]).cells (e-n)=d at c;have r:d.size=e*2:=by rw [<- o];simp [size_zeroCells,Value.cells];omega
  have u:ag (w.drew.alloc (Y d 188)) (sl 188 2 (X (U ⟨w.heap.size,0,W⟩) 0 e) 0 []*whole w):=by
   have m:=((ag.whole w).drew.alloc (Y d 188 (0,0))).mH (n:=0) (sz:=2) (by omega) f r;simpa using m
  have j:=(aj.refl w).drew.alloc (Y d 188 (0,0));have G:(0:Int)<(n:Int):=by omega
  have h:=ae u;have g:=ae j
  go_enter func172,ntmps172
  go_wp2_with (at_builtin;refine Lib.wpList_append_run _ rfl _ _ _ _ rfl _ _ rfl rfl _ _ c ?_)
  go_ret
  exact ⟨_,rfl,h.out,g.out⟩
def upto {c:Type} (k:Nat) (x y z:c):c:=if k=0 then x else if k=1 then y else z
def Lr (n:Nat) (d:List O) (w:R) (e:Ending) (c:R):Prop:=∃ v,e = .returned v/\ag c (sl 188 2 v n d*whole w)/\aj w c
def Er (n m:Nat) (c d:List O) (w:R) (u i:O) (wr:R):Prop:=
 ∃ k:Nat,k<=2/\i = V .i64 (k:Int)/\ag wr (sl 188 2 u (upto k 0 n (n+m)) (upto k [] c (c++d))*whole w)/\aj w wr
theorem BZ (w:R) (g n m:Nat) (E F:Option Addr) (G H:Nat) (f j:List O) (h0:w.cell? ⟨g,0,W⟩=U (X E n G)) (h1:w.cell? ⟨g,1,W⟩=U (X F m H))
  (hx:nG w 2 (X E n G) n f) (hy:nG w 2 (X F m H) m j) (ox:∀ u ∈ f,u.oneCell'=true) (oy:∀ u ∈ j,u.oneCell'=true) (hn:n<=500000) (hm:m<=500000) :
  Calls Q 126 #[X (U ⟨g,0,W⟩) 2 2] w (Lr (n+m) (f++j) w):=by
 obtain ⟨i0,hi,hz,c0,b0⟩:=info_parts mL;have I:=KQ w (n+m) (by omega);rw [show ((n+m:Nat):Int)=(n:Int)+(m:Int) by omega] at I;have K:=ae hx;have M:=ae hy;have N:=ae ox;have P:=ae oy;have z:=ae hi;have C:=ae hz;have B:=ae c0;have s:=ae b0
 go_enter func126,ntmps126
 go_wp2_with fail
 go_loop [3,11] (fun u i=>∃ k:Nat,k<=2/\i = V .i64 (k:Int)/\u = V .i64 (upto k 0 (n:Int) ((n:Int)+(m:Int)))) (fun _ i=>2-(intOf i).toNat)
 case atStart=>exact ⟨0,by omega,rfl,rfl⟩
 case round=>
  obtain ⟨k,hk,rfl,rfl⟩:=hrel;obtain rfl|rfl|rfl:k=0\/k=1\/k=2:=by omega
  .simp only [upto,if_true]
   go_wp2_with fail
   go_round
   case rel=>exact ⟨1,by omega,by go_num,by simp [upto]⟩
   case measure=>simp [intOf]
  .simp only [upto,if_true,if_neg (show ¬ (1:Nat)=0 by decide)]
   go_wp2_with fail
   go_round
   case rel=>exact ⟨2,by omega,by go_num,by simp [upto]⟩
   case measure=>simp [intOf]
  .simp only [upto,if_neg (show ¬ (2:Nat)=0 by decide),if_neg (show ¬ (2:Nat)=1 by decide)]
   go_wp2_with fail
   (refine I.mono ?_)
   rintro d0 w1 ⟨v,rfl,h2,d2⟩
   go_wp2_with fail
   go_loopw [6,27] (fun u i wr=>Er n m f j w u i wr) (fun _ i _=>2-(intOf i).toNat)
   case atStart=>exact ⟨0,by omega,rfl,h2,d2⟩
   case round=>
    obtain ⟨k,hk,rfl,c,o⟩:=hrel;have k0:=c.bT h0;have k1:=c.bT h1;obtain rfl|rfl|rfl:k=0\/k=1\/k=2:=by omega
    .simp only [upto,if_true] at c
     obtain ⟨va,vc,rfl⟩:=aC c;obtain ⟨v',w',l,e,r⟩:=ag.append (P:=Q) (ty:=126) underlying126 z.out C.out B.out s.out rfl c (K.out.carry fun a u h=>c.bT h) N.out (by unfold maxLen;omega) (by omega);have d:=ae e;have Hd:=ae (o.trans r);obtain ⟨S,bc,rfl⟩:=aC e
     go_wp2_with (at_builtin;refine wpList_append_run l _ _ rfl rfl rfl rfl rfl ?_)
     go_roundw
     case rel=>exact ⟨1,by omega,by go_num,by simpa [upto] using d.out,Hd.out⟩
     case measure=>simp [intOf]
    .simp only [upto,if_true,if_neg (show ¬ (1:Nat)=0 by decide)] at c
     obtain ⟨va,vc,rfl⟩:=aC c;obtain ⟨v',w',l,e,r⟩:=ag.append (P:=Q) (ty:=126) underlying126 z.out C.out B.out s.out rfl c (M.out.carry fun a u h=>c.bT h) P.out (by unfold maxLen;omega) (by omega);have d:=ae e;have Hd:=ae (o.trans r);obtain ⟨S,bc,rfl⟩:=aC e
     go_wp2_with (at_builtin;refine wpList_append_run l _ _ rfl rfl rfl rfl rfl ?_)
     go_roundw
     case rel=>exact ⟨2,by omega,by go_num,by simpa [upto] using d.out,Hd.out⟩
     case measure=>simp [intOf]
    .simp only [upto,if_neg (show ¬ (2:Nat)=0 by decide),if_neg (show ¬ (2:Nat)=1 by decide)] at c
     have d:=ae c;have Hd:=ae o
     go_wp2
     go_ret
     exact ⟨_,rfl,d.out,Hd.out⟩
end Go.Proofs.Nn
namespace Go.SL
open Go.RowKit
abbrev Bl:=List (Int × List UInt8)
def bU (Z:List Wr):Bl:=Z.map fun z=>(z.1,z.2.2)
def kU (L:Bl):List Wr:=L.map fun x=>(x.1,X W 0 0,x.2)
theorem om (L:Bl):bU (kU L)=L:=by
 unfold bU kU;rw [T4];exact List.map_id L
theorem je (Z:List Wr):(bU Z).length=Z.length:=by simp [bU]
theorem fM (Z:List Wr) (k:Nat):(Z.getD k Wr.nil).1=((bU Z).getD k (0,[])).1/\(Z.getD k Wr.nil).2.2=((bU Z).getD k (0,[])).2:=by
 simp only [bU,D3,List.getElem?_map];cases Z[k]? <;> simp [Wr.nil]
theorem Jr.xK (J:Jr) (D:az) {Z Z':List Wr} (h:bU Z=bU Z') (k:Nat):J.bA D Z k=J.bA D Z' k:=by
 have c:Z.length=Z'.length:=by rw [<- je,h,je]
 induction k with
 | zero=>rfl
 | succ k d=>
  rw [Jr.bA,Jr.bA,d,(fM Z k).1,(fM Z k).2,(fM Z' k).1,(fM Z' k).2,h,c]
theorem CI {Z Z':List Wr} (h:bU Z=bU Z') (k:Nat):eV Z k=eV Z' k:=by
 induction k with
 | zero=>rfl
 | succ k c=>rw [eV,eV,c,(fM Z k).1,(fM Z' k).1,h]
def Jr.fC (J:Jr) (L:Bl):Nat->Tb
 | 0=>J.T
 | k+1=>((Jr.fC J L k).put (L.getD k (0,[])).1 ((J.hd+(k:Int))%(J.P:Int))).2
def Jr.aO (J:Jr) (n:Nat):Int:=if J.us<2*(n:Int) then J.us else 2*(n:Int)
def Jr.done (J:Jr) (L:Bl) (c:Int):Jr:=
 { J with T:=J.fC L L.length,sq:=J.sq+1,hd:=(J.hd+(L.length:Int))%(J.P:Int),us:=J.us+((L.length:Int)-c),fr:=c }
structure Tb.Gz (T:Tb):Prop where
 os:∀ v ∈ T.os,v=-1\/(0<=v/\v<T.ps.length)
theorem mem_set {l:List Int} {i:Nat} {x v:Int} (h:v ∈ l.set i x):v=x\/v ∈ l:=by grind
theorem Tb.Jy {T:Tb} (h:T.Gz) (id p:Int):(T.put id p).2.Gz:=by
 refine ⟨fun v c=>?_⟩;rw [(T.nh id p).1];unfold Tb.put at c
 split at c
 .rename_i d
  rcases mem_set c with c|c
  .exact .inr ⟨by omega,by omega⟩
  .unfold Tb.drop at c
   split at c
   .rcases mem_set c with c|c
    .exact .inl c
    .exact h.os v c
   .exact h.os v c
 .exact h.os v c
theorem Jr.sL (J:Jr) (L:Bl) (k:Nat):(J.fC L k).ps.length=J.T.ps.length/\(J.fC L k).os.length=J.T.os.length:=by
 induction k with
 | zero=>exact ⟨rfl,rfl⟩
 | succ k c=>exact ⟨((Jr.fC J L k).nh _ _).1.trans c.1,((Jr.fC J L k).nh _ _).2.trans c.2⟩
theorem Jr.Fg {J:Jr} (h:J.T.Gz) (L:Bl) (k:Nat):(J.fC L k).Gz:=by
 induction k with
 | zero=>exact h
 | succ k c=>exact Tb.Jy c _ _
structure Jr.Jc (J:Jr):Prop where
 Re:1<=J.ep
 Rg:J.ep<4294967296
 PQ:1<=J.st
 aQ:J.st<=J.sq+1
 PL:0<=J.sq
 RC:J.sq<=281474976710655
 n1:J.n<=3840
 own:J.T.Gz
theorem Jr.Jc.numbers {J:Jr} (h:J.Jc) (c:J.sq<281474976710655):J.sb:=⟨h.Re,h.Rg,h.PQ,h.aQ,h.PL,c⟩
theorem Jr.fi {J:Jr} (c:0<=J.us) (n:Nat):0<=J.aO n/\J.aO n<=J.us/\J.aO n<=2*n:=by
 unfold Jr.aO
 split <;> omega
end Go.SL
namespace Go.Proofs.Nn
open Go.RowKit Go.SL
variable {w:R}
theorem C0 {J:Jr} (h:J.T.Ok) (L:Bl) (k:Nat):(J.fC L k).Ok:=by
 induction k with
 | zero=>exact h
 | succ k c=>exact Tb.Iw c _ _
def eF (J:Jr) (D:az) (L:Bl):Mv:=J.bQ D (eV (kU L) L.length) (bN J.T J.P (Jr.tail J) (J.aO L.length).toNat)
def tT (J:Jr) (D:az) (L:Bl):Int × Jr × az:=
 if (eF J D L).1.1≠0 then ((eF J D L).1.1,(eF J D L).2)
 else if (J.P:Int)-J.us-J.fr<((L++(eF J D L).1.2).length:Int) then (9,J,(eF J D L).2.2)
 else if (J.bA (eF J D L).2.2 (kU (L++(eF J D L).1.2)) (L++(eF J D L).1.2).length).1≠0 then
  ((J.bA (eF J D L).2.2 (kU (L++(eF J D L).1.2)) (L++(eF J D L).1.2).length).1,{ J with br:=true },(J.bA (eF J D L).2.2 (kU (L++(eF J D L).1.2)) (L++(eF J D L).1.2).length).2)
 else (0,J.done (L++(eF J D L).1.2) (J.aO L.length),(J.bA (eF J D L).2.2 (kU (L++(eF J D L).1.2)) (L++(eF J D L).1.2).length).2)
def eB (J:Jr) (D:az) (ok:Bool) (L:Bl):Int × Jr × az:=
 if ok=Y' then (1,J,D)
 else if 281474976710655<=J.sq then (12,J,D)
 else if (J.flush D).1≠0 then J.flush D
 else tT J (J.flush D).2.2 L
theorem Fk {J:Jr} {D:az} (h:(J.flush D).1=0):(J.flush D).2.1=J/\(J.flush D).2.2=D.flush.2/\J.br=Y'/\D.flush.1=0:=by
 unfold Jr.flush at h ⊢
 split
 .rename_i c;rw [if_pos c] at h;exact absurd h (show (2:Int)≠0 by decide)
 .rename_i c
  rw [if_neg c] at h
  split
  .rename_i d;exact ⟨rfl,rfl,by simpa using c,d⟩
  .rename_i d;rw [if_neg d] at h;exact absurd h (show (2:Int)≠0 by decide)
theorem EV {J:Jr} (r:J.Ok) (j:J.Jc) {D:az} {own:KV} {P first m:Nat}:∀ x ∈ (J.bQ D own (bN J.T P first m)).1.2,0<=x.1/\x.1<3840:=by
 have B:∀ y ∈ bN J.T P first m,0<=y.1/\y.1<3840:=by
  intro y E;obtain ⟨p,_,d⟩:=List.mem_filterMap.1 E
  cases f:told J.T.os (p:Int) with
  | none=>rw [f] at d;cases d
  | some id=>
   rw [f] at d;injection d with d
   obtain ⟨k,_,l,C,w⟩:=qB f;have u:id ∈ J.T.os:=by rw [<- C,D3,H3 l];exact Q3 l
   have:=j.n1;have:=r.ps;rcases j.own.os id u with e|⟨o,H⟩
   .exact absurd e w
   .rw [<- d];exact ⟨o,by show id<3840;omega⟩
 have:∀ (L:List (Int × Int)) (s:Mv),(∀ y ∈ L,0<=y.1/\y.1<3840)->(∀ x ∈ s.1.2,0<=x.1/\x.1<3840)->∀ x ∈ (L.foldl (Jr.cM own) s).1.2,0<=x.1/\x.1<3840:=by
  intro L
  induction L with
  | nil=>intro s _ h;exact h
  | cons y L G=>
   intro s g h;rw [U4];refine G _ (fun z F=>g z (V4 _ F)) ?_;unfold Jr.cM
   split
   .exact h
   .split
    .exact h
    .split
     .intro x c
      rcases List.mem_append.1 c with c|c
      .exact h x c
      .rw [List.mem_singleton.1 c];exact g y W4
     .intro x c;cases c
 exact this _ _ B (by simp)
def MW (S:Hp) (j d:Nat) (c:Int × Jr × az) (F:ai) (w:R) (e:Ending) (g:R):Prop:=
 ∃ f,Ext S f/\e = .returned (V .i64 c.1)/\ag g (nY j d c.2.1*(aL f d c.2.2*(ak f*F)))/\aj w g
theorem PE {v:O} {Z:List Wr} (h:Rf w v Z):nG w 2 v Z.length (bE Z):=by
 refine ⟨oD Z,?_⟩;rcases h with ⟨rfl,rfl⟩|⟨g,o,c,rfl,_,_,r⟩
 .exact .inl ⟨rfl,rfl⟩
 .refine .inr ⟨_,_,rfl,fun i u d=>?_⟩
  have B:=oD Z;have z:i<Z.length*2:=by grind
  rw [Addr.add_lit];obtain ⟨k,s⟩:∃ k,i=k*2\/i=k*2+1:=⟨i/2,by omega⟩
  have e:k<Z.length:=by omega
  obtain ⟨l,m⟩:=wC Z k e;obtain ⟨f,j⟩:=r k e;rw [D3,H3 e] at f j;rcases s with rfl|rfl
  .rw [l] at d;injection d with d;rw [<- d];exact f
  .rw [m] at d;injection d with d;rw [<- d];exact j
theorem wI (Z:List Wr) (h:∀ z ∈ Z,∃ a n c,z.2.1 = X a n c):∀ u ∈ bE Z,u.oneCell'=true:=by
 intro u d;obtain ⟨z,f,d⟩:=List.mem_flatMap.1 d;obtain ⟨a,n,c,e⟩:=h z f;simp only [List.mem_cons,List.not_mem_nil,or_false] at d;rcases d with rfl|rfl
 .rfl
 .rw [e];rfl
theorem vY {T:TypeId} {v:O} {Z:List Wr} {F:ai} (h:ag w (sl T 2 v Z.length (bE Z)*F)):Rf w v Z:=by
 rcases h.de with ⟨rfl,e,_,_⟩|⟨g,d,o,rfl,f,j,r,s,_⟩
 .exact .inl ⟨rfl,List.eq_nil_of_length_eq_zero e⟩
 .refine .inr ⟨g,0,d,rfl,f,j,fun k c=>?_⟩
  obtain ⟨l,m⟩:=h.js c;rw [S4,D3,H3 c];exact ⟨l,m⟩
theorem Ju {n:Int} {Z:List Wr} (h:Ej n Z) {z:Wr} (d:z ∈ Z):0<=z.1/\z.1<n/\z.2.2.length=480:=by
 obtain ⟨k,c,rfl⟩:=List.getElem_of_mem d;have:=h.ok k c;unfold okW at this;rw [D3,H3 c] at this;exact ⟨this.1,this.2.1,this.2.2.1⟩
theorem Ck {T:TypeId} {S:Hp} {v:O} {l:List UInt8} (h:pF T S v l):∃ a n c,v = X a n c:=by
 rcases h.2 with ⟨rfl,_⟩|⟨g,d,e,rfl,_⟩ <;> exact ⟨_,_,_,rfl⟩
theorem Cb {D:az} (h:D.flush.1=0):D.flush.2.wait=[]:=by
 unfold az.flush at h ⊢
 split
 .rfl
 .rename_i c;rw [if_neg c] at h;exact absurd h (show (2:Int)≠0 by decide)
theorem uZ:∀ c w,(callFunc 130 c).run Q w = .ok (.enter 130 c) w:=enters func130 (by kernel_rfl) rfl
def AW (n t:Nat) (J:Jr) (L:Bl) (c:ai) (w:R) (i:O) (wr:R):Prop:=
 ∃ k:Nat,k<=n/\i = V .i64 (k:Int)/\ag wr (bB t (J.fC L k)*c)/\aj w wr
theorem y0 (w:R) (S:Hp) (j d:Nat) (J:Jr) (D:az) (F:ai) (v:O) (Z:List Wr) (h:ag w (nY j d J*(aL S d D*(ak S*F)))) (G:J.Ok) (hN:J.Jc) (hD:D.Ok)
  (hl:Z.length<=1000000) (hr:Reads S v Z F) (u0:Bool) (K:u0=true↔Ej J.n Z) :
  Calls Q 74 #[ay j,v] w (MW S j d (eB J D u0 (bU Z)) F w):=by
 have hv:=hr S (nY j d J*aL S d D) w (Ext.refl S) (h.to (by ac_rfl));have L1:∀ z ∈ Z,∃ a l0,z.2.1 = X a z.2.2.length l0:=fun z o=>(hv.2 z o).shape;have hb:=Bz w j d J _ h v Z hv.1 L1 hl u0 K
 obtain ⟨aa,ac,L2⟩:∃ aa ac,v = X aa Z.length ac:=by
  rcases hv.1 with ⟨rfl,h⟩|⟨W1,n3,l0,rfl,_⟩
  .rw [h];exact ⟨_,_,rfl⟩
  .exact ⟨_,_,rfl⟩
 subst L2;obtain ⟨x,hx⟩:=h.qE;obtain ⟨t,hx⟩:=hx;have c6:w.cell? ⟨j,6,W⟩=U (V .u64 J.sq):=hx.cell 6;clear hx hv;obtain ⟨V0,f⟩:∃ V0,V0=eB J D u0 (bU Z):=⟨_,rfl⟩
 rw [<- f];unfold eB at f
 cases u0 with
 | false=>
  have HR:=ae hr;rw [if_pos rfl] at f;have m:=ae f;clear K hr c6 f
  go_enter func74,ntmps74
  go_wp2_with fail
  (with_reducible refine hb.mono ?_)
  rintro e w1 ⟨rfl,B,d1⟩;have h2:=B.dU h;clear hb B
  go_wp2
  go_ret
  exact ⟨S,Ext.refl S,by rw [m.out];rfl,by rw [m.out];exact h2,d1⟩
 | true=>
  have K0:=K.1 rfl;rw [if_neg (by simp)] at f
  by_cases hq:281474976710655<=J.sq
  .rw [if_pos hq] at f
   have m:=ae f;have HM:=ae K0;have HR:=ae hr;clear K K0 hr f
   go_enter func74,ntmps74
   go_wp2_with fail
   (with_reducible refine hb.mono ?_)
   rintro e w1 ⟨i0,rfl,B,d1⟩;have h2:=(B.under h).right;have t1:w1.cell? ⟨j,6,W⟩=U (V .u64 J.sq):=B.bT c6;clear hb B h c6
   go_wp2
   go_ret
   exact ⟨S,Ext.refl S,by rw [m.out];rfl,by rw [m.out];exact h2,d1⟩
  .rw [if_neg hq] at f
   have T2:=hN.numbers (by omega);have Y2:Z.length<=24:=K0.n1;have Z2:(Z.length:Int)<=24:=by omega
   have HM:=ae K0;have HR:=ae hr;have m:=ae f;clear K K0 hr f
   go_enter func74,ntmps74
   go_wp2_with fail
   (with_reducible refine hb.mono ?_)
   rintro e w1 ⟨i0,rfl,B,d1⟩;have h2:=B.under h;have t1:w1.cell? ⟨j,6,W⟩=U (V .u64 J.sq):=B.bT c6;clear hb B h c6;have g0:=tQ w1 S j d J D (ak S*(mp i0 (eV Z Z.length)*F)) (h2.to (by ac_rfl)) hD
   by_cases P:(J.flush D).1=0
   .obtain ⟨e1,e2,M2,k2⟩:=Fk P
    have f:=m.out;rw [if_neg (by simpa using P)] at f;clear m;have Z0:(J.flush D).2.2.Ok:=by rw [e2];exact (az.gH hD).ok hD (by have:=hD.many;omega)
    have M1:(J.flush D).2.2.wait=[]:=by rw [e2];exact Cb k2
    have o2:eV (kU (bU Z)) (bU Z).length=eV Z Z.length:=by rw [je];exact CI (om _) _
    have H1:=Jr.fi G.BM Z.length;have m3:=G.Po;have g1:=fun (w2:R) (r0 t:Nat) h=>B0 w2 S j d r0 t i0 J (J.flush D).2.2 (eV Z Z.length) (J.aO Z.length).toNat F h G Z0 (by omega);rw [Y3 H1.1] at g1;have i2:J.flush D=(0,J,(J.flush D).2.2):=Prod.ext P (Prod.ext e1 rfl);unfold tT eF at f;rw [o2,je] at f;generalize (J.flush D).2.2=D1 at *;rw [i2] at g0;have f2:=Jr.tV (J:=J) (D:=D1) (own:=eV Z Z.length) (L:=bN J.T J.P (Jr.tail J) (J.aO Z.length).toNat);have a1:=Jr.rO J Z0 (eV Z Z.length) (bN J.T J.P (Jr.tail J) (J.aO Z.length).toNat);have z1:=Jr.wL (J:=J) (D:=D1) (own:=eV Z Z.length) (bN J.T J.P (Jr.tail J) (J.aO Z.length).toNat);have c2:=EV G hN (D:=D1) (own:=eV Z Z.length) (P:=J.P) (first:=Jr.tail J) (m:=(J.aO Z.length).toNat);have Y1:=Ff (J:=J) (D:=D1) (own:=eV Z Z.length) (L:=bN J.T J.P (Jr.tail J) (J.aO Z.length).toNat)
    replace z1:(J.bQ D1 (eV Z Z.length) (bN J.T J.P (Jr.tail J) (J.aO Z.length).toNat)).1.2.length<=48:=by
     have:=jV J.T J.P (Jr.tail J) (J.aO Z.length).toNat;omega
    generalize J.bQ D1 (eV Z Z.length) (bN J.T J.P (Jr.tail J) (J.aO Z.length).toNat)=k0 at *;have Z1:k0.2.2.Ok:=a1.ok Z0 (by rw [M1];simp);have g2:k0.2.2.wait.length=0:=by have:=a1.many;rw [M1] at this;simpa using this
    have hc:(J.us<2*(Z.length:Int)/\J.aO Z.length=J.us)\/(¬ J.us<2*(Z.length:Int)/\J.aO Z.length=2*(Z.length:Int)):=by
     unfold Jr.aO
     split
     .exact .inl ⟨by assumption,rfl⟩
     .exact .inr ⟨by assumption,rfl⟩
    have m:=ae f;have W2:=ae H1;have m1:=ae a1;have U0:=ae z1;have T0:=ae c2;have S0:=ae Y1;have l1:=ae Z1;have p1:=ae g2;have o1:=ae f2;clear P e1 e2 k2 M2 o2 h2 f i2 H1 Z0 M1 a1 z1 c2 Y1 Z1 g2 f2;rcases hc with ⟨N2,c1⟩|⟨N2,c1⟩
    all_goals
     have D2:=ae c1;rw [c1] at g1;clear c1
     go_wp2_with fail
     (with_reducible refine g0.mono ?_)
     rintro e w2 ⟨rfl,h3,d2⟩;obtain ⟨r0,t,h4⟩:=h3.CV;have k8:w2.cell? ⟨j,8,W⟩=U (V .i64 J.us):=h4.CK.cell 8;have n2:=g1 w2 r0 t h4;clear g1 g0 h3 t1 h4
     go_wp2_with fail
     (with_reducible refine n2.mono ?_)
     rintro e w3 ⟨E,v3,g,m0,rfl,F0,E1,h5,d3⟩;clear n2 k8
     by_cases o0:k0.1.1=0
     .have a2:=o1.out o0
      obtain ⟨⟨mc,ml⟩,c,mD⟩:=k0;dsimp only at o0 a2 F0 h5 m m1 U0 T0 S0 l1 p1;subst o0 a2;have f:=m.out;rw [if_neg (by simp)] at f;obtain ⟨va,vc,rfl⟩:=aC h5.aD;have C:=h5.alloc (Y #[X aa Z.length ac,X va g.length vc] 126 (0,0));have dA:=((d1.trans d2).trans d3).alloc (Y #[X aa Z.length ac,X va g.length vc] 126 (0,0));have p2:=HR.out E (pt w3.heap.size (Y #[X aa Z.length ac,X va g.length vc] 126 (0,0))*(jk j d r0 t c*(aL E d mD*(sl 188 2 (X va g.length vc) g.length (bE g)*mp i0 (eV Z Z.length))))) _ m0 (C.to (by ac_rfl));have b3:g.length<=48:=by have:=U0.out;rw [<- F0,L3] at this;exact this
      have G0:=BZ (w3.alloc (Y #[X aa Z.length ac,X va g.length vc] 126 (0,0))) w3.heap.size Z.length g.length aa va ac vc (bE Z) (bE g) (C.cell 0) (C.cell 1) (PE p2.1) C.aI.nH
       (wI Z fun z o=>by obtain ⟨a,l0,e⟩:=L1 z o;exact ⟨a,_,l0,e⟩) (wI g fun z o=>Ck (E1 z o)) (by omega) (by omega)
      have e5:bE Z++bE g=bE (Z++g):=by simp [bE]
      have e6:bU Z++ml=bU (Z++g):=by rw [<- F0];simp [bU]
      rw [e5] at G0;rw [e6,je,Jr.xK c (Z:=kU (bU (Z++g))) (Z':=Z++g) mD (om _),G3] at f;have S2:Z.length+g.length<=72:=by omega
      have K1:∀ z ∈ Z++g,0<=z.1/\z.1<3840/\z.2.2.length=480:=by
       intro z o;rcases List.mem_append.1 o with o|o
       .have:=Ju HM.out o
        have:=hN.n1;exact ⟨by omega,by omega,by omega⟩
       .have hm:(z.1,z.2.2) ∈ ml:=by rw [<- F0];exact List.mem_map.2 ⟨z,o,rfl⟩
        have B:=T0.out _ hm;exact ⟨B.1,B.2,S0.out _ hm⟩
      have N0:∀ v5,Reads E v5 (Z++g) (sl 188 2 v5 (Z++g).length (bE (Z++g))*F):=by
       intro v5 S' X0 w' e hs;refine ⟨vY (hs.to (by ac_rfl:_=sl 188 2 v5 (Z++g).length (bE (Z++g))*(X0*(ak S'*F)))),fun z o=>?_⟩;rcases List.mem_append.1 o with o|o
       .exact (HR.out S' (X0*sl 188 2 v5 (Z++g).length (bE (Z++g))) w' (m0.trans e) (hs.to (by ac_rfl))).2 z o
       .exact ((E1 z o).mono e).rd hs.ah
      have H0:(Z++g).length=Z.length+g.length:=G3;rw [H0] at N0;generalize Z++g=l at G0 f K1 N0 H0;generalize Z.length+g.length=r at G0 f S2 N0 H0;have e0:=ae f;have E2:=ae K1;have r1:=ae N0;have D0:=ae H0;have S1:=ae C;have g3:(r:Int)<=72:=by omega
      clear f m p2 e5 e6 K1 N0 H0 h5 E1 F0 m1 U0 T0 S0 o1 HR HM C L1
      go_wp2_with fail
      (with_reducible refine G0.mono ?_)
      rintro e w5 ⟨v5,rfl,h6,d6⟩
      have H7:ag w5 (nY j d c*(aL E d mD*(ak E*(sl 188 2 v5 r (bE l)*F)))):=
       ((h6.under S1.out).to (by ac_rfl:_=(pt w3.heap.size (Y #[X aa Z.length ac,X va g.length vc] 126 (0,0))*(sl 188 2 (X va g.length vc) g.length (bE g)*mp i0 (eV Z Z.length)))*(jk j d r0 t c*(aL E d mD*(ak E*(sl 188 2 v5 r (bE l)*F)))))).right.Dt
      have D7:=dA.trans d6;obtain ⟨ba,bc,rfl⟩:=aC h6;have t2:=Ka w5 j d c _ H7 G;clear G0 S1 h6 d6 dA d1 d2 d3
      go_wp2_with fail
      (with_reducible refine t2.mono ?_)
      rintro e w6 ⟨rfl,h8,d8⟩;have H8:=h8.dU H7;have D8:=D7.trans d8;clear t2 h8 d8 H7 D7
      by_cases m2:(c.P:Int)-c.us-c.fr<(r:Int)
      .have f:=e0.out
       rw [if_pos m2] at f;have f0:=ae f;have v2:=ae H8;clear f e0 H8
       go_wp2
       go_ret
       exact ⟨E,m0,by rw [f0.out];rfl,by rw [f0.out];exact (v2.out.to (by ac_rfl:_=sl 188 2 (X ba r bc) r (bE l)*(nY j d c*(aL E d mD*(ak E*F))))).right,D8⟩
      .have f:=e0.out
       rw [if_neg m2] at f;have R0:=A2 w6 E j d c mD _ (X ba r bc) l H8 G T2 l1.out (by have:=p1.out;have:=D0.out;omega) (by have:=D0.out;omega) E2.out (r1.out _);rw [D0.out] at R0;generalize hW:c.bA mD l r=W0 at R0 f;obtain ⟨rc,D4⟩:=W0;dsimp only at R0 f;have f0:=ae f;clear f e0 H8 hW
       go_wp2_with fail
       (with_reducible refine R0.mono ?_)
       rintro e w7 ⟨H,y1,rfl,s,d9⟩;have D9:=D8.trans d9;clear R0 d9 D8
       by_cases h0:rc=0
       .have f:=f0.out
        dsimp only at s;rw [if_neg (by simpa using h0)] at f;rw [if_pos h0] at s;subst h0;have u2:∀ z ∈ l,∃ a l0,z.2.1 = X a z.2.2.length l0:=fun z o=>((r1.out _ H (nY j d c*aL H d D4) w7 y1 (s.to (by ac_rfl))).2 z o).shape;obtain ⟨u,t4,X1⟩:=s.CV;obtain ⟨T1,A1⟩:∃ X0,X0=aL H d D4*(ak H*F):=⟨_,rfl⟩
        have O1:ag w7 (bB t4 (c.fC (bU l) 0)*(pt j (Y (c.cells d u t4) 183 (0,0))*(bL u (bZ c.P)*(sl 188 2 (X ba r bc) r (bE l)*T1)))):=
         X1.CK.to (by rw [A1];show _=bB t4 c.T*_;ac_rfl)
        have y2:=ae A1;have J2:=ae u2;have x0:=ae f;clear s X1 A1 u2 f f0 r1
        go_wp2_with fail
        go_loopw [70] (fun i wr=>AW r t4 c (bU l) (pt j (Y (c.cells d u t4) 183 (0,0))*(bL u (bZ c.P)*(sl 188 2 (X ba r bc) r (bE l)*T1))) w i wr) (fun i _=>r-(intOf i).toNat)
        case atStart=>exact ⟨0,Nat.zero_le _,rfl,O1,D9⟩
        case round=>
         clear O1 D9;obtain ⟨k,hk,rfl,q0,h1⟩:=hrel
         by_cases c3:k<r
         .have f3:(k:Int)<(r:Int):=by omega
          have O2:=D0.out;have f1:k<l.length:=by omega
          obtain ⟨W1,gc,hg⟩:=pN q0.aD (by omega);obtain ⟨rfl,rfl⟩:ba=U ⟨W1,0,W⟩/\bc=gc:=by injection hg with e1 e2 e3;exact ⟨e1,e3⟩
          obtain ⟨q1,q2⟩:=q0.aD.js f1;obtain ⟨da,dc,hd⟩:=J2.out _ (Q3 f1);have p0:=(fM l k).1;rw [D3,H3 f1,N4] at p0;have U2:=Tb.nh;have i1:c.fC (bU l) (k+1)=((c.fC (bU l) k).put l[k].1 ((c.hd+(k:Int))%(c.P:Int))).2:=by rw [p0];rfl
          have j2:=C0 G.T (bU l) k;generalize l[k]=z at q1 q2 hd i1;obtain ⟨id,dv,db⟩:=z;dsimp only at q1 q2 hd i1;subst hd;generalize db.length=dl at q2;have C:=q0.alloc (Y #[V .i64 id,X da dl dc] 188 (0,0));have dA:=h1.alloc (Y #[V .i64 id,X da dl dc] 188 (0,0));have K2:=ae i1;have z2:=ae j2;clear q0 h1 i1 j2 p0 U2 O2 f1 hg
          go_wp2_with fail
          generalize wr.alloc (Y #[V .i64 id,X da dl dc] 188 (0,0))=I at C dA ⊢;generalize wr.heap.size=bw at C ⊢;have s0:I.cell? ⟨bw,0,W⟩=U (V .i64 id):=C.cell 0;have s1:I.cell? ⟨j,1,W⟩=U (ay u):=C.aq.cell 1;have s2:I.cell? ⟨j,2,W⟩=U (ay t4):=C.aq.cell 2;have s7:I.cell? ⟨j,7,W⟩=U (V .i64 c.hd):=C.aq.cell 7;have v1:=ag.drew C;have c0:=xk I.drew u (bZ c.P) c.hd (k:Int) _ v1.aD (by rw [aP];exact G.p0) (by rw [aP];have:=G.p1;omega);rw [aP] at c0;have L0:=eO I.drew t4 (c.fC (bU l) k) id ((c.hd+(k:Int))%(c.P:Int)) _ v1.ah z2.out;rw [<- K2.out] at L0;generalize (c.hd+(k:Int))%(c.P:Int)=pl at c0 L0;generalize ((c.fC (bU l) k).put id pl).1=pb at L0;clear C v1 q1 q2
          go_region_held3 (fun w'=>w'.cell? ⟨bw,0,W⟩=U (V .i64 id)/\w'.cell? ⟨j,1,W⟩=U (ay u)/\w'.cell? ⟨j,2,W⟩=U (ay t4)/\w'.cell? ⟨j,7,W⟩=U (V .i64 c.hd)) (first|(with_reducible exact ⟨b0,b1,b2,b7⟩)|exact ⟨s0,s1,s2,s7⟩) (first
           | (go_at_call 130;(with_reducible refine c0.mono ?_);rintro e N ⟨rfl,rfl⟩)
           | (go_at_call 129;(with_reducible refine L0.mono ?_);rintro e N ⟨rfl,s,d9⟩;have b0:N.cell? ⟨bw,0,W⟩=U (V .i64 id):=s.ah.cell 0;have b1:N.cell? ⟨j,1,W⟩=U (ay u):=s.aq.cell 1;have b2:N.cell? ⟨j,2,W⟩=U (ay t4):=s.aq.cell 2;have b7:N.cell? ⟨j,7,W⟩=U (V .i64 c.hd):=s.aq.cell 7))
          have H9:=ae s.ig;have DD:=ae (dA.drew.trans d9);clear s d9 dA c0 L0 s0 s1 s2 s7 b0 b1 b2 b7
          go_wp2
          go_roundw
          case rel=>exact ⟨k+1,by omega,by go_num,H9.out,DD.out⟩
          case measure=>simp [intOf];omega
         .obtain rfl:k=r:=by omega
          have K:=q0.ah;have k6:wr.cell? ⟨j,6,W⟩=U (V .u64 c.sq):=K.cell 6;have f6:=K.frozen 6;have M:=K.setCell 6 (V .u64 (c.sq+1));have u1:=h1.setCell ⟨j,6,W⟩ (V .u64 (c.sq+1))
          have i3:IntKind.u64.wrap (c.sq+1)=c.sq+1:=by
           have:=hN.PL;rw [IntKind.wrap_u64];omega
          have j1:=ae M;clear q0 h1 K M
          go_wp2_with fail
          generalize wr.setCell ⟨j,6,W⟩ (V .u64 (c.sq+1))=I at j1 u1 ⊢;have M:=j1.out;have s1:I.cell? ⟨j,1,W⟩=U (ay u):=M.cell 1;have s7:I.cell? ⟨j,7,W⟩=U (V .i64 c.hd):=M.cell 7;have f7:=M.frozen 7;have P2:=M.lt;have c0:=xk I.drew u (bZ c.P) c.hd (k:Int) _ (M.aq.drew) (by rw [aP];exact G.p0) (by rw [aP];have:=G.p1;omega);rw [aP] at c0;generalize p0:(c.hd+(k:Int))%(c.P:Int)=pl at c0;have d0:=M.setCell 7 (V .i64 pl);have V2:(I.setCell ⟨j,7,W⟩ (V .i64 pl)).cell? ⟨j,1,W⟩=U (ay u):=d0.cell 1;have U1:=(u1.setCell ⟨j,7,W⟩ (V .i64 pl)).drew;have k1:=ae (ag.drew d0);have H2:=ae p0;clear M j1 d0 p0 k6 f6 u1
          go_region_law (refine nI c0 uZ rfl _ _ rfl (by rfl) ?_;rintro e N ⟨rfl,rfl⟩;refine ⟨_,rfl,?_⟩)
          all_goals
           clear s1 V2 s7 f7 P2 c0;generalize (I.setCell ⟨j,7,W⟩ (V .i64 pl)).drew=N at k1 U1 ⊢;have d0:=k1.out;have s8:N.cell? ⟨j,8,W⟩=U (V .i64 c.us):=d0.cell 8;have f8:=d0.frozen 8;have Y0:=d0.setCell 8 (V .i64 (c.us+((k:Int)-c.aO Z.length)));have s9:(N.setCell ⟨j,8,W⟩ (V .i64 (c.us+((k:Int)-c.aO Z.length)))).cell? ⟨j,9,W⟩=U (V .i64 c.fr):=Y0.cell 9;have f9:=Y0.frozen 9;have x1:=Y0.setCell 9 (V .i64 (c.aO Z.length));have V1:=(U1.setCell ⟨j,8,W⟩ (V .i64 (c.us+((k:Int)-c.aO Z.length)))).setCell ⟨j,9,W⟩ (V .i64 (c.aO Z.length))
           have l2:ag ((N.setCell ⟨j,8,W⟩ (V .i64 (c.us+((k:Int)-c.aO Z.length)))).setCell ⟨j,9,W⟩ (V .i64 (c.aO Z.length))) (nY j d V0.2.1*(aL H d V0.2.2*(ak H*F))):=by
            rw [x0.out];rw [<- H2.out,y2.out] at x1;have hL:(bU l).length=k:=by rw [je];exact D0.out
            have e:(c.cells d u t4).setIfInBounds 6 (V .u64 (c.sq+1))=(c.cells d u t4).setIfInBounds 6 (V .u64 (c.sq+1)):=rfl;have B:=(x1.to (by ac_rfl:_=sl 188 2 (X ba k bc) k (bE l)*(pt j (Y (((((c.cells d u t4).setIfInBounds 6 (V .u64 (c.sq+1))).setIfInBounds 7 (V .i64 ((c.hd+(k:Int))%(c.P:Int)))).setIfInBounds 8 (V .i64 (c.us+((k:Int)-c.aO Z.length)))).setIfInBounds 9 (V .i64 (c.aO Z.length))) 183 (0,0))*(bL u (bZ c.P)*(bB t4 (c.fC (bU l) k)*(aL H d D4*(ak H*F))))))).right;refine ag.wV (r:=u) (t:=t4) ?_;unfold Jr.done;rw [hL];exact B
           have R1:=ae l2;have N1:=ae V1;rw [D2.out] at R1 N1 s9 f9;have X2:(c.P:Int)<=20000:=by have:=G.p1;omega
           have l3:=G.BM;clear d0 k1 Y0 x1 V1 l2
           go_wp2
           go_ret
           exact ⟨H,m0.trans y1,by rw [x0.out];rfl,R1.out,N1.out⟩
       .have r2:(rc == 0)=Y':=by simpa using h0
        have f:=f0.out;dsimp only at s;rw [if_pos h0] at f;rw [if_neg h0] at s;have x0:=ae f;have x2:=ae s;clear f f0 s h0
        go_wp2
        go_ret
        exact ⟨H,m0.trans y1,by rw [x0.out];rfl,by rw [x0.out];exact (x2.out.to (by ac_rfl:_=sl 188 2 (X ba r bc) r (bE l)*(nY j d { c with br:=true }*(aL H d D4*(ak H*F))))).right,D9⟩
     .have R2:(k0.1.1 == 0)=Y':=by simpa using o0
      have f:=m.out;rw [if_pos o0] at f;obtain ⟨⟨mc,ml⟩,c,mD⟩:=k0;dsimp only at R2 h5 f;have e0:=ae f;clear o0 f m m1 U0 T0 S0 l1 p1 o1
      go_wp2
      go_ret
      exact ⟨E,m0,by rw [e0.out];rfl,by rw [e0.out];exact (h5.to (by ac_rfl:_=(sl 188 2 v3 g.length (bE g)*mp i0 (eV Z Z.length))*(jk j d r0 t c*(aL E d mD*(ak E*F))))).right.Dt,(d1.trans d2).trans d3⟩
   .have f:=m.out
    rw [if_pos P] at f;clear m;generalize hR:J.flush D=W0 at g0 P f;have r2:(W0.1 == 0)=Y':=by simpa using P
    obtain ⟨rc,J',D'⟩:=W0;dsimp only at g0 r2 P;have m:=ae f;clear hR P h2 f
    go_wp2_with fail
    (with_reducible refine g0.mono ?_)
    rintro e w2 ⟨rfl,h3,d2⟩;clear g0 t1
    go_wp2
    go_ret
    exact ⟨S,Ext.refl S,by rw [m.out];rfl,by rw [m.out];exact (h3.to (by ac_rfl:_=mp i0 (eV Z Z.length)*_)).right,d1.trans d2⟩
end Go.Proofs.Nn
namespace Go.SL
open Go.RowKit
variable {α:Type}
theorem Ku (t:Tg) (k:Nat):(pK t k).length=kR k:=by
 induction k with
 | zero=>rfl
 | succ k c=>rw [kC,G3,c,aU,qU]
theorem Ei (t:Tg) (k:Nat) (f:k<9):∃ rest,enc t=pK t k++(dg (t.field k) (dQ k)++rest):=by
 obtain ⟨m,c⟩:∃ m,9=k+1+m:=⟨8-k,by omega⟩
 unfold enc;rw [c];clear c
 induction m with
 | zero=>exact ⟨[],by rw [Nat.add_zero,kC,List.append_nil]⟩
 | succ m e=>
  obtain ⟨r,d⟩:=e;exact ⟨r++dg (t.field (k+1+m)) (dQ (k+1+m)),by rw [<- X4,kC,d];simp only [Y4]⟩
theorem LW (t:Tg) (b:List UInt8) (k:Nat) (c:k<9):ib ((enc t++b).drop (kR k)) (dQ k)=t.field k%(256:Int) ^ dQ k:=by
 obtain ⟨r,d⟩:=Ei t k c;rw [d,Y4,<- Ku t k,List.drop_left,Y4,lD _ _ _ _ (T3 _)]
theorem GA {t:Tg} (r:t.Fit) (c:t.ok=true) (b:List UInt8):il (enc t++b) 9=t:=by
 have h:∀ k,k<9->il (enc t++b) (k+1)=(il (enc t++b) k).set (t.field k%(256:Int) ^ dQ k) k:=fun k s=>by
  rw [il,LW t b k s]
 rw [h 8 (by omega),h 7 (by omega),h 6 (by omega),h 5 (by omega),h 4 (by omega),h 3 (by omega),h 2 (by omega),h 1 (by omega),h 0 (by omega)];simp only [Tg.ok,Bool.and_eq_true,decide_eq_true_eq,and_assoc] at c;obtain ⟨u,B,C,E,F,G,H,I,K,w,z⟩:=c;obtain ⟨d,e,f,g,j,l,m,o⟩:=r;obtain ⟨N,st,sq,P,S,M,id⟩:=t;simp only at u B C E F G H I K w z d e f g j l m o;simp only [il,Tg.set,Tg.field,dQ,EK,Tg.zero,wrap64];congr 1 <;> omega
theorem zj {t:Tg} (f:t.Fit) (c:t.ok=true) (b:List UInt8):cO (enc t++b)=U (t,b):=by
 have d:=GA f c b;have e:(enc t++b).drop 32=b:=by rw [<- dS t,List.drop_left]
 unfold cO;rw [d,e,if_pos ⟨c,rfl⟩]
structure az.Calm (D:az):Prop where
 down:D.down=false
 eE:D.eE=false
theorem az.Calm.cW {D:az} (h:D.Calm):D.cW=D:=by
 unfold az.cW;rw [h.eE];simp
theorem az.Calm.begun {D:az} (h:D.Calm):D.begun=D:=by
 unfold az.begun;rw [h.cW,h.down,h.eE];simp
theorem az.Calm.cF {D:az} (h:D.Calm):D.cF=0:=by
 unfold az.cF;rw [h.cW,h.down];simp
theorem az.Calm.read {D:az} (h:D.Calm) {a:Int} (c:D.has a):D.read a=(D.bV a,{ D with cr:=bY (D.cr+1) }):=by
 unfold az.read;rw [if_pos c,if_pos h.cF,h.begun]
theorem az.Calm.write {D:az} (h:D.Calm) {a:Int} (c:D.has a) {l:List UInt8} (d:l.length=512):D.write a l=(0,{ D with cw:=bY (D.cw+1),wait:=D.wait++[(a,l)] }):=by
 unfold az.write;rw [if_pos ⟨c,d⟩,if_pos h.cF,h.begun]
theorem az.Calm.flush {D:az} (h:D.Calm):D.flush=(0,D.aF):=by
 unfold az.flush;rw [if_pos h.cF,h.begun]
theorem pT (D:az) (l:List (Int × List UInt8)):(D.bF l).down=D.down/\(D.bF l).eE=D.eE/\(D.bF l).cr=D.cr/\(D.bF l).cw=D.cw/\(D.bF l).cf=D.cf/\(D.bF l).left=D.left/\(D.bF l).aZ=D.aZ/\(D.bF l).wait=D.wait:=by
 unfold az.bF
 induction l generalizing D with
 | nil=>exact ⟨rfl,rfl,rfl,rfl,rfl,rfl,rfl,rfl⟩
 | cons x l c=>rw [U4];exact c _
theorem BY (a:Int):dV [] a=W:=rfl
theorem iF (l:List (Int × List UInt8)) (x:Int × List UInt8) (a:Int):dV (l++[x]) a=if x.1=a then U x.2 else dV l a:=by
 unfold dV;rw [List.reverse_append,List.reverse_cons,List.reverse_nil,List.nil_append,List.singleton_append,List.find?_cons]
 by_cases h:x.1=a
 .rw [if_pos h];simp [h]
 .rw [if_neg h]
  have:(x.1 == a)=Y':=by simpa using h
  rw [this]
theorem yu (l:List (Int × List UInt8)) (x:Int × List UInt8) (a:Int):dV (x :: l) a=match dV l a with|some y=>U y|none=>if x.1=a then U x.2 else W:=by
 unfold dV;rw [List.reverse_cons,List.find?_append]
 cases h:l.reverse.find? (fun x=>x.1 == a) with
 | some y=>simp
 | none=>
  by_cases e:x.1=a
  .simp [e]
  .have:(x.1 == a)=Y':=by simpa using e
   simp [e]
theorem jj (p:Int × α) (M:List (Int × α)) (y:Int):aG (p :: M) y=if p.1=y then U p.2 else aG M y:=by
 unfold aG;rw [List.find?_cons]
 by_cases h:p.1=y
 .simp [h]
 .have:(p.1 == y)=Y':=by simpa using h
  rw [this,if_neg h]
theorem sK (M:List (Int × α)) (x y:Int):aG (del M x) y=if y=x then W else aG M y:=by
 induction M with
 | nil=>simp [del,aG]
 | cons p M d=>
  have e:del (p :: M) x=if p.1=x then del M x else p :: del M x:=by
   unfold del;rw [List.filter_cons]
   by_cases h:p.1=x
   .simp [h]
   .have:(p.1 == x)=Y':=by simpa using h
    simp [this,h]
  rw [e]
  by_cases h:p.1=x
  .rw [if_pos h,d,jj]
   by_cases c:y=x
   .rw [if_pos c,if_pos c]
   .rw [if_neg c,if_neg c,if_neg (by rw [h];exact fun q=>c q.symm)]
  .rw [if_neg h,jj,jj,d]
   by_cases c:p.1=y
   .rw [if_pos c,if_pos c,if_neg (by rw [<- c];exact h)]
   .rw [if_neg c,if_neg c]
theorem B8 (D:az) (x:Int × List UInt8) (s:D.has x.1) (c:D.wait=[]) (a:Int) (g:D.has a):(D.done x).bV a=if x.1=a then (0,bM 512 x.2) else D.bV a:=by
 have r:=(D.kz x).2.1.trans c;have o:aG (D.done x).lP a=if a=x.1 then W else aG D.lP a:=sK D.lP x.1 a
 have l:(D.done x).sec=D.sec.set x.1.toNat x.2:=rfl;unfold az.bV;simp only [r,c,BY,o,l];obtain ⟨a0,w⟩:=g;obtain ⟨u,z⟩:=s;obtain ⟨k,rfl⟩:=Z3 a0;obtain ⟨j,h⟩:=Z3 u;rw [h,P3,P3]
 by_cases e:j=k
 .subst e
  rw [if_pos rfl,if_pos rfl];have:j<D.sec.length:=by omega
  simp [D3,Z4,this]
 .have d:¬ (k:Int)=(j:Int):=by omega
  have f:¬ (j:Int)=(k:Int):=by omega
  rw [if_neg d,if_neg f];have m:(D.sec.set j x.2).getD k []=D.sec.getD k []:=by grind
  rw [m]
theorem zJ (D:az) (x:Int × List UInt8) (a:Int):(D.done x).has a↔D.has a:=by unfold az.has;rw [(D.kz x).1]
theorem uT (l:List (Int × List UInt8)):∀ (D:az),D.wait=[]->(∀ x ∈ l,D.has x.1)->∀ a,D.has a->(D.bF l).bV a=match dV l a with|some y=>(0,bM 512 y)|none=>D.bV a:=by
 induction l with
 | nil=>intro D _ _ a _;rfl
 | cons x l h=>
  intro D e d a c;have f:=h (D.done x) ((D.kz x).2.1.trans e) (fun y g=>(zJ D x _).2 (d y (V4 _ g))) a ((zJ D x a).2 c);show (az.bF (D.done x) l).bV a=_
  rw [f,yu]
  cases j:dV l a with
  | some y=>rfl
  | none=>
   simp only;rw [B8 D x (d x W4) e a c]
   split <;> rfl
theorem fh {D:az} (w:D.Ok) (a:Int) (z:D.has a):D.aF.bV a=D.bV a:=by
 have h:=uT D.wait { D with cf:=bY (D.cf+1),wait:=[] } rfl (fun x C=>w.wait x C) a z
 have e:D.aF=({ D with cf:=bY (D.cf+1),wait:=[] }:az).bF D.wait:=by
  have:∀ (l:List (Int × List UInt8)) (A B:az),A.sec=B.sec->A.lP=B.lP->A.cr=B.cr->A.cw=B.cw->A.cf=B.cf->A.down=B.down->A.eE=B.eE->A.left=B.left->A.aZ=B.aZ->B.wait=[] ->
    ({ l.foldl az.done A with wait:=[] }:az)=l.foldl az.done B:=by
   intro l
   induction l with
   | nil=>
    intro A B c f g j m o r s u d;obtain ⟨F,H,I,K,M,N,P,S,b9,G⟩:=B;subst c f g j m o r s u d
    rfl
   | cons x l E=>
    intro A B c f g j m o r s u d;exact E _ _ (by simp [az.done,c]) (by simp [az.done,f]) g j m o r s u d
  exact this _ _ _ rfl rfl rfl rfl rfl rfl rfl rfl rfl rfl
 rw [e,h];unfold az.bV
 cases hn:dV D.wait a with
 | some y=>rfl
 | none=>rfl
theorem gU {D:az} (h:D.Calm):D.aF.Calm:=by
 have:=pT { D with cf:=bY (D.cf+1) } D.wait;exact ⟨this.1.trans h.down,this.2.1.trans h.eE⟩
theorem aW (D:az):D.aF.cr=D.cr/\D.aF.cw=D.cw/\D.aF.cf=bY (D.cf+1)/\D.aF.sec.length=D.sec.length:=by
 have:=pT { D with cf:=bY (D.cf+1) } D.wait;exact ⟨this.2.2.1,this.2.2.2.1,this.2.2.2.2.1,(az.rR _ _).1⟩
theorem rS (D:az) (a:Int) (l:List UInt8) (n:Int) (b:Int):({ D with cw:=n,wait:=D.wait++[(a,l)] }:az).bV b=if a=b then (0,bM 512 l) else D.bV b:=by
 unfold az.bV;simp only [iF]
 by_cases h:a=b
 .simp [h]
 .simp [h]
structure Tb.JR (T:Tb):Prop where
 pq:∀ id p,told T.ps id=some p->told T.os p=some id
 qp:∀ id p,told T.os p=some id->told T.ps id=some p
theorem jA {l:List Int} {i v:Int} (h:told l i=U v):0<=i/\i<l.length/\v ≠ -1:=by
 unfold told at h
 split at h
 .rename_i c
  injection h with h
  exact ⟨c.1,c.2.1,by rw [<- h];exact c.2.2⟩
 .cases h
theorem told_none {l:List Int} {i:Int} (h:told l i=W) (c:0<=i) (d:i<l.length):l.getD i.toNat 0=-1:=by
 unfold told at h
 split at h
 .cases h
 .rename_i e
  exact Classical.byContradiction fun q=>e ⟨c,d,q⟩
theorem pM {l:List Int} {i:Int} (g:0<=i) (h:i<l.length) (v x:Int):told (l.set i.toNat v) x=if x=i then (if v=-1 then W else U v) else told l x:=by
 obtain ⟨k,rfl⟩:=Z3 g;have o:k<l.length:=by omega
 unfold told;rw [List.length_set,P3]
 by_cases f:x=(k:Int)
 .subst f
  rw [if_pos rfl,P3];have e:(l.set k v).getD k 0=v:=by simp [D3,Z4,o]
  rw [e]
  by_cases c:v=-1
  .rw [if_pos c,if_neg (fun q=>q.2.2 c)]
  .rw [if_neg c,if_pos ⟨by omega,h,c⟩]
 .rw [if_neg f]
  by_cases d:0<=x
  .obtain ⟨j,rfl⟩:=Z3 d
   rw [P3];have m:k≠j:=by omega
   have e:(l.set k v).getD j 0=l.getD j 0:=by simp only [D3,Z4];rw [if_neg m]
   rw [e]
  .rw [if_neg (fun q=>d q.1),if_neg (fun q=>d q.1)]
theorem Tb.yE (T:Tb) (id:Int):(T.drop id).2.ps.length=T.ps.length/\(T.drop id).2.os.length=T.os.length:=by
 unfold Tb.drop
 split <;> simp
section
variable {T:Tb}
theorem Tb.M6 (h:T.JR) (id:Int) (x:Int):told (T.drop id).2.ps x=if x=id then W else told T.ps x:=by
 unfold Tb.drop
 cases c:told T.ps id with
 | none=>
  simp only
  split
  .rename_i e;rw [e,c]
  .rfl
 | some p=>
  have d:=jA c;rw [pM d.1 d.2.1];simp
theorem Tb.LH (h:T.JR) (id:Int) (q:Int):told (T.drop id).2.os q=if told T.ps id=U q then W else told T.os q:=by
 unfold Tb.drop
 cases f:told T.ps id with
 | none=>simp
 | some p=>
  have d:=jA (h.pq _ _ f);rw [pM d.1 d.2.1]
  by_cases e:q=p
  .subst e;simp
  .rw [if_neg e,if_neg (by intro c;injection c with c;exact e c.symm)]
theorem Tb.Bq (h:T.JR) {id p:Int} (c:0<=id) (d:id<T.ps.length) (f:0<=p) (g:p<T.os.length) (l:told T.os p=W) (x:Int) :
  told (T.put id p).2.ps x=if x=id then U p else told T.ps x:=by
 have j:=told_none l f g;unfold Tb.put;rw [if_pos ⟨c,d,f,g,.inl j⟩];rw [pM c (by rw [(Tb.yE T id).1];exact d),T.M6 h]
 by_cases e:x=id
 .rw [if_pos e,if_pos e,if_neg (by omega)]
 .rw [if_neg e,if_neg e,if_neg e]
theorem Tb.BF (h:T.JR) {id p:Int} (j:0<=id) (l:id<T.ps.length) (c:0<=p) (d:p<T.os.length) (g:told T.os p=W) (q:Int) :
  told (T.put id p).2.os q=if q=p then U id else if told T.ps id=U q then W else told T.os q:=by
 have f:=told_none g c d;unfold Tb.put;rw [if_pos ⟨j,l,c,d,.inl f⟩];rw [pM c (by rw [(Tb.yE T id).2];exact d),T.LH h]
 by_cases e:q=p
 .rw [if_pos e,if_pos e,if_neg (by omega)]
 .rw [if_neg e,if_neg e]
theorem Tb.L9 (h:T.JR) {id p:Int} (l:0<=id) (m:id<T.ps.length) (o:0<=p) (r:p<T.os.length) (f:told T.os p=W):(T.put id p).2.JR:=by
 constructor
 .intro x q c
  rw [Tb.Bq h l m o r f] at c;rw [Tb.BF h l m o r f]
  by_cases e:x=id
  .rw [if_pos e] at c;injection c with c
   rw [if_pos c.symm,e]
  .rw [if_neg e] at c
   have d:=h.pq _ _ c;have u:q≠p:=by rintro rfl;rw [f] at d;cases d
   rw [if_neg u]
   have g:told T.ps id≠U q:=by
    intro s;have j:=h.pq _ _ s;rw [d] at j;injection j with j;exact e j
   rw [if_neg g,d]
 .intro x q c
  rw [Tb.BF h l m o r f] at c;rw [Tb.Bq h l m o r f]
  by_cases e:q=p
  .rw [if_pos e] at c;injection c with c
   rw [if_pos c.symm,e]
  .rw [if_neg e] at c
   split at c
   .cases c
   .rename_i d
    have g:=h.qp _ _ c;have:x≠id:=by rintro rfl;exact d g
    rw [if_neg this,g]
end
theorem Tb.iu (b p:Nat) (i:Int):told (Tb.fresh b p).ps i=W/\told (Tb.fresh b p).os i=W:=by
 constructor
 .unfold told
  rw [if_neg];rintro ⟨e,c,d⟩;apply d;simp only [Tb.fresh,U5] at c;have:i.toNat<b:=by omega
  simp [Tb.fresh,D3,V5,this]
 .unfold told
  rw [if_neg];rintro ⟨e,c,d⟩;apply d;simp only [Tb.fresh,U5] at c;have:i.toNat<p:=by omega
  simp [Tb.fresh,D3,V5,this]
theorem Tb.FU (b p:Nat):(Tb.fresh b p).JR:=
 ⟨fun i q h=>(by rw [(Tb.iu b p i).1] at h;cases h),fun i q h=>(by rw [(Tb.iu b p q).2] at h;cases h)⟩
theorem kV {a b P:Int} (d:b<a) (e:a<b+P):a%P≠b%P:=by
 intro h;have:=Int.emod_emod_of_dvd a (Int.dvd_refl P);have c:=Int.emod_eq_emod_iff_emod_sub_eq_zero.1 h;rw [E5 (by omega) (by omega)] at c;omega
structure Qx (J:Jr) (L:Bl) (k:Nat):Prop where
 Gj:(J.fC L k).JR
 ps:∀ x,told (J.fC L k).ps x=match (L.take k).findIdx? (fun y=>y.1 == x) with|some i=>some ((J.hd+(i:Int))%(J.P:Int))|none=>told J.T.ps x
 os:∀ q x,told (J.fC L k).os q=some x->(∃ i:Nat,i<k/\q=(J.hd+(i:Int))%(J.P:Int)/\(L.getD i (0,[])).1=x)\/(told J.T.os q=some x/\x ∉ (L.take k).map B3)
theorem yk (l:List α) (a:α) (f:α->Bool):(l++[a]).findIdx? f=match l.findIdx? f with|some i=>U i|none=>if f a then U l.length else W:=by grind
theorem iw {L:Bl} {x:Int}:L.findIdx? (fun y=>y.1 == x)=W↔x ∉ L.map B3:=by grind
theorem Ek (L:List α) (k:Nat) (d:α) (h:k<L.length):L.take (k+1)=L.take k++[L.getD k d]:=by simp_all
theorem Qr (J:Jr) (w:J.Ok) (P:J.T.JR) (L:Bl) (b0:∀ x ∈ L,0<=x.1/\x.1<J.n) (d0:(L.map B3).Nodup) (h0:(L.length:Int)<=J.P)
  (S:∀ i:Nat,i<L.length->told J.T.os ((J.hd+(i:Int))%(J.P:Int))=W):∀ k,k<=L.length->Qx J L k:=by
 have hps:=w.ps;have f0:=w.os;intro k
 induction k with
 | zero=>
  intro _;exact ⟨P,fun x=>rfl,fun q x h=>.inr ⟨h,by simp⟩⟩
 | succ k ih=>
  intro hk;obtain ⟨d,G,u⟩:=ih (by omega);have g:k<L.length:=by omega
  have hm:L.getD k (0,[]) ∈ L:=by rw [D3,H3 g];exact Q3 _
  obtain ⟨m,i1⟩:=b0 _ hm;have l:=Ek L k (0,[]) g;have g0:J.fC L (k+1)=((J.fC L k).put (L.getD k (0,[])).1 ((J.hd+(k:Int))%(J.P:Int))).2:=rfl;have B:=J.sL L k;have r:0<=(J.hd+(k:Int))%(J.P:Int):=U3 _ (by omega);have s:(J.hd+(k:Int))%(J.P:Int)<(J.fC L k).os.length:=by rw [B.2,f0];exact K5 _ (by omega)
  have j:told (J.fC L k).os ((J.hd+(k:Int))%(J.P:Int))=W:=by
   cases h:told (J.fC L k).os ((J.hd+(k:Int))%(J.P:Int)) with
   | none=>rfl
   | some x=>
    rcases u _ _ h with ⟨i,hi,e,_⟩|⟨e,_⟩
    .exact absurd e (kV (by omega) (by omega))
    .rw [S k g] at e;cases e
  have o:(L.getD k (0,[])).1<((J.fC L k).ps.length:Int):=by rw [B.1,hps];exact i1
  have e0:(L.getD k (0,[])).1 ∉ (L.take k).map B3:=by
   intro c;have C:((L.take (k+1)).map B3).Nodup:=d0.sublist ((List.take_sublist _ _).map _);rw [l,J3,V3] at C;exact C.2.2 _ c _ (by simp) rfl
  have F:=Tb.Bq d m o r s j;have E:=Tb.BF d m o r s j;have z:=Tb.L9 d m o r s j;rw [<- g0] at F E z;refine ⟨z,fun x=>?_,fun q x c=>?_⟩
  .rw [F,l,yk,G]
   have c0:(L.take k).length=k:=by rw [List.length_take];omega
   by_cases e:x=(L.getD k (0,[])).1
   .rw [if_pos e,e,iw.2 e0]
    simp [c0]
   .rw [if_neg e]
    cases hf:(L.take k).findIdx? (fun y=>y.1 == x) with
    | some i=>rfl
    | none=>
     have:((L.getD k (0,[])).1 == x)=Y':=by simp only [beq_eq_false_iff_ne,ne_eq];exact fun q=>e q.symm
     rw [this];rfl
  .rw [E] at c
   by_cases e:q=(J.hd+(k:Int))%(J.P:Int)
   .rw [if_pos e] at c
    injection c with c
    exact .inl ⟨k,by omega,e,c⟩
   .rw [if_neg e] at c
    split at c
    .cases c
    .rename_i K
     rcases u _ _ c with ⟨i,hi,H,I⟩|⟨M,N⟩
     .exact .inl ⟨i,by omega,H,I⟩
     .refine .inr ⟨M,?_⟩
      rw [l,J3,L5];rintro (f|f)
      .exact N f
      .simp only [List.map_cons,List.map_nil,List.mem_singleton] at f
       exact K (by rw [<- f];exact d.qp _ _ c)
end Go.SL
namespace Go.Proofs.Nn
open Go.RowKit Go.SL
abbrev Has:=Int->Option (List UInt8)
structure fq (J:Jr) (D:az) (has:Has):Prop where
 ok:J.Ok
 nums:J.Jc
 Gi:D.Ok
 br:J.br=false
 calm:D.Calm
 sec:(J.P:Int)+1<=D.sec.length
 Gj:J.T.JR
 rm:J.us+J.fr<=J.P
 win:∀ p id,told J.T.os p=some id->∃ a:Int,J.hd-J.us<=a/\a<J.hd/\p=a%(J.P:Int)
 p9:∀ id p,told J.T.ps id=some p->∃ t b,has id=some b/\b.length=480/\D.bV (p+1)=(0,enc t++b)/\t.id=id/\t.ok=true/\t.Fit
 PZ:∀ id,told J.T.ps id=none->has id=none
theorem fq.place {J:Jr} {D:az} {has:Has} (h:fq J D has) {id p:Int} (c:told J.T.ps id=U p):0<=p/\p<J.P:=by
 have:=jA (h.Gj.pq _ _ c);have e:=h.ok.os;exact ⟨this.1,by have:=this.2.1;omega⟩
theorem fq.zf {J:Jr} {D:az} {has:Has} (h:fq J D has) {id p:Int} (c:told J.T.ps id=U p):D.has (p+1):=by
 have:=h.place c;have:=h.sec;exact ⟨by omega,by omega⟩
theorem fq.dev {J:Jr} {D D':az} {has:Has} (h:fq J D has) (m:D'.Ok) (j:D'.Calm) (l:D'.sec.length=D.sec.length) (o:∀ a,D.has a->D'.bV a=D.bV a):fq J D' has:=
 ⟨h.ok,h.nums,m,h.br,j,by rw [l];exact h.sec,h.Gj,h.rm,h.win,fun id p c=>by
  obtain ⟨t,b,d,e,f,g⟩:=h.p9 id p c;exact ⟨t,b,d,e,by rw [o _ (h.zf c)];exact f,g⟩,h.PZ⟩
theorem Ky (D:az) (r:Int) (a:Int):({ D with cr:=r }:az).bV a=D.bV a:=rfl
theorem Dj {D:az} (h:D.Calm) (r:Int):({ D with cr:=r }:az).Calm:=⟨h.down,h.eE⟩
theorem JA {D:az} (h:D.Ok) (r:Int):({ D with cr:=r }:az).Ok:=⟨h.n,h.wait,h.many,h.aZ⟩
theorem fq.cr {J:Jr} {D:az} {has:Has} (h:fq J D has) (r:Int):fq J { D with cr:=r } has:=
 h.dev (JA h.Gi r) (Dj h.calm r) rfl fun _ _=>rfl
theorem LP {J:Jr} {D D':az} {id p:Int} {l b:List UInt8} {t:Tg} (e:D.read (p%(J.P:Int)+1)=((0,l),D')) (c:cO l=U (t,b)) (d:t.id=id):J.load D id p=((0,b),J,D'):=by
 unfold Jr.load;simp only [e,c,d,if_true]
theorem fq.load {J:Jr} {D:az} {has:Has} (h:fq J D has) {id p:Int} (c:told J.T.ps id=U p):J.load D id p=((0,(has id).getD (zs 480)),J,{ D with cr:=bY (D.cr+1) }):=by
 obtain ⟨t,b,e,s,f,g,j,l⟩:=h.p9 id p c;obtain ⟨o,r⟩:=h.place c;have m:=E5 o r;have d:=h.calm.read (h.zf c);rw [f] at d;rw [e];exact LP (by rw [m];exact d) (zj l j b) g
theorem fq.read {J:Jr} {D:az} {has:Has} (h:fq J D has) {id:Int} (d:0<=id) (h1:id<J.n) :
  J.read D id=((0,(has id).getD (zs 480)),J,if (told J.T.ps id).isSome then { D with cr:=bY (D.cr+1) } else D):=by
 unfold Jr.read;rw [if_neg (by omega),h.br,if_neg (by simp)]
 cases c:told J.T.ps id with
 | none=>simp [h.PZ id c]
 | some p=>simp only [T5,if_true];exact h.load c
theorem fq.flush {J:Jr} {D:az} {has:Has} (h:fq J D has):J.flush D=(0,J,D.aF):=by
 unfold Jr.flush;rw [h.br,if_neg (by simp),h.calm.flush];simp
theorem fq.aF {J:Jr} {D:az} {has:Has} (h:fq J D has):fq J D.aF has:=by
 have c:=az.gH h.Gi;rw [h.calm.flush] at c;exact h.dev (c.ok h.Gi (by have:=h.Gi.many;omega)) (gU h.calm) (aW D).2.2.2 fun a d=>fh h.Gi a d
def gZ (c:Int):Nat->Int
 | 0=>c
 | k+1=>bY (gZ c k+1)
theorem GF (c:Int) (k:Nat):gZ (bY (c+1)) k=gZ c (k+1):=by
 induction k with
 | zero=>rfl
 | succ k d=>rw [gZ,d];rfl
def yn (has:Has) (own:KV) (c:List (Int × Int)):Bl:=(c.filter fun x => !(aG own x.1).isSome).map fun x=>(x.1,(has x.1).getD (zs 480))
theorem Cu {J:Jr} {D:az} {has:Has} (h:fq J D has) (own:KV) (c:List (Int × Int)) (e:∀ x ∈ c,told J.T.ps x.1=U x.2) :
  J.bQ D own c=((0,yn has own c),J,{ D with cr:=gZ D.cr (yn has own c).length }):=by
 have:∀ (c:List (Int × Int)),(∀ x ∈ c,told J.T.ps x.1=U x.2)->∀ (d:Bl) (r:Int),c.foldl (Jr.cM own) ((0,d),J,{ D with cr:=r })=((0,d++yn has own c),J,{ D with cr:=gZ r (yn has own c).length }):=by
  intro c
  induction c with
  | nil=>intro _ d r;simp [yn,gZ]
  | cons x c m=>
   intro e d r;rw [U4];have s:=e x W4;have l:=fun y u=>e y (V4 _ u)
   cases f:aG own x.1 with
   | some v=>
    have g:Jr.cM own ((0,d),J,{ D with cr:=r }) x=((0,d),J,{ D with cr:=r }):=by
     unfold Jr.cM;simp [f]
    have j:yn has own (x :: c)=yn has own c:=by simp [yn,f]
    rw [g,j];exact m l d r
   | none=>
    have o:=(h.cr r).load s
    have g:Jr.cM own ((0,d),J,{ D with cr:=r }) x=((0,d++[(x.1,(has x.1).getD (zs 480))]),J,{ D with cr:=bY (r+1) }):=by
     unfold Jr.cM;simp only [f];rw [o];simp
    have j:yn has own (x :: c)=(x.1,(has x.1).getD (zs 480)) :: yn has own c:=by simp [yn,f]
    rw [g,j,m l,GF,X3];simp
 exact this c e [] D.cr
theorem jM {T:Tb} {P first k:Nat} {x:Int × Int} (h:x ∈ bN T P first k):∃ i,i<k/\x.2=(((first+i)%P:Nat):Int)/\told T.os x.2=U x.1:=by
 obtain ⟨p,f,c⟩:=List.mem_filterMap.1 h;obtain ⟨i,e,rfl⟩:=List.mem_map.1 f
 cases d:told T.os (((first+i)%P:Nat):Int) with
 | none=>rw [d] at c;cases c
 | some id=>
  rw [d] at c;injection c with c
  rw [<- c];exact ⟨i,List.mem_range.1 e,rfl,d⟩
theorem AK {T:Tb} {P first k i:Nat} {id:Int} (c:i<k) (h:told T.os (((first+i)%P:Nat):Int)=U id):(id,(((first+i)%P:Nat):Int)) ∈ bN T P first k:=by
 refine List.mem_filterMap.2 ⟨(first+i)%P,List.mem_map.2 ⟨i,List.mem_range.2 c,rfl⟩,?_⟩;rw [h];rfl
theorem kh {T:Tb} (d:T.JR) {P first:Nat}:∀ k,k<=P->((bN T P first k).map B3).Nodup:=by
 intro k
 induction k with
 | zero=>intro _;simp [bN]
 | succ k e=>
  intro r;rw [pH]
  cases l:told T.os (((first+k)%P:Nat):Int) with
  | none=>simp only [List.append_nil];exact e (by omega)
  | some id=>
   simp only [J3,List.map_cons,List.map_nil];rw [V3];refine ⟨e (by omega),by simp,?_⟩;intro a h b j;rw [List.mem_singleton.1 j];rintro rfl;obtain ⟨x,m,rfl⟩:=List.mem_map.1 h;obtain ⟨i,o,f,g⟩:=jM m;have c:=d.qp _ _ g;rw [d.qp _ _ l] at c;injection c with c
   rw [f] at c;have:=kV (a:=((first+k:Nat):Int)) (b:=((first+i:Nat):Int)) (P:=(P:Int)) (by omega) (by omega);exact this (by exact_mod_cast c)
structure St (J:Jr) (D:az) (Z:List Wr) (k:Nat) (D':az):Prop where
 run:J.bA D Z k=(0,D')
 calm:D'.Calm
 sec:D'.sec.length=D.sec.length
 cr:D'.cr=D.cr
 cf:D'.cf=D.cf
 cw:D'.cw=gZ D.cw k
 new:∀ i:Nat,i<k->D'.bV ((J.hd+(i:Int))%(J.P:Int)+1)=(0,enc (J.tag i Z.length (Z.getD i Wr.nil).1)++(Z.getD i Wr.nil).2.2)
 pL:∀ a,(∀ i:Nat,i<k->a≠(J.hd+(i:Int))%(J.P:Int)+1)->D'.bV a=D.bV a
theorem Sn (J:Jr) (D:az) (M:0<J.P) (r:D.Calm) (hs:(J.P:Int)+1<=D.sec.length) (Z:List Wr) (o:∀ z ∈ Z,z.2.2.length=480) (N:(Z.length:Int)<=J.P):∀ k,k<=Z.length->∃ D',St J D Z k D':=by
  intro k
  induction k with
  | zero=>intro _;exact ⟨D,rfl,r,rfl,rfl,rfl,rfl,fun i c=>absurd c (Nat.not_lt_zero i),fun _ _=>rfl⟩
  | succ k C=>
    intro P;obtain ⟨D',w⟩:=C (by omega);obtain ⟨E,g,m,F,G,H,I,K⟩:=w;have u:Z.getD k Wr.nil ∈ Z:=by rw [D3,H3 (by omega)];exact Q3 _
    have l:(enc (J.tag k Z.length (Z.getD k Wr.nil).1)++(Z.getD k Wr.nil).2.2).length=512:=by rw [G3,dS,o _ u]
    have b0:0<=(J.hd+(k:Int))%(J.P:Int):=U3 _ (by omega);have c0:(J.hd+(k:Int))%(J.P:Int)<J.P:=K5 _ (by omega);have s:D'.has ((J.hd+(k:Int))%(J.P:Int)+1):=⟨by omega,by rw [m];omega⟩
    have B:=g.write s l
    have f:J.bA D Z (k+1)=if (J.bA D Z k).1=0 then
        (let h:=(J.bA D Z k).2.write ((J.hd+(k:Int))%(J.P:Int)+1) (enc (J.tag k Z.length (Z.getD k Wr.nil).1)++(Z.getD k Wr.nil).2.2)
         (if h.1=0 then 0 else 2,h.2)) else J.bA D Z k:=rfl
    rw [E] at f;rw [B] at f;refine ⟨_,f,⟨g.down,g.eE⟩,m,F,G,by show bY (D'.cw+1)=_;rw [H];rfl,?_,?_⟩
    · intro i c
      rw [rS];rcases Nat.lt_or_eq_of_le (Nat.lt_succ_iff.1 c) with d|d
      · have S:(J.hd+(k:Int))%(J.P:Int)≠(J.hd+(i:Int))%(J.P:Int):=kV (by omega) (by omega)
        rw [if_neg (by omega)];exact I i d
      · subst d
        rw [if_pos rfl,jy l]
    · intro a j
      rw [rS,if_neg (fun e=>j k (by omega) e.symm)];exact K a fun i c=>j i (by omega)
def lS (has:Has) (L:Bl):Has:=fun id=>(aG L id).or (has id)
structure Batch (n:Int) (L:Bl):Prop where
 n0:1<=L.length
 n1:L.length<=24
 id:∀ x ∈ L,0<=x.1/\x.1<n
 Og:∀ x ∈ L,x.2.length=480
 nd:(L.map B3).Nodup
def zr (L:Bl):KV:=eV (kU L) L.length
theorem KJ (L:Bl) (id:Int):(aG (zr L) id).isSome=decide (id ∈ L.map B3):=by
 have c:(kU L).length=L.length:=by simp [kU]
 rw [zr,vu (by omega)];congr 1
 have:((kU L).take L.length).map B3=L.map B3:=by
  rw [<- c,J4];unfold kU;rw [T4];rfl
 rw [this]
def iG (J:Jr) (has:Has) (L:Bl):Bl:=yn has (zr L) (bN J.T J.P (Jr.tail J) (J.aO L.length).toNat)
theorem yX {J:Jr} (c:J.Ok) (i:Nat):(((Jr.tail J+i)%J.P:Nat):Int)=(J.hd-J.us+(i:Int))%(J.P:Int):=by
 have d:=c.p0;unfold Jr.tail;rw [Int.natCast_emod,S5,Y3 (U3 _ (by omega)),Int.emod_add_emod]
theorem Il {L:Bl} {x:Int} {i:Nat} (h:L.findIdx? (fun y=>y.1 == x)=U i):i<L.length/\(L.getD i (0,[])).1=x/\aG L x=U (L.getD i (0,[])).2:=by
 rw [List.findIdx?_eq_some_iff_getElem] at h;obtain ⟨c,d,f⟩:=h;have e:L.getD i (0,[])=L[i]:=by rw [D3,H3 c];rfl
 refine ⟨c,by rw [e];simpa using d,?_⟩;rw [e];have g:L.find? (fun p=>p.1 == x)=U L[i]:=List.find?_eq_some_iff_getElem.2 ⟨d,i,c,rfl,fun j l=>by simpa using f j l⟩;unfold aG;rw [g]
 rfl
theorem yU {c:Type} (A B:List (Int × c)) (x:Int):aG (A++B) x=(aG A x).or (aG B x):=by
 unfold aG;rw [List.find?_append];cases A.find? (fun p=>p.1 == x) <;> rfl
theorem MY {J:Jr} {D:az} {has:Has} (h:fq J D has) (own:KV) (d:List (Int × Int)) (l:∀ x ∈ d,told J.T.ps x.1=U x.2) (id:Int) (b:List UInt8) (m:aG (yn has own d) id=U b):has id=U b:=by
 have o:=l9 m;obtain ⟨x,r,e⟩:=List.mem_map.1 o;have s:=(List.mem_filter.1 r).1;obtain ⟨t,c,g,_⟩:=h.p9 _ _ (l x s);injection e with j f
 rw [<- j,g];rw [g] at f;rw [<- f];rfl
theorem tL {J:Jr} {D:az} {has:Has} (h:fq J D has) (own:KV) (d:List (Int × Int)) (e:∀ x ∈ d,told J.T.ps x.1=U x.2):∀ x ∈ yn has own d,x.2.length=480/\0<=x.1/\x.1<J.n:=by
 intro y o;obtain ⟨x,m,rfl⟩:=List.mem_map.1 o;have f:=(List.mem_filter.1 m).1;obtain ⟨t,c,g,j,_⟩:=h.p9 _ _ (e x f);have l:=jA (e x f);have:=h.ok.ps;exact ⟨by simp only [g,N4];exact j,l.1,by show x.1<J.n;omega⟩
theorem DL (has:Has) (L:Bl) (c:List (Int × Int)):(yn has (zr L) c).map B3=(c.map B3).filter fun id=>decide (id ∉ L.map B3):=by
 unfold yn;rw [T4,List.filter_map];congr 1;congr 1;funext x;simp only [Function.comp,KJ];simp
structure P0 (J:Jr) (D:az) (has:Has) (L:Bl) (D':az):Prop where
 run:eB J D true L=(0,J.done (L++iG J has L) (J.aO L.length),D')
 inv:fq (J.done (L++iG J has L) (J.aO L.length)) D' (lS has L)
 cr:D'.cr=gZ D.cr (iG J has L).length
 cw:D'.cw=gZ D.cw (L.length+(iG J has L).length)
 cf:D'.cf=bY (D.cf+1)
theorem qd {J:Jr} {D:az} {has:Has} (h:fq J D has) (k:Nat):∀ x ∈ bN J.T J.P (Jr.tail J) k,told J.T.ps x.1=U x.2:=by
 intro x d;obtain ⟨_,_,_,c⟩:=jM d;exact h.Gj.qp _ _ c
theorem AQ {J:Jr} {D:az} {has:Has} (h:fq J D has) (L:Bl):eF J D L=((0,iG J has L),J,{ D with cr:=gZ D.cr (iG J has L).length }):=
 Cu h (zr L) _ (qd h _)
theorem Ak (J:Jr) (has:Has) (L:Bl) (c:0<=J.us):((iG J has L).length:Int)<=J.aO L.length:=by
 have d:(iG J has L).length<=(J.aO L.length).toNat:=by
  unfold iG yn;rw [L3];exact Nat.le_trans (W5 _ _) (jV _ _ _ _)
 have:=(Jr.fi c L.length).1;omega
theorem zB {J:Jr} {D:az} {has:Has} (h:fq J D has) {L:Bl} (r:Batch J.n L) (F0:J.sq<281474976710655) (d:¬ (J.P:Int)-J.us-J.fr<((L++iG J has L).length:Int)) :
  ∃ D',P0 J D has L D':=by
 have hm:=AQ h.aF L;have l:=h.aF;have hc:=Jr.fi h.ok.BM L.length;have N0:=Ak J has L h.ok.BM;have P:=qd h (J.aO L.length).toNat;have C:(iG J has L).map B3=((bN J.T J.P (Jr.tail J) (J.aO L.length).toNat).map B3).filter fun id=>decide (id ∉ L.map B3):=DL has L _;have s0:∀ id b,aG (iG J has L) id=U b->has id=U b:=fun id b hk=>MY h (zr L) _ P id b hk;have p0:∀ x ∈ iG J has L,x.2.length=480/\0<=x.1/\x.1<J.n:=tL h (zr L) _ P;have V0:=h.ok.BM;have W0:=h.ok.Po;have L0:=h.ok.Ro;have T0:=h.ok.p0;have R0:=r.n1;generalize o:iG J has L=M at *;obtain ⟨A,g⟩:∃ A,A=L++M:=⟨_,rfl⟩
 have i0:A.length=L.length+M.length:=by rw [g,G3]
 rw [<- g] at d
 have B:∀ x ∈ A,x.2.length=480/\0<=x.1/\x.1<J.n:=by
  intro x f;rw [g] at f;rcases List.mem_append.1 f with f|f
  .exact ⟨r.Og x f,r.id x f⟩
  .exact p0 x f
 have k0:(A.map B3).Nodup:=by
  rw [g,J3,V3];refine ⟨r.nd,?_,?_⟩
  .rw [C]
   exact (kh h.Gj _ (by omega)).filter _
  .intro a ha b S e
   rw [C] at S;have:=(List.mem_filter.1 S).2;rw [<- e] at this;simp only [decide_eq_true_eq] at this;exact this ha
 have K:(A.length:Int)<=J.P:=by omega
 have K0:(A.length:Int)+J.us<=J.P:=by omega
 have l0:∀ i:Nat,i<A.length->told J.T.os ((J.hd+(i:Int))%(J.P:Int))=W:=by
  intro i j
  cases E:told J.T.os ((J.hd+(i:Int))%(J.P:Int)) with
  | none=>rfl
  | some id=>
   obtain ⟨a,w,z,a3⟩:=h.win _ _ E;exact absurd a3 (kV (by omega) (by omega))
 have x0:=Qr J h.ok h.Gj A (fun x f=>(B x f).2) k0 K l0 A.length (T3 _);obtain ⟨p1,H,p3⟩:=x0;rw [J4] at H;have F:(kU A).length=A.length:=by simp [kU]
 have G0:∀ h0 ∈ kU A,h0.2.2.length=480:=by
  intro h0 hz;obtain ⟨x,f,rfl⟩:=List.mem_map.1 hz;exact (B x f).1
 have e0:(J.P:Int)+1<=D.aF.sec.length:=l.sec;obtain ⟨D',H0⟩:=Sn J { D.aF with cr:=gZ D.aF.cr M.length } h.ok.p0 (Dj l.calm _) e0 (kU A) G0 (by rw [F];exact K) A.length (by rw [F];exact T3 _);have g0:=Jr.py J (JA l.Gi (gZ D.aF.cr M.length)) (kU A) A.length (by show D.aF.wait.length+A.length<=1000000;have:D.aF.wait=[]:=rfl;rw [this];simp only [K3];have:=h.ok.p1;omega);obtain ⟨w1,w2,w3,w4,w5,w6,w7,w8⟩:=H0;rw [w1] at g0
 have D0:eB J D true L=(0,J.done A (J.aO L.length),D'):=by
  unfold eB;rw [if_neg (by simp),if_neg (by omega),h.flush,if_neg (by simp)];unfold tT;rw [hm,<- g,if_neg (by simp),if_neg d,w1,if_neg (by simp)]
 have d0:=J.sL A A.length;have U0:J.hd%(J.P:Int)=J.hd:=E5 h.ok.Gh h.ok.yo
 have u0:∀ i:Nat,i<A.length->D'.bV ((J.hd+(i:Int))%(J.P:Int)+1)=(0,enc (J.tag i A.length (A.getD i (0,[])).1)++(A.getD i (0,[])).2):=by
  intro i j;have:=w7 i j;rw [F,(fM _ _).1,(fM _ _).2,om] at this;exact this
 have c0:=h.nums.numbers F0
 have u:∃ q:Int,(J.done A (J.aO L.length)).hd=J.hd+(A.length:Int)-(J.P:Int)*q:=⟨(J.hd+(A.length:Int))/(J.P:Int),by
  show (J.hd+(A.length:Int))%(J.P:Int)=_
  have:=X5 (J.hd+(A.length:Int)) (J.P:Int);omega⟩
 obtain ⟨q,u⟩:=u
 have b0:∀ a:Int,J.hd-J.us+J.aO L.length<=a->a<J.hd+(A.length:Int)->∃ b:Int,(J.done A (J.aO L.length)).hd-(J.done A (J.aO L.length)).us<=b/\b<(J.done A (J.aO L.length)).hd/\a%(J.P:Int)=b%(J.P:Int):=by
  intro a w z;have e:(J.done A (J.aO L.length)).us=J.us+((A.length:Int)-J.aO L.length):=rfl;refine ⟨a-(J.P:Int)*q,by rw [u,e];omega,by rw [u];omega,?_⟩;rw [Y5]
 refine ⟨D',by rw [o,<- g];exact D0,?_,?_,?_,?_⟩
 .rw [o,<- g]
  refine ⟨?_,?_,?_,h.br,w2,?_,p1,?_,?_,?_,?_⟩
  .exact ⟨h.ok.p0,h.ok.p1,C0 h.ok.T A A.length,by show ((J.fC A A.length).ps.length:Int)=J.n;rw [d0.1];exact h.ok.ps,by show (J.fC A A.length).os.length=J.P;rw [d0.2];exact h.ok.os,
    by show 0<=J.us+((A.length:Int)-J.aO L.length);omega,by show J.us+((A.length:Int)-J.aO L.length)<=(J.P:Int);omega,
    U3 _ (by omega),K5 _ (by omega),by show 0<=J.aO L.length;omega,by show J.aO L.length<=48;omega⟩
  .exact ⟨h.nums.Re,h.nums.Rg,h.nums.PQ,by show J.st<=J.sq+1+1;have:=h.nums.aQ;omega,by show 0<=J.sq+1;have:=h.nums.PL;omega,by show J.sq+1<=281474976710655;omega,h.nums.n1,Jr.Fg h.nums.own A A.length⟩
  .exact g0.ok (JA l.Gi _) (by show D.aF.wait.length+A.length<=1000000;have:D.aF.wait=[]:=rfl;rw [this];simp only [K3];have:=h.ok.p1;omega)
  .rw [w3];exact e0
  .show J.us+((A.length:Int)-J.aO L.length)+J.aO L.length<=(J.P:Int);omega
  .intro p id m
   rcases p3 p id m with ⟨i,j,e,_⟩|⟨I,h2⟩
   .rw [e];exact b0 _ (by omega) (by omega)
   .obtain ⟨a,w,z,a3⟩:=h.win p id I
    rw [a3];refine b0 a ?_ (by omega);refine Classical.byContradiction fun o0=>?_;have o0:a<J.hd-J.us+J.aO L.length:=by omega
    apply h2;rw [J4];obtain ⟨i,j⟩:∃ i:Nat,a=J.hd-J.us+(i:Int):=⟨(a-(J.hd-J.us)).toNat,by omega⟩
    have E:told J.T.os (((Jr.tail J+i)%J.P:Nat):Int)=U id:=by rw [yX h.ok,<- j,<- a3];exact I
    have r0:=AK (T:=J.T) (P:=J.P) (first:=Jr.tail J) (k:=(J.aO L.length).toNat) (i:=i) (by omega) E;rw [g,J3,L5]
    by_cases N:id ∈ L.map B3
    .exact .inl N
    .right
     rw [C];exact List.mem_filter.2 ⟨List.mem_map.2 ⟨_,r0,rfl⟩,by simpa using N⟩
  .intro id p m
   have c:told (J.fC A A.length).ps id=U p:=m;rw [H] at c
   have f0:lS has L id=(aG A id).or (has id):=by
    rw [g,yU];unfold lS
    cases hk:aG L id with
    | some b=>rfl
    | none=>
     cases m0:aG M id with
     | none=>rfl
     | some b=>simp [s0 id b m0]
   cases d:A.findIdx? (fun y=>y.1 == id) with
   | some i=>
    rw [d] at c;injection c with c
    obtain ⟨G,i2,i3⟩:=Il d;have q0:A.getD i (0,[]) ∈ A:=by rw [D3,H3 G];exact Q3 _
    obtain ⟨b1,b2,b3⟩:=B _ q0;have S0:=h.nums.n1;refine ⟨J.tag i A.length (A.getD i (0,[])).1,(A.getD i (0,[])).2,by rw [f0,i3];rfl,b1,by rw [<- c];exact u0 i G,by show (A.getD i (0,[])).1=id;exact i2,?_,Jr.Dq c0 _ _ _⟩;exact Jr.IV c0 G (by omega) b2 (by omega)
   | none=>
    rw [d] at c;simp only at c;obtain ⟨t,b,t1,t2,t3,t4⟩:=l.p9 id p c;have s:=iw.1 d;refine ⟨t,b,by rw [f0,fN.2 s];exact t1,t2,?_,t4⟩;rw [w8 (p+1),Ky]
    .exact t3
    .intro i j
     obtain ⟨a,w,z,a3⟩:=h.win p id (h.Gj.pq _ _ c);have:(J.hd+(i:Int))%(J.P:Int)≠p:=by rw [a3];exact kV (by omega) (by omega)
     omega
  .intro id m
   have c:told (J.fC A A.length).ps id=W:=m;rw [H] at c
   cases d:A.findIdx? (fun y=>y.1 == id) with
   | some i=>rw [d] at c;cases c
   | none=>
    rw [d] at c;have s:=iw.1 d;rw [g,J3,L5] at s;unfold lS;rw [fN.2 (fun q=>s (.inl q)),h.PZ id c]
    rfl
 .rw [o,w4]
  show gZ D.aF.cr _=_
  rw [(aW D).1]
 .rw [o,w6,<- i0]
  show gZ D.aF.cw _=_
  rw [(aW D).2.1]
 .rw [w5]
  exact (aW D).2.2.1
def lR (T:Tb) (P first k:Nat):Nat:=(bN T P first k).length
theorem qF (T:Tb) (P first k:Nat):lR T P first (k+1)=lR T P first k+(if (told T.os (((first+k)%P:Nat):Int)).isSome then 1 else 0):=by
 unfold lR;rw [pH,G3];cases told T.os (((first+k)%P:Nat):Int) <;> simp
theorem oX (T:Tb) (P first k:Nat):lR T P first k<=k:=jV _ _ _ _
def qQ (J:Jr):Prop:=∀ k:Nat,(k:Int)<=J.us->2*J.us-(k:Int)+2*(lR J.T J.P (Jr.tail J) k:Int)<=5*J.n
theorem Am {l:List Int} {n:Nat} (h:l.Nodup) (d:∀ x ∈ l,0<=x/\x<n):l.length<=n:=by
 have:=tC (m:=(List.range n).map fun i:Nat=>(i:Int)) h fun x e=>by
  obtain ⟨c,f⟩:=d x e;exact List.mem_map.2 ⟨x.toNat,List.mem_range.2 (by omega),Y3 c⟩
 simpa using this
structure Rt (J:Jr) (L A:Bl):Prop where
 b:∀ x ∈ A,x.2.length=480/\0<=x.1/\x.1<J.n
 nd:(A.map B3).Nodup
theorem P9 {J:Jr} {D:az} {has:Has} (h:fq J D has) {L:Bl} (d:Batch J.n L):Rt J L (L++iG J has L):=by
 have o:=Jr.fi h.ok.BM L.length;have j:=qd h (J.aO L.length).toNat;have g:(iG J has L).map B3=((bN J.T J.P (Jr.tail J) (J.aO L.length).toNat).map B3).filter fun id=>decide (id ∉ L.map B3):=DL has L _;have m:=tL h (zr L) _ j;have r:=h.ok.Po;refine ⟨?_,?_⟩
 .intro x c
  rcases List.mem_append.1 c with c|c
  .exact ⟨d.Og x c,d.id x c⟩
  .exact m x c
 .rw [J3,V3]
  refine ⟨d.nd,?_,?_⟩
  .rw [g]
   exact (kh h.Gj _ (by omega)).filter _
  .intro a l b f e
   rw [g] at f;have:=(List.mem_filter.1 f).2;rw [<- e] at this;simp only [decide_eq_true_eq] at this;exact this l
theorem Aq {J:Jr} {D:az} {has:Has} (h:fq J D has) {L:Bl} (d:Batch J.n L) (e:¬ (J.P:Int)-J.us-J.fr<((L++iG J has L).length:Int)) :
  Qx J (L++iG J has L) (L++iG J has L).length:=by
 have c:=P9 h d;have r:=h.ok.BM;have m:=h.ok.Ro;generalize L++iG J has L=A at c e ⊢;refine Qr J h.ok h.Gj A (fun x g=>(c.b x g).2) c.nd (by omega) ?_ A.length (T3 _);intro i o
 cases f:told J.T.os ((J.hd+(i:Int))%(J.P:Int)) with
 | none=>rfl
 | some id=>
  obtain ⟨a,j,l,a3⟩:=h.win _ _ f;exact absurd a3 (kV (by omega) (by omega))
theorem Kp (J:Jr) (has:Has) (L:Bl):(iG J has L).length<=lR J.T J.P (Jr.tail J) (J.aO L.length).toNat:=by
 unfold iG yn lR;rw [L3];exact W5 _ _
theorem A6 {J:Jr} {D:az} {has:Has} (h:fq J D has) (e:qQ J) (g:5*J.n+240<=2*(J.P:Int)) {L:Bl} (f:Batch J.n L) :
  ¬ (J.P:Int)-J.us-J.fr<((L++iG J has L).length:Int):=by
 have j:=Jr.fi h.ok.BM L.length;have m:=Ak J has L h.ok.BM;have o:=f.n1;have l:=h.ok.Ss;have d:=e 0 (by have:=h.ok.BM;omega);have c:lR J.T J.P (Jr.tail J) 0=0:=by have:=oX J.T J.P (Jr.tail J) 0;omega
 rw [c] at d;rw [G3];omega
theorem KA {T d:Tb} {P f e c:Nat}:∀ k:Nat,(∀ i,i<k->(told d.os (((e+i)%P:Nat):Int)).isSome=true->(told T.os (((f+(c+i))%P:Nat):Int)).isSome=true)->lR d P e k+lR T P f c<=lR T P f (c+k):=by
 intro k
 induction k with
 | zero=>intro _;have:=oX d P e 0;simp only [Nat.add_zero];omega
 | succ k j=>
  intro h;have:=j fun i l=>h i (by omega);have g:=h k (by omega);rw [<- X4,qF,qF];generalize (told d.os (((e+k)%P:Nat):Int)).isSome=b at g ⊢
  cases b with
  | false=>simp only [Bool.false_eq_true,if_false];omega
  | true=>rw [g rfl];omega
theorem JO (T:Tb) (P f a:Nat):∀ x,lR T P f (a+x)<=lR T P f a+x:=by
 intro x
 induction x with
 | zero=>exact T3 _
 | succ x c=>rw [<- X4,qF];split <;> omega
theorem Cz {J:Jr} {D:az} {has:Has} (h:fq J D has) (m:qQ J) {L:Bl} (o:Batch J.n L) (hf:¬ (J.P:Int)-J.us-J.fr<((L++iG J has L).length:Int)) :
  qQ (J.done (L++iG J has L) (J.aO L.length)):=by
 have C:=P9 h o;have u:=Aq h o hf;have hc:=Jr.fi h.ok.BM L.length;have d0:=Kp J has L;have q0:=h.ok.Ro;have hps:=h.ok.ps;have p0:=o.n0;generalize hM:iG J has L=M at *;have k0:(L++M).length=L.length+M.length:=G3;generalize hA:L++M=A at *;obtain ⟨c,r⟩:∃ c:Nat,J.aO L.length=(c:Int):=⟨(J.aO L.length).toNat,by omega⟩
 have E:(c:Int)=if J.us<2*(L.length:Int) then J.us else 2*(L.length:Int):=by rw [<- r];rfl
 rw [r,P3] at d0;rw [r] at hc ⊢;obtain ⟨s,hs⟩:∃ s:Nat,J.us=(c:Int)+(s:Int):=⟨(J.us-c).toNat,by omega⟩
 have z:(J.done A c).us=(s:Int)+(A.length:Int):=by show J.us+((A.length:Int)-c)=_;omega
 have f0:(J.done A c).n=J.n:=rfl;have B:(J.done A c).P=J.P:=rfl;have N:(J.done A c).T=J.fC A A.length:=rfl
 -- a place of the new ring,by the pL one
 have h0:∀ i:Nat,(((Jr.tail (J.done A c)+i)%J.P:Nat):Int)=(J.hd-J.us+(c:Int)+(i:Int))%(J.P:Int):=by
  intro i;unfold Jr.tail;have b0:(J.done A c).hd=(J.hd+(A.length:Int))%(J.P:Int):=rfl;rw [z,B,b0,Int.natCast_emod,S5,Y3 (U3 _ (by omega)),Int.emod_add_emod];have j:=X5 (J.hd+(A.length:Int)) (J.P:Int);generalize (J.hd+(A.length:Int))%(J.P:Int)=x at j;generalize (J.hd+(A.length:Int))/(J.P:Int)=y at j;rw [show x-((s:Int)+(A.length:Int))+(i:Int)=J.hd-J.us+(c:Int)+(i:Int)-(J.P:Int)*y by omega,Y5]
 have G:∀ (i:Nat) (x:Int),i<s->told (J.fC A A.length).os (((Jr.tail (J.done A c)+i)%J.P:Nat):Int)=U x->told J.T.os (((Jr.tail J+(c+i))%J.P:Nat):Int)=U x/\x ∉ A.map B3:=by
  intro i x l d;rw [h0] at d;rw [yX h.ok,S5,<- Int.add_assoc];rcases u.os _ _ d with ⟨k,F,e,_⟩|⟨j,w⟩
  .exact absurd e.symm (kV (by omega) (by omega))
  .rw [J4] at w;exact ⟨j,w⟩
 have e0:∀ k,k<=s->lR (J.fC A A.length) J.P (Jr.tail (J.done A c)) k+lR J.T J.P (Jr.tail J) c<=lR J.T J.P (Jr.tail J) (c+k):=fun k F=>KA k fun i l d=>by
  obtain ⟨x,d⟩:=Option.isSome_iff_exists.1 d;rw [(G i x (by omega) d).1];rfl
 -- those that are live,and the new ones,are blocks
 have o0:lR (J.fC A A.length) J.P (Jr.tail (J.done A c)) s+A.length<=J.T.ps.length:=by
  have g0:(((bN (J.fC A A.length) J.P (Jr.tail (J.done A c)) s).map B3)++A.map B3).Nodup:=by
   rw [V3];refine ⟨kh u.Gj s (by omega),C.nd,?_⟩;intro a P b S e;obtain ⟨y,f,rfl⟩:=List.mem_map.1 P;obtain ⟨i,l,H,g⟩:=jM f;rw [H] at g;rw [e] at g;exact (G i _ l g).2 S
  have:=Am (n:=J.T.ps.length) g0 fun x d=>by
   rcases List.mem_append.1 d with d|d
   .obtain ⟨y,f,rfl⟩:=List.mem_map.1 d
    obtain ⟨i,l,H,g⟩:=jM f;have:=jA (u.Gj.qp _ _ g);have hl:=(J.sL A A.length).1;exact ⟨this.1,by have:=this.2.1;omega⟩
   .obtain ⟨y,f,rfl⟩:=List.mem_map.1 d
    have:=(C.b y f).2;exact ⟨this.1,by have:=this.2;omega⟩
  rw [G3,L3,L3] at this;exact this
 intro k F;rw [z,f0,B,N] at *;have K:=m 0 (by omega);have I:lR J.T J.P (Jr.tail J) 0=0:=by have:=oX J.T J.P (Jr.tail J) 0;omega
 rw [I] at K
 by_cases c0:k<=s
 .have s0:=e0 k c0
  have l0:=m (c+k) (by omega);have r0:=oX (J.fC A A.length) J.P (Jr.tail (J.done A c)) k
  split at E <;> omega
 .obtain ⟨x,d⟩:∃ x,k=s+x:=⟨k-s,by omega⟩
  have i0:=JO (J.fC A A.length) J.P (Jr.tail (J.done A c)) s x;rw [<- d] at i0;have m0:=m c (by omega)
  split at E <;> omega
end Go.Proofs.Nn

/- Steps. -/
import Derived.Test.YtebfaobobccikaaGreatDoorLP11
import Derived.Lib.AppendZeros
set_option linter.all false
set_option maxRecDepth 99999
set_option maxHeartbeats 0
open Go.SL
open Go.Value renaming int->V,slice->X
open Go.Obj renaming cells->Y
open Go renaming World->R,Value->O
open Go.Proofs.Tryz renaming prog->Q
open Option renaming some->U,none->W
open Bool renaming false->Y'
open Go.Proofs.Tryz
open Prod renaming fst->A3
open List renaming getD->B3,length_append->D3,getElem?_eq_getElem->G3,map_append->H3,length_nil->J3,length_map->K3,getElem_mem->P3,nodup_append->X3,length_cons->Y3,take_length->K4,setIfInBounds_toArray->L4,set_cons_zero->R4,map_map->V4,foldl_cons->W4,mem_cons_of_mem->X4,mem_cons_self->Y4,append_assoc->E5,getElem?_set->K5,mem_append->T5,length_replicate->X5,getElem?_replicate->Y5,length_filter_le->Z5
open Int renaming toNat_natCast->L3,emod_nonneg->V3,toNat_of_nonneg->Z3,eq_ofNat_of_zero_le->J4,emod_eq_of_lt->L5,emod_lt_of_pos->S5,natCast_add->V5,emod_add_mul_ediv->C6,sub_mul_emod_self_left->D6
open Nat renaming le_refl->R3,zero_add->T4,add_assoc->Z4
open Option renaming getD_some->S4,isSome_some->W5
namespace Go.Proofs.Nn
open RowKit SL
attribute [local go_sem] Oper.semAt_some
variable {S S':Hp} {F G:ai} {w:R}
theorem mX:(prog.info? 188).map (fun i=>(i.zero,i.size,i.bytes))=U (U (.agg #[V .i64 0,X W 0 0]),2,32):=by kernel_rfl
def QV (S:Hp) (j d r t m:Nat) (own:KV) (c:Mv) (F:ai) (w:R) (e:Ending) (g:R):Prop:=
 ∃ (f:Hp) (v:O) (Z:Zs),Ext S f/\e = .returned (.tuple #[v,V .i64 c.1.1])/\Z.map (fun z=>(z.1,z.2.2))=c.1.2/\(∀ z ∈ Z,ru 5 f z.2.1 z.2.2) /\
  ag g (jJ j d r t c.2.1*(aS f d c.2.2*(aq f*(sl 188 2 v Z.length (bR Z)*(mp m own*F)))))/\aj w g
def kX (S:Hp) (d m bl bj bo b6 b7 j:Nat) (own:KV) (J:Jr) (D:aC) (F:ai) (ys:List (Int × Int)):ai:=ex fun q:Hp × O × Zs=>
 fact (Ext S q.1/\(J.cl D own ys).1.1=0/\q.2.2.map (fun z=>(z.1,z.2.2))=(J.cl D own ys).1.2/\∀ z ∈ q.2.2,ru 5 q.1 z.2.1 z.2.2) *
  (pt bl (Y #[q.2.1] 125 (0,0))*(sl 188 2 q.2.1 q.2.2.length (bR q.2.2)*(aS q.1 d (J.cl D own ys).2.2*(aq q.1 *
   (pt bj (Y #[az j] 122 (0,0))*(pt bo (Y #[.map (U m)] 177 (0,0))*(pt b6 (Y #[X W 0 0] 125 (0,0))*(pt b7 (Y #[V .i64 0] 28 (0,0))*(mp m own*F)))))))))
def Er (S:Hp) (j d r t m b6 b7:Nat) (own:KV) (J:Jr) (D:aC) (F:ai) (ys:List (Int × Int)):ai:=ex fun c:Hp=>
 fact (Ext S c/\(J.cl D own ys).1.1≠0/\(J.cl D own ys).1.2=[])*(jJ j d r t (J.cl D own ys).2.1*(pt b6 (Y #[X W 0 0] 125 (0,0))*(pt b7 (Y #[V .i64 (J.cl D own ys).1.1] 28 (0,0))*(aS c d (J.cl D own ys).2.2*(aq c*(mp m own*F))))))
theorem s4 {d m bl bj bo b6 b7 j:Nat} {own:KV} {J:Jr} {D:aC} {ys:List (Int × Int)} (h:ag w (kX S d m bl bj bo b6 b7 j own J D F ys*G)) :
  ∃ (S':Hp) (v:O) (Z:Zs),Ext S S'/\(J.cl D own ys).1.1=0/\Z.map (fun z=>(z.1,z.2.2))=(J.cl D own ys).1.2/\(∀ z ∈ Z,ru 5 S' z.2.1 z.2.2) /\
   ag w (pt bl (Y #[v] 125 (0,0))*(sl 188 2 v Z.length (bR Z)*(aS S' d (J.cl D own ys).2.2*(aq S' *
   (pt bj (Y #[az j] 122 (0,0))*(pt bo (Y #[.map (U m)] 177 (0,0))*(pt b6 (Y #[X W 0 0] 125 (0,0))*(pt b7 (Y #[V .i64 0] 28 (0,0))*(mp m own*(F*G)))))))))):=by
 obtain ⟨q,h⟩:=ag.ax.1 h;obtain ⟨⟨c,e,f,g⟩,l⟩:=ag.au.1 (h.to (ay _ _ _));exact ⟨q.1,q.2.1,q.2.2,c,e,f,g,l.to (by ac_rfl)⟩
theorem np {d m bl bj bo b6 b7 j:Nat} {own:KV} {J:Jr} {D:aC} {ys:List (Int × Int)} {v:O} {Z:Zs} (c:Ext S S') (e:(J.cl D own ys).1.1=0)
  (f:Z.map (fun z=>(z.1,z.2.2))=(J.cl D own ys).1.2) (g:∀ z ∈ Z,ru 5 S' z.2.1 z.2.2)
  (h:ag w (pt bl (Y #[v] 125 (0,0))*(sl 188 2 v Z.length (bR Z)*(aS S' d (J.cl D own ys).2.2*(aq S' *
   (pt bj (Y #[az j] 122 (0,0))*(pt bo (Y #[.map (U m)] 177 (0,0))*(pt b6 (Y #[X W 0 0] 125 (0,0))*(pt b7 (Y #[V .i64 0] 28 (0,0))*(mp m own*(F*G))))))))))):ag w (kX S d m bl bj bo b6 b7 j own J D F ys*G):=
 by
 unfold kX;exact ag.ax.2 ⟨(S',v,Z),(ag.au.2 ⟨⟨c,e,f,g⟩,h⟩:ag w (fact (_/\_/\_/\_)*_)).to (by ac_rfl)⟩
theorem AN {j d r t m b6 b7:Nat} {own:KV} {J:Jr} {D:aC} {ys:List (Int × Int)} (c:Ext S S') (e:(J.cl D own ys).1.1≠0) (f:(J.cl D own ys).1.2=[])
  (h:ag w (jJ j d r t (J.cl D own ys).2.1*(pt b6 (Y #[X W 0 0] 125 (0,0))*(pt b7 (Y #[V .i64 (J.cl D own ys).1.1] 28 (0,0))*(aS S' d (J.cl D own ys).2.2*(aq S'*(mp m own*(F*G)))))))) :
  ag w (Er S j d r t m b6 b7 own J D F ys*G):=
 by
 unfold Er;exact ag.ax.2 ⟨S',(ag.au.2 ⟨⟨c,e,f⟩,h⟩:ag w (fact (_/\_/\_)*_)).to (by ac_rfl)⟩
theorem oR {c:Array O} {b6 b7:Nat} {v u:O} (f:c[6]?=U (.pointer (U ⟨b6,0,W⟩))) (g:c[7]?=U (.pointer (U ⟨b7,0,W⟩))) (d:w.cell? ⟨b6,0,W⟩=U v) (e:w.cell? ⟨b7,0,W⟩=U u) :
  (results Tryz.f132 c).run Q w = .ok (.tuple #[v,u]) w:=by
 simp [results,Tryz.results132,go_sem,f,g,d,e]
theorem EI (Z:Zs) (z:Int × O × List UInt8):bR (Z++[z])=bR Z++[V .i64 z.1,z.2.1]:=by simp [bR]
theorem CZ (w:R) (S:Hp) (j d r t m:Nat) (J:Jr) (D:aC) (own:KV) (n:Nat) (F:ai) (c0:ag w (jJ j d r t J*(aS S d D*(aq S*(mp m own*F))))) (hJ:J.Ok) (hD:D.Ok) (hn:n<=J.P) :
  Calls Q 132 #[az j,V .i64 (n:Int),.map (U m)] w (QV S j d r t m own (J.cl D own (bY J.T J.P (Jr.tail J) n)) F w):=by
 obtain ⟨i0,hi,hz,F0,D0⟩:=info_parts mX;refine (callsIn_wide (n:=9)).1 ?_;refine callsIn_of_wp_marks func132 rfl trivial ?_ rfl;simp only [ntmps132,List.size_toArray,Y3,J3,Nat.reduceAdd,Nat.reduceSub,Array.replicate_succ,Array.replicate_zero,List.push_toArray,List.append_toArray,List.nil_append,List.cons_append];have I:=((((c0.alloc (Y #[az j] 122 (0,0))).alloc (Y #[.map (U m)] 177 (0,0))).alloc (Y #[X W 0 0] 125 (0,0))).alloc (Y #[V .i64 0] 28 (0,0))).alloc (Y #[X W 0 0] 125 (0,0));have d1:=(((((aj.refl w).alloc (Y #[az j] 122 (0,0))).alloc (Y #[.map (U m)] 177 (0,0))).alloc (Y #[X W 0 0] 125 (0,0))).alloc (Y #[V .i64 0] 28 (0,0))).alloc (Y #[X W 0 0] 125 (0,0));simp only [World.size_alloc] at I
 gi_wp2_with fail
 generalize ((((w.alloc (Y #[az j] 122 (0,0))).alloc (Y #[.map (U m)] 177 (0,0))).alloc (Y #[X W 0 0] 125 (0,0))).alloc (Y #[V .i64 0] 28 (0,0))).alloc (Y #[X W 0 0] 125 (0,0))=w1 at I d1 ⊢;generalize w.heap.size+1+1+1+1=s at I ⊢;generalize w.heap.size+1+1+1=f at I ⊢;generalize w.heap.size+1+1=e at I ⊢;generalize w.heap.size+1=z at I ⊢;generalize w.heap.size=bj at I ⊢;refine nG (Jq w1 j (n:Int)) ?_;rintro b1 w2 ⟨rfl,rfl⟩;have h2:=(I.alloc (Y #[az j] 122 (0,0))).alloc (Y #[V .i64 (n:Int)] 3 (0,0));have d2:=(d1.alloc (Y #[az j] 122 (0,0))).alloc (Y #[V .i64 (n:Int)] 3 (0,0));simp only [World.size_alloc] at h2
 gi_wp2_with fail
 generalize (w1.alloc (Y #[az j] 122 (0,0))).alloc (Y #[V .i64 (n:Int)] 3 (0,0))=w2 at h2 d2 ⊢;generalize w1.heap.size+1=cn at h2 ⊢;generalize w1.heap.size=cj at h2 ⊢;clear I d1 c0
 have hE:ag w2 ((jJ j d r t J*kX S d m s bj z e f j own J D F [])*(gO cj cn j n*emp)):=by
  have P:=h2.eQ 188 2
  have h4:ag w2 (kX S d m s bj z e f j own J D F []*(gO cj cn j n*jJ j d r t J)):=np (S':=S) (v:=X W 0 0) (Z:=[]) (Ext.refl S) rfl rfl (by simp)
   (P.to (by unfold gO;simp only [Jr.cl,List.foldl_nil,J3,bR,List.flatMap_nil];ac_rfl))
  exact h4.to (by rw [rp];ac_rfl)
 clear h2
 refine me (w0:=w) rfl (by decide) (gf:=227) (lb:=#[.pointer (U ⟨cj,0,W⟩),.pointer (U ⟨cn,0,W⟩)]) rfl trivial (enters func227 (by kernel_rfl) rfl)
  (Ip _ cj cn j d r t J n hJ hn)
  (fun x tt=>(((tt.setIfInBounds 18 (V .i64 x.1)).setIfInBounds 19 (V .i64 x.2)).setIfInBounds 9 (V .i64 x.1)).setIfInBounds 10 (V .i64 x.2))
  (fun E=>jJ j d r t J*kX S d m s bj z e f j own J D F E) (fun a1=>vK (Aq _ _) a1)
  (fun L0 E=>fact (L0 = .ret)*Er S j d r t m e f own J D F E)
  (fun u x=>jJ j d r t J*kX S d m s bj z e f j own J D F u) emp ?hps d2 hE ?assign ?body ?done ?stop
 case hps=>
  intro x vs C o c0;unfold Au at c0;obtain ⟨rfl,_⟩:=ag.au.1 c0
  rfl
 case assign=>
  intro l K u x vs C o f1 _ b0 H hK;have H1:=H.ah;unfold Au at H1;obtain ⟨rfl,h⟩:=ag.au.1 H1;clear H H1
  gi_wp2
  exact hK _ b0 h
 case done=>
  intro D2 E o hS b0 H;subst hS;obtain ⟨g,v,Z,d0,B,hZ,hV,h⟩:=s4 (H.to (by ac_rfl):ag o (kX S d m s bj z e f j own J D F (bY J.T J.P (Jr.tail J) n)*(jJ j d r t J*(gO cj cn j n*(pt D2 (.deferred (U []))*emp)))));have kl:o.cell? ⟨s,0,W⟩=U v:=h.cell 0;have k6:o.cell? ⟨e,0,W⟩=U (X W 0 0):=h.bZ.cell 0;have f6:o.frozen? ⟨e,0,W⟩=Y':=h.bZ.frozen 0;have G:=(h.bZ.setCell 0 v).eu;have k7:(o.setCell ⟨e,0,W⟩ v).cell? ⟨f,0,W⟩=U (V .i64 0):=G.cell 0;have f7:(o.setCell ⟨e,0,W⟩ v).frozen? ⟨f,0,W⟩=Y':=G.frozen 0;have H4:=G.setCell 0 (V .i64 0);have d4:=(b0.setCell ⟨e,0,W⟩ v).setCell ⟨f,0,W⟩ (V .i64 0);obtain ⟨va,vc,rfl⟩:=aE h.ah;have hj:=Jr.vz B;generalize J.cl D own (bY J.T J.P (Jr.tail J) n)=k0 at *;obtain ⟨⟨rc,rl⟩,N,D'⟩:=k0;simp only at B hj hZ;subst B hj;have HH:=ae H4;clear H h G H4 hE d2;have HD:=ae d4;clear d4
  gi_wp2
  generalize (o.setCell ⟨e,0,W⟩ (X va Z.length vc)).setCell ⟨f,0,W⟩ (V .i64 0)=W3 at HH HD ⊢
  have H5:ag W3 (pt D2 (.deferred (U []))*(pt e (Y #[X va Z.length vc] 125 (0,0))*(pt f (Y #[V .i64 0] 28 (0,0))*(jJ j d r t N*(aS g d D'*(aq g*(sl 188 2 (X va Z.length vc) Z.length (bR Z)*(mp m own*F)))))))):=by
   have c0:=HH.out;simp only [L4,R4] at c0;exact (c0.to (by ac_rfl:_=(pt s (Y #[X va Z.length vc] 125 (0,0))*(pt bj (Y #[az j] 122 (0,0))*(pt z (Y #[.map (U m)] 177 (0,0))*(gO cj cn j n*emp))))*(pt D2 (.deferred (U []))*(pt e (Y #[X va Z.length vc] 125 (0,0))*(pt f (Y #[V .i64 0] 28 (0,0))*(jJ j d r t N*(aS g d D'*(aq g*(sl 188 2 (X va Z.length vc) Z.length (bR Z)*(mp m own*F)))))))))).right
  have hK:=H5.heap;have M:=(H5.putObj (.deferred W)).right;refine ⟨by simp,.inl ⟨_,_,rfl,run_takeDeferred hK,?_⟩⟩;exact ⟨_,oR rfl rfl (M.cell 0) (M.ah.cell 0),g,_,Z,d0,rfl,hZ,hV,M.right.right,HD.out.putObj _ _⟩
 case stop=>
  intro D2 L0 E o f0 b0 H0;obtain ⟨rfl,H⟩:=ag.au.1 (H0.to (ay _ _ _));obtain ⟨g,H1⟩:=ag.ax.1 H;obtain ⟨⟨d0,B,S0⟩,h⟩:=ag.au.1 (H1.to (ay _ _ _));have c:=Jr.Dc B f0
  have G:ag o (pt D2 (.deferred (U []))*(pt e (Y #[X W 0 0] 125 (0,0))*(pt f (Y #[V .i64 (J.cl D own E).1.1] 28 (0,0))*(jJ j d r t (J.cl D own E).2.1*(aS g d (J.cl D own E).2.2*(aq g*(mp m own*F))))))):=
   (h.to (by ac_rfl:_=(gO cj cn j n*emp)*(pt D2 (.deferred (U []))*(pt e (Y #[X W 0 0] 125 (0,0))*(pt f (Y #[V .i64 (J.cl D own E).1.1] 28 (0,0))*(jJ j d r t (J.cl D own E).2.1*(aS g d (J.cl D own E).2.2*(aq g*(mp m own*F))))))))).right
  rw [c];have hK:=G.heap;have H4:=(G.putObj (.deferred W)).right;have H5:=H4.right.right.eQ 188 2;have HD:=ae (b0.putObj D2 (.deferred W));have HN:=ae S0;have G0:=ae H4;have Y0:=ae H5;generalize J.cl D own E=k0 at *;clear H0 H H1 h G H4 H5 hE d2 c B S0
  gi_wp2
  refine ⟨by simp,.inl ⟨_,_,rfl,run_takeDeferred hK,?_⟩⟩;exact ⟨_,oR rfl rfl (G0.out.cell 0) (G0.out.ah.cell 0),g,X W 0 0,[],d0,rfl,by rw [HN.out];rfl,by simp,Y0.out.to (by ac_rfl),HD.out⟩
 case body=>
  intro l K u x C o f0 b0 H;obtain ⟨id,p⟩:=x;obtain ⟨g,v,Z,d0,B,hZ,hV,h⟩:=s4 (H.to (by ac_rfl):ag o (kX S d m s bj z e f j own J D F u*(jJ j d r t J*(pt l (.loop K)*C))));have c:=J.ED D own u (id,p);unfold Jr.cR at c;rw [if_neg (by simpa using B),Jr.vz B] at c;dsimp only at c
  have o1:Z.length<=n:=by
   have I:=f0.length_le;have h2:=kC J.T J.P (Jr.tail J) n;have P:=Jr.xZ (J:=J) (D:=D) (own:=own) u;rw [<- hZ,K3] at P;simp only [D3,Y3,J3] at I;omega
  have hP:=hJ.p1;have N0:(J.cl D own u).2.2.Ok:=(J.tu hD own u).ok hD (by have:=hD.many;omega);have kj:o.cell? ⟨bj,0,W⟩=U (az j):=h.aM.cell 0;have ko:o.cell? ⟨z,0,W⟩=U (.map (U m)):=h.dI.cell 0;have g0:=ag.lookup (P:=Q) underlying177 underlying3 (z:=V .i64 0) (by kernel_rfl) h.kT id true
  cases hk:aP own id with
  | some q=>
   rw [hk] at c g0;simp only [W5,if_true,S4] at c g0
   have G:ag o ((jJ j d r t J*kX S d m s bj z e f j own J D F (u++[(id,p)]))*(pt l (.loop K)*C)):=by
    have:=np (S:=S) (S':=g) (own:=own) (J:=J) (D:=D) (ys:=u++[(id,p)]) (F:=F) (G:=jJ j d r t J*(pt l (.loop K)*C)) (v:=v) (Z:=Z) d0 (by rw [c];exact B) (by rw [c];exact hZ) hV (by rw [c];exact h);exact this.to (by ac_rfl)
   have X0:=ae G;clear H h G c hk f0 hE d2
   gi_wp2
   exact ⟨b0,X0.out⟩
  | none=>
   rw [hk] at c g0;simp only [Option.isSome_none,if_true,Option.getD_none,if_neg Bool.false_ne_true] at c g0
   have hl:=xJ o g j d r t J (J.cl D own u).2.2 id p _ (h.to (by ac_rfl:_=jJ j d r t J*(aS g d (J.cl D own u).2.2*(aq g*(pt s (Y #[v] 125 (0,0))*(sl 188 2 v Z.length (bR Z) *
    (pt bj (Y #[az j] 122 (0,0))*(pt z (Y #[.map (U m)] 177 (0,0))*(pt e (Y #[X W 0 0] 125 (0,0))*(pt f (Y #[V .i64 0] 28 (0,0))*(mp m own*(F*(pt l (.loop K)*C))))))))))))) hJ N0
   have m0:=rf (J:=J) (D:=(J.cl D own u).2.2) (id:=id) (p:=p);have o0:=Jr.EW (J:=J) (D:=(J.cl D own u).2.2) (id:=id) (p:=p);have p1:Z.length+1<=20001:=by omega
   generalize hR:J.load (J.cl D own u).2.2 id p=k0 at hl c m0 o0;obtain ⟨⟨rc,rl⟩,N,D'⟩:=k0;dsimp only at hl c m0 o0;have j0:=ae c;have r0:=ae m0;have s0:=ae o0;have HZ:=ae hZ;have HV:=ae hV;have K0:=ae d0;clear H h c hk f0 hE d2 hR m0 o0 hZ hV d0 N0 B
   gi_wp2_with fail
   refine rU hl ?_;rintro b1 w3 ⟨dv,rfl,P,d3⟩;clear hl kj ko g0
   by_cases e0:rc=0
   .subst e0
    obtain rfl:=s0.out rfl;have c:=j0.out;rw [if_pos rfl] at c;have c1:=r0.out rfl
    obtain ⟨S3,l0,x0,h4⟩:=ag.yS (P.uz.to (by ac_rfl:_=aq g*(bs 5 dv rl*(pt s (Y #[v] 125 (0,0))*(sl 188 2 v Z.length (bR Z)*(jJ j d r t N*(aS g d D' *
     (pt bj (Y #[az j] 122 (0,0))*(pt z (Y #[.map (U m)] 177 (0,0))*(pt e (Y #[X W 0 0] 125 (0,0))*(pt f (Y #[V .i64 0] 28 (0,0))*(mp m own*(F*(pt l (.loop K)*C)))))))))))))) (by unfold small;omega)
    obtain ⟨da,dc,rfl⟩:∃ da dc,dv = X da rl.length dc:=by
     rcases x0.2 with ⟨rfl,B⟩|⟨i1,g1,h1,rfl,_⟩
     .exact ⟨_,_,by rw [B];rfl⟩
     .exact ⟨_,_,rfl⟩
    have h5:ag w3 (sl 188 2 v Z.length (bR Z)*(pt s (Y #[v] 125 (0,0))*(aS S3 d D'*(aq S3*(pt bj (Y #[az j] 122 (0,0))*(pt z (Y #[.map (U m)] 177 (0,0))*(pt e (Y #[X W 0 0] 125 (0,0))*(pt f (Y #[V .i64 0] 28 (0,0))*(mp m own*(F*(jJ j d r t N*(pt l (.loop K)*C)))))))))))):=
     ((h4.to (by ac_rfl:_=aS g d D'*(sl 188 2 v Z.length (bR Z)*(pt s (Y #[v] 125 (0,0))*(aq S3*(pt bj (Y #[az j] 122 (0,0))*(pt z (Y #[.map (U m)] 177 (0,0))*(pt e (Y #[X W 0 0] 125 (0,0))*(pt f (Y #[V .i64 0] 28 (0,0))*(mp m own*(F*(jJ j d r t N*(pt l (.loop K)*C))))))))))))).fp (xP l0)).to (by ac_rfl)
    have j1:w3.cell? ⟨s,0,W⟩=U v:=h5.ah.cell 0;have l1:=h5.ah.frozen 0;have u0:=h5.alloc (Y #[V .i64 id,X da rl.length dc] 188 (0,0))
    have R0:oG (w3.alloc (Y #[V .i64 id,X da rl.length dc] 188 (0,0))) 2 (X (U ⟨w3.heap.size,0,W⟩) 1 1) 1 [V .i64 id,X da rl.length dc]:=
     ⟨rfl,.inr ⟨_,_,rfl,fun j r1 hu=>by
      rw [Addr.add_lit,T4];exact (u0.cell j).trans (by simpa using hu)⟩⟩
    obtain ⟨v',w',T0,h0,W0⟩:=ag.append (P:=Q) (ty:=125) underlying125 hi hz F0 D0 rfl u0.right R0 (by simp [Value.oneCell']) (by unfold maxLen;omega) (by omega);obtain ⟨aa,ac,rfl⟩:=aE h0;obtain ⟨wa,wc,rfl⟩:=aE h5;have k1:=h0.ah.cell 0;have m1:=h0.ah.frozen 0;have V0:=h0.ah.setCell 0 (X aa (Z.length+1) ac);have D5:=(((b0.trans d3).alloc (Y #[V .i64 id,X da rl.length dc] 188 (0,0))).trans W0).setCell ⟨s,0,W⟩ (X aa (Z.length+1) ac)
    have M:=np (S:=S) (S':=S3) (d:=d) (m:=m) (bl:=s) (bj:=bj) (bo:=z) (b6:=e) (b7:=f) (j:=j) (own:=own) (J:=N) (D:=D) (ys:=u++[(id,p)]) (F:=F) (G:=jJ j d r t N*(pt l (.loop K)*C)) (v:=X aa (Z.length+1) ac) (Z:=Z++[(id,X da rl.length dc,rl)]) (K0.out.trans l0) (by rw [c])
     (by rw [c,H3,HZ.out];rfl) (fun e1 hz=>by
      rcases List.mem_append.1 hz with hz|hz
      .exact (HV.out e1 hz).mono l0
      .rw [List.mem_singleton.1 hz];exact x0) (by
      rw [c];refine V0.to ?_;simp only [L4,R4,EI,D3,Y3,J3,T4])
    have Z0:=ae T0;have q0:=ae M;have p0:=ae D5;clear T0 R0 u0 hi hz F0 D0 h4 h5 h0 V0 M D5 c c1 x0 l0 P W0 j0 r0 s0 d3
    gi_wp2_with (gi_at_builtin;refine dj Z0.out _ _ rfl rfl rfl rfl rfl ?_)
    exact ⟨p0.out,q0.out.to (by ac_rfl)⟩
   .have c:=j0.out
    rw [if_neg e0] at c;have h4:=(P.Cz e0).2;obtain rfl:=(P.Cz e0).1;have q1:(rc == 0)=Y':=by simpa using e0
    have k6:w3.cell? ⟨e,0,W⟩=U (X W 0 0):=h4.eu.cell 0;have f6:w3.frozen? ⟨e,0,W⟩=Y':=h4.eu.frozen 0;have H7:=(h4.eu.setCell 0 (X W 0 0)).kT;have k7:=H7.cell 0;have f7:(w3.setCell ⟨e,0,W⟩ (X W 0 0)).frozen? ⟨f,0,W⟩=Y':=H7.frozen 0;have H8:=H7.setCell 0 (V .i64 rc);simp only [L4,R4] at H8;have D5:=((b0.trans d3).setCell ⟨e,0,W⟩ (X W 0 0)).setCell ⟨f,0,W⟩ (V .i64 rc)
    have M:=AN (S:=S) (S':=g) (j:=j) (d:=d) (r:=r) (t:=t) (m:=m) (b6:=e) (b7:=f) (own:=own) (J:=J) (D:=D) (ys:=u++[(id,p)]) (F:=F) (G:=pt l (.loop K)*C) K0.out (by rw [c];exact e0) (by rw [c]) (by
     rw [c];exact (H8.to (by ac_rfl:_=(pt s (Y #[v] 125 (0,0))*(sl 188 2 v Z.length (bR Z)*(pt bj (Y #[az j] 122 (0,0))*pt z (Y #[.map (U m)] 177 (0,0)))))*(jJ j d r t N*(pt e (Y #[X W 0 0] 125 (0,0))*(pt f (Y #[V .i64 rc] 28 (0,0))*(aS g d D'*(aq g*(mp m own*(F*(pt l (.loop K)*C)))))))))).right)
    have q0:=ae M;have p0:=ae D5;clear hi hz F0 D0 P h4 H7 H8 M D5 c j0 r0 s0 e0 d3
    gi_wp2
    exact ⟨p0.out,(ag.au.2 ⟨rfl,q0.out⟩:ag _ (fact (Code.ret=Code.ret)*_)).to (ay _ _ _).symm⟩
end Go.Proofs.Nn
namespace Go.Proofs.Nn
open RowKit SL
def St (w:R) (e:Ending) (c:R):Prop:=∃ v,e = .returned v/\ag c (sl 188 2 v 0 []*whole w)/\aj w c
theorem MQ (w:R) (n:Nat) (I:n<=1000000):Calls Q 177 #[X W 0 0,V .i64 (n:Int)] w (St w):=by
 obtain ⟨F,B,E,C,s⟩:=info_parts mX
 by_cases l:n=0
 .subst l
  go_enter func177,ntmps177
  go_wp2
  go_ret
  exact ⟨_,rfl,(ag.whole w).eQ _ _,aj.refl w⟩
 .have c:=fun w=>Lib.run_append_nil_zeros (P:=Q) w 125 3 125 188 F _ .i64 .i64 underlying125 underlying3 B E n (by omega) (by rw [C];decide) (by omega) (by rw [s];omega)
  have z:=grownCap_ge w n 0 188;have f:=grownCap_le_maxLen w n 0 188 (by unfold maxLen;omega);have c:=c w;generalize H:grownCap w n 0 188=e at c z f;generalize o:Builtin.zeroCells (Value.agg #[V .i64 0,X W 0 0]).cells n++Builtin.zeroCells (Value.agg #[V .i64 0,X W 0 0]).cells (e-n)=d at c;have r:d.size=e*2:=by rw [<- o];simp [size_zeroCells,Value.cells];omega
  have u:ag (w.drew.alloc (Y d 188)) (sl 188 2 (X (U ⟨w.heap.size,0,W⟩) 0 e) 0 []*whole w):=by
   have m:=((ag.whole w).drew.alloc (Y d 188 (0,0))).nj (n:=0) (sz:=2) (by omega) f r;simpa using m
  have j:=(aj.refl w).drew.alloc (Y d 188 (0,0));have G:(0:Int)<(n:Int):=by omega
  have h:=ae u;have g:=ae j
  go_enter func177,ntmps177
  go_wp2_with (at_builtin;refine Lib.wpList_append_run _ rfl _ _ _ _ rfl _ _ rfl rfl _ _ c ?_)
  go_ret
  exact ⟨_,rfl,h.out,g.out⟩
def upto {c:Type} (k:Nat) (x y z:c):c:=if k=0 then x else if k=1 then y else z
def OR (n:Nat) (d:List O) (w:R) (e:Ending) (c:R):Prop:=∃ v,e = .returned v/\ag c (sl 188 2 v n d*whole w)/\aj w c
def GQ (n m:Nat) (c d:List O) (w:R) (u i:O) (wr:R):Prop:=
 ∃ k:Nat,k<=2/\i = V .i64 (k:Int)/\ag wr (sl 188 2 u (upto k 0 n (n+m)) (upto k [] c (c++d))*whole w)/\aj w wr
theorem Ec (w:R) (g n m:Nat) (E F:Option Addr) (G H:Nat) (f j:List O) (h0:w.cell? ⟨g,0,W⟩=U (X E n G)) (h1:w.cell? ⟨g,1,W⟩=U (X F m H))
  (hx:oG w 2 (X E n G) n f) (hy:oG w 2 (X F m H) m j) (ox:∀ u ∈ f,u.oneCell'=true) (oy:∀ u ∈ j,u.oneCell'=true) (hn:n<=500000) (hm:m<=500000) :
  Calls Q 133 #[X (U ⟨g,0,W⟩) 2 2] w (OR (n+m) (f++j) w):=by
 obtain ⟨i0,hi,hz,c0,b0⟩:=info_parts mX;have I:=MQ w (n+m) (by omega);rw [show ((n+m:Nat):Int)=(n:Int)+(m:Int) by omega] at I;have K:=ae hx;have M:=ae hy;have N:=ae ox;have P:=ae oy;have z:=ae hi;have C:=ae hz;have B:=ae c0;have s:=ae b0
 go_enter func133,ntmps133
 go_wp2_with fail
 go_loop [3,11] (fun u i=>∃ k:Nat,k<=2/\i = V .i64 (k:Int)/\u = V .i64 (upto k 0 (n:Int) ((n:Int)+(m:Int)))) (fun _ i=>2-(intOf i).toNat)
 case atStart=>exact ⟨0,by omega,rfl,rfl⟩
 case round=>
  obtain ⟨k,hk,rfl,rfl⟩:=hrel;obtain rfl|rfl|rfl:k=0\/k=1\/k=2:=by omega
  .simp only [upto,if_true]
   go_wp2_with fail
   go_round
   case rel=>exact ⟨1,by omega,by go_num,by simp [upto]⟩
   case measure=>simp [intOf]
  .simp only [upto,if_true,if_neg (show ¬ (1:Nat)=0 by decide)]
   go_wp2_with fail
   go_round
   case rel=>exact ⟨2,by omega,by go_num,by simp [upto]⟩
   case measure=>simp [intOf]
  .simp only [upto,if_neg (show ¬ (2:Nat)=0 by decide),if_neg (show ¬ (2:Nat)=1 by decide)]
   go_wp2_with fail
   (refine I.mono ?_)
   rintro d0 w1 ⟨v,rfl,h2,d2⟩
   go_wp2_with fail
   go_loopw [6,27] (fun u i wr=>GQ n m f j w u i wr) (fun _ i _=>2-(intOf i).toNat)
   case atStart=>exact ⟨0,by omega,rfl,h2,d2⟩
   case round=>
    obtain ⟨k,hk,rfl,c,o⟩:=hrel;have k0:=c.cF h0;have k1:=c.cF h1;obtain rfl|rfl|rfl:k=0\/k=1\/k=2:=by omega
    .simp only [upto,if_true] at c
     obtain ⟨va,vc,rfl⟩:=aE c;obtain ⟨v',w',l,e,r⟩:=ag.append (P:=Q) (ty:=125) underlying125 z.out C.out B.out s.out rfl c (K.out.carry fun a u h=>c.cF h) N.out (by unfold maxLen;omega) (by omega);have d:=ae e;have Hd:=ae (o.trans r);obtain ⟨S,bc,rfl⟩:=aE e
     go_wp2_with (at_builtin;refine wpList_append_run l _ _ rfl rfl rfl rfl rfl ?_)
     go_roundw
     case rel=>exact ⟨1,by omega,by go_num,by simpa [upto] using d.out,Hd.out⟩
     case measure=>simp [intOf]
    .simp only [upto,if_true,if_neg (show ¬ (1:Nat)=0 by decide)] at c
     obtain ⟨va,vc,rfl⟩:=aE c;obtain ⟨v',w',l,e,r⟩:=ag.append (P:=Q) (ty:=125) underlying125 z.out C.out B.out s.out rfl c (M.out.carry fun a u h=>c.cF h) P.out (by unfold maxLen;omega) (by omega);have d:=ae e;have Hd:=ae (o.trans r);obtain ⟨S,bc,rfl⟩:=aE e
     go_wp2_with (at_builtin;refine wpList_append_run l _ _ rfl rfl rfl rfl rfl ?_)
     go_roundw
     case rel=>exact ⟨2,by omega,by go_num,by simpa [upto] using d.out,Hd.out⟩
     case measure=>simp [intOf]
    .simp only [upto,if_neg (show ¬ (2:Nat)=0 by decide),if_neg (show ¬ (2:Nat)=1 by decide)] at c
     have d:=ae c;have Hd:=ae o
     go_wp2
     go_ret
     exact ⟨_,rfl,d.out,Hd.out⟩
end Go.Proofs.Nn
namespace Go.SL
open RowKit
abbrev Bl:=List (Int × List UInt8)
def cq (Z:List Wr):Bl:=Z.map fun z=>(z.1,z.2.2)
def mh (L:Bl):List Wr:=L.map fun x=>(x.1,X W 0 0,x.2)
theorem oZ (L:Bl):cq (mh L)=L:=by
 unfold cq mh;rw [V4];exact List.map_id L
theorem jT (Z:List Wr):(cq Z).length=Z.length:=by simp [cq]
theorem gx (Z:List Wr) (k:Nat):(Z.getD k Wr.nil).1=((cq Z).getD k (0,[])).1/\(Z.getD k Wr.nil).2.2=((cq Z).getD k (0,[])).2:=by
 simp only [cq,B3,List.getElem?_map];cases Z[k]? <;> simp [Wr.nil]
theorem Jr.yX (J:Jr) (D:aC) {Z Z':List Wr} (h:cq Z=cq Z') (k:Nat):J.bM D Z k=J.bM D Z' k:=by
 have c:Z.length=Z'.length:=by rw [<- jT,h,jT]
 induction k with
 | zero=>rfl
 | succ k d=>
  rw [Jr.bM,Jr.bM,d,(gx Z k).1,(gx Z k).2,(gx Z' k).1,(gx Z' k).2,h,c]
theorem Dr {Z Z':List Wr} (h:cq Z=cq Z') (k:Nat):fu Z k=fu Z' k:=by
 induction k with
 | zero=>rfl
 | succ k c=>rw [fu,fu,c,(gx Z k).1,(gx Z' k).1,h]
def Jr.fT (J:Jr) (L:Bl):Nat->Tb
 | 0=>J.T
 | k+1=>((Jr.fT J L k).put (L.getD k (0,[])).1 ((J.hd+(k:Int))%(J.P:Int))).2
def Jr.aU (J:Jr) (n:Nat):Int:=if J.us<2*(n:Int) then J.us else 2*(n:Int)
def Jr.done (J:Jr) (L:Bl) (c:Int):Jr:=
 { J with T:=J.fT L L.length,sq:=J.sq+1,hd:=(J.hd+(L.length:Int))%(J.P:Int),us:=J.us+((L.length:Int)-c),fr:=c }
structure Tb.Kg (T:Tb):Prop where
 os:∀ v ∈ T.os,v=-1\/(0<=v/\v<T.ps.length)
theorem mem_set {l:List Int} {i:Nat} {x v:Int} (h:v ∈ l.set i x):v=x\/v ∈ l:=by grind
theorem Tb.Mt {T:Tb} (h:T.Kg) (id p:Int):(T.put id p).2.Kg:=by
 refine ⟨fun v c=>?_⟩;rw [(T.nX id p).1];unfold Tb.put at c
 split at c
 .rename_i d
  rcases mem_set c with c|c
  .exact .inr ⟨by omega,by omega⟩
  .unfold Tb.drop at c
   split at c
   .rcases mem_set c with c|c
    .exact .inl c
    .exact h.os v c
   .exact h.os v c
 .exact h.os v c
theorem Jr.wy (J:Jr) (L:Bl) (k:Nat):(J.fT L k).ps.length=J.T.ps.length/\(J.fT L k).os.length=J.T.os.length:=by
 induction k with
 | zero=>exact ⟨rfl,rfl⟩
 | succ k c=>exact ⟨((Jr.fT J L k).nX _ _).1.trans c.1,((Jr.fT J L k).nX _ _).2.trans c.2⟩
theorem Jr.Jc {J:Jr} (h:J.T.Kg) (L:Bl) (k:Nat):(J.fT L k).Kg:=by
 induction k with
 | zero=>exact h
 | succ k c=>exact Tb.Mt c _ _
structure Jr.Kh (J:Jr):Prop where
 Us:1<=J.ep
 Ut:J.ep<4294967296
 Sg:1<=J.st
 aR:J.st<=J.sq+1
 Sl:0<=J.sq
 UH:J.sq<=281474976710655
 n1:J.n<=3840
 own:J.T.Kg
theorem Jr.Kh.numbers {J:Jr} (h:J.Kh) (c:J.sq<281474976710655):J.tW:=⟨h.Us,h.Ut,h.Sg,h.aR,h.Sl,c⟩
theorem Jr.fA {J:Jr} (c:0<=J.us) (n:Nat):0<=J.aU n/\J.aU n<=J.us/\J.aU n<=2*n:=by
 unfold Jr.aU
 split <;> omega
end Go.SL
namespace Go.Proofs.Nn
open RowKit SL
variable {w:R}
theorem Fe {J:Jr} (h:J.T.Ok) (L:Bl) (k:Nat):(J.fT L k).Ok:=by
 induction k with
 | zero=>exact h
 | succ k c=>exact Tb.M0 c _ _
def eW (J:Jr) (D:aC) (L:Bl):Mv:=J.cl D (fu (mh L) L.length) (bY J.T J.P (Jr.tail J) (J.aU L.length).toNat)
def vF (J:Jr) (D:aC) (L:Bl):Int × Jr × aC:=
 if (eW J D L).1.1≠0 then ((eW J D L).1.1,(eW J D L).2)
 else if (J.P:Int)-J.us-J.fr<((L++(eW J D L).1.2).length:Int) then (9,J,(eW J D L).2.2)
 else if (J.bM (eW J D L).2.2 (mh (L++(eW J D L).1.2)) (L++(eW J D L).1.2).length).1≠0 then
  ((J.bM (eW J D L).2.2 (mh (L++(eW J D L).1.2)) (L++(eW J D L).1.2).length).1,{ J with br:=true },(J.bM (eW J D L).2.2 (mh (L++(eW J D L).1.2)) (L++(eW J D L).1.2).length).2)
 else (0,J.done (L++(eW J D L).1.2) (J.aU L.length),(J.bM (eW J D L).2.2 (mh (L++(eW J D L).1.2)) (L++(eW J D L).1.2).length).2)
def eM (J:Jr) (D:aC) (ok:Bool) (L:Bl):Int × Jr × aC:=
 if ok=Y' then (1,J,D)
 else if 281474976710655<=J.sq then (12,J,D)
 else if (J.flush D).1≠0 then J.flush D
 else vF J (J.flush D).2.2 L
theorem I2 {J:Jr} {D:aC} (h:(J.flush D).1=0):(J.flush D).2.1=J/\(J.flush D).2.2=D.flush.2/\J.br=Y'/\D.flush.1=0:=by
 unfold Jr.flush at h ⊢
 split
 .rename_i c;rw [if_pos c] at h;exact absurd h (show (2:Int)≠0 by decide)
 .rename_i c
  rw [if_neg c] at h
  split
  .rename_i d;exact ⟨rfl,rfl,by simpa using c,d⟩
  .rename_i d;rw [if_neg d] at h;exact absurd h (show (2:Int)≠0 by decide)
theorem GO {J:Jr} (r:J.Ok) (j:J.Kh) {D:aC} {own:KV} {P first m:Nat}:∀ x ∈ (J.cl D own (bY J.T P first m)).1.2,0<=x.1/\x.1<3840:=by
 have B:∀ y ∈ bY J.T P first m,0<=y.1/\y.1<3840:=by
  intro y E;obtain ⟨p,_,d⟩:=List.mem_filterMap.1 E
  cases f:told J.T.os (p:Int) with
  | none=>rw [f] at d;cases d
  | some id=>
   rw [f] at d;injection d with d
   obtain ⟨k,_,l,C,w⟩:=sI f;have u:id ∈ J.T.os:=by rw [<- C,B3,G3 l];exact P3 l
   have:=j.n1;have:=r.ps;rcases j.own.os id u with e|⟨o,H⟩
   .exact absurd e w
   .rw [<- d];exact ⟨o,by show id<3840;omega⟩
 have:∀ (L:List (Int × Int)) (s:Mv),(∀ y ∈ L,0<=y.1/\y.1<3840)->(∀ x ∈ s.1.2,0<=x.1/\x.1<3840)->∀ x ∈ (L.foldl (Jr.cR own) s).1.2,0<=x.1/\x.1<3840:=by
  intro L
  induction L with
  | nil=>intro s _ h;exact h
  | cons y L G=>
   intro s g h;rw [W4];refine G _ (fun z F=>g z (X4 _ F)) ?_;unfold Jr.cR
   split
   .exact h
   .split
    .exact h
    .split
     .intro x c
      rcases List.mem_append.1 c with c|c
      .exact h x c
      .rw [List.mem_singleton.1 c];exact g y Y4
     .intro x c;cases c
 exact this _ _ B (by simp)
def NH (S:Hp) (j d:Nat) (c:Int × Jr × aC) (F:ai) (w:R) (e:Ending) (g:R):Prop:=
 ∃ f,Ext S f/\e = .returned (V .i64 c.1)/\ag g (pH j d c.2.1*(aS f d c.2.2*(aq f*F)))/\aj w g
theorem Ri {v:O} {Z:List Wr} (h:Ur w v Z):oG w 2 v Z.length (bR Z):=by
 refine ⟨qA Z,?_⟩;rcases h with ⟨rfl,rfl⟩|⟨g,o,c,rfl,_,_,r⟩
 .exact .inl ⟨rfl,rfl⟩
 .refine .inr ⟨_,_,rfl,fun i u d=>?_⟩
  have B:=qA Z;have z:i<Z.length*2:=by grind
  rw [Addr.add_lit];obtain ⟨k,s⟩:∃ k,i=k*2\/i=k*2+1:=⟨i/2,by omega⟩
  have e:k<Z.length:=by omega
  obtain ⟨l,m⟩:=xF Z k e;obtain ⟨f,j⟩:=r k e;rw [B3,G3 e] at f j;rcases s with rfl|rfl
  .rw [l] at d;injection d with d;rw [<- d];exact f
  .rw [m] at d;injection d with d;rw [<- d];exact j
theorem yg (Z:List Wr) (h:∀ z ∈ Z,∃ a n c,z.2.1 = X a n c):∀ u ∈ bR Z,u.oneCell'=true:=by
 intro u d;obtain ⟨z,f,d⟩:=List.mem_flatMap.1 d;obtain ⟨a,n,c,e⟩:=h z f;simp only [List.mem_cons,List.not_mem_nil,or_false] at d;rcases d with rfl|rfl
 .rfl
 .rw [e];rfl
theorem xo {T:TypeId} {v:O} {Z:List Wr} {F:ai} (h:ag w (sl T 2 v Z.length (bR Z)*F)):Ur w v Z:=by
 rcases h.cW with ⟨rfl,e,_,_⟩|⟨g,d,o,rfl,f,j,r,s,_⟩
 .exact .inl ⟨rfl,List.eq_nil_of_length_eq_zero e⟩
 .refine .inr ⟨g,0,d,rfl,f,j,fun k c=>?_⟩
  obtain ⟨l,m⟩:=h.jX c;rw [T4,B3,G3 c];exact ⟨l,m⟩
theorem JN {n:Int} {Z:List Wr} (h:GA n Z) {z:Wr} (d:z ∈ Z):0<=z.1/\z.1<n/\z.2.2.length=480:=by
 obtain ⟨k,c,rfl⟩:=List.getElem_of_mem d;have:=h.ok k c;unfold okW at this;rw [B3,G3 c] at this;exact ⟨this.1,this.2.1,this.2.2.1⟩
theorem CX {T:TypeId} {S:Hp} {v:O} {l:List UInt8} (h:ru T S v l):∃ a n c,v = X a n c:=by
 rcases h.2 with ⟨rfl,_⟩|⟨g,d,e,rfl,_⟩ <;> exact ⟨_,_,_,rfl⟩
theorem CP {D:aC} (h:D.flush.1=0):D.flush.2.wait=[]:=by
 unfold aC.flush at h ⊢
 split
 .rfl
 .rename_i c;rw [if_neg c] at h;exact absurd h (show (2:Int)≠0 by decide)
theorem wE:∀ c w,(callFunc 137 c).run Q w = .ok (.enter 137 c) w:=enters func137 (by kernel_rfl) rfl
def Ej (n t:Nat) (J:Jr) (L:Bl) (c:ai) (w:R) (i:O) (wr:R):Prop:=
 ∃ k:Nat,k<=n/\i = V .i64 (k:Int)/\ag wr (bO t (J.fT L k)*c)/\aj w wr
theorem BP (w:R) (S:Hp) (j d:Nat) (J:Jr) (D:aC) (F:ai) (v:O) (Z:List Wr) (h:ag w (pH j d J*(aS S d D*(aq S*F)))) (G:J.Ok) (hN:J.Kh) (hD:D.Ok)
  (hl:Z.length<=1000000) (hr:Reads S v Z F) (r0:Bool) (K:r0=true↔GA J.n Z) :
  Calls Q 77 #[az j,v] w (NH S j d (eM J D r0 (cq Z)) F w):=by
 have hv:=hr S (pH j d J*aS S d D) w (Ext.refl S) (h.to (by ac_rfl));have K1:∀ z ∈ Z,∃ a k0,z.2.1 = X a z.2.2.length k0:=fun z o=>(hv.2 z o).shape;have hb:=C9 w j d J _ h v Z hv.1 K1 hl r0 K
 obtain ⟨aa,ac,H2⟩:∃ aa ac,v = X aa Z.length ac:=by
  rcases hv.1 with ⟨rfl,h⟩|⟨V1,i3,k0,rfl,_⟩
  .rw [h];exact ⟨_,_,rfl⟩
  .exact ⟨_,_,rfl⟩
 subst H2;obtain ⟨x,hx⟩:=h.sr;obtain ⟨t,hx⟩:=hx;have c6:w.cell? ⟨j,6,W⟩=U (V .u64 J.sq):=hx.cell 6;clear hx hv;obtain ⟨V0,f⟩:∃ V0,V0=eM J D r0 (cq Z):=⟨_,rfl⟩
 rw [<- f];unfold eM at f
 cases r0 with
 | false=>
  have HR:=ae hr;rw [if_pos rfl] at f;have m:=ae f;clear K hr c6 f
  go_enter func77,ntmps77
  go_wp2_with fail
  (with_reducible refine hb.mono ?_)
  rintro e w1 ⟨rfl,B,d1⟩;have h2:=B.du h;clear hb B
  go_wp2
  go_ret
  exact ⟨S,Ext.refl S,by rw [m.out];rfl,by rw [m.out];exact h2,d1⟩
 | true=>
  have H0:=K.1 rfl;rw [if_neg (by simp)] at f
  by_cases hq:281474976710655<=J.sq
  .rw [if_pos hq] at f
   have m:=ae f;have HM:=ae H0;have HR:=ae hr;clear K H0 hr f
   go_enter func77,ntmps77
   go_wp2_with fail
   (with_reducible refine hb.mono ?_)
   rintro e w1 ⟨i0,rfl,B,d1⟩;have h2:=(B.under h).right;have t1:w1.cell? ⟨j,6,W⟩=U (V .u64 J.sq):=B.cF c6;clear hb B h c6
   go_wp2
   go_ret
   exact ⟨S,Ext.refl S,by rw [m.out];rfl,by rw [m.out];exact h2,d1⟩
  .rw [if_neg hq] at f
   have P2:=hN.numbers (by omega);have V2:Z.length<=24:=H0.n1;have W2:(Z.length:Int)<=24:=by omega
   have HM:=ae H0;have HR:=ae hr;have m:=ae f;clear K H0 hr f
   go_enter func77,ntmps77
   go_wp2_with fail
   (with_reducible refine hb.mono ?_)
   rintro e w1 ⟨i0,rfl,B,d1⟩;have h2:=B.under h;have t1:w1.cell? ⟨j,6,W⟩=U (V .u64 J.sq):=B.cF c6;clear hb B h c6;have g0:=uN w1 S j d J D (aq S*(mp i0 (fu Z Z.length)*F)) (h2.to (by ac_rfl)) hD
   by_cases P:(J.flush D).1=0
   .obtain ⟨e1,e2,J2,j2⟩:=I2 P
    have f:=m.out;rw [if_neg (by simpa using P)] at f;clear m;have Z0:(J.flush D).2.2.Ok:=by rw [e2];exact (aC.ig hD).ok hD (by have:=hD.many;omega)
    have L1:(J.flush D).2.2.wait=[]:=by rw [e2];exact CP j2
    have n2:fu (mh (cq Z)) (cq Z).length=fu Z Z.length:=by rw [jT];exact Dr (oZ _) _
    have E1:=Jr.fA G.EM Z.length;have g3:=G.QL;have g1:=fun (w2:R) (q0 t:Nat) h=>CZ w2 S j d q0 t i0 J (J.flush D).2.2 (fu Z Z.length) (J.aU Z.length).toNat F h G Z0 (by omega);rw [Z3 E1.1] at g1;have g2:J.flush D=(0,J,(J.flush D).2.2):=Prod.ext P (Prod.ext e1 rfl);unfold vF eW at f;rw [n2,jT] at f;generalize (J.flush D).2.2=D1 at *;rw [g2] at g0;have c2:=Jr.vz (J:=J) (D:=D1) (own:=fu Z Z.length) (L:=bY J.T J.P (Jr.tail J) (J.aU Z.length).toNat);have a1:=Jr.tu J Z0 (fu Z Z.length) (bY J.T J.P (Jr.tail J) (J.aU Z.length).toNat);have z1:=Jr.xZ (J:=J) (D:=D1) (own:=fu Z Z.length) (bY J.T J.P (Jr.tail J) (J.aU Z.length).toNat);have a2:=GO G hN (D:=D1) (own:=fu Z Z.length) (P:=J.P) (first:=Jr.tail J) (m:=(J.aU Z.length).toNat);have X1:=Gd (J:=J) (D:=D1) (own:=fu Z Z.length) (L:=bY J.T J.P (Jr.tail J) (J.aU Z.length).toNat)
    replace z1:(J.cl D1 (fu Z Z.length) (bY J.T J.P (Jr.tail J) (J.aU Z.length).toNat)).1.2.length<=48:=by
     have:=kC J.T J.P (Jr.tail J) (J.aU Z.length).toNat;omega
    generalize J.cl D1 (fu Z Z.length) (bY J.T J.P (Jr.tail J) (J.aU Z.length).toNat)=j0 at *;have Y1:j0.2.2.Ok:=a1.ok Z0 (by rw [L1];simp);have f2:j0.2.2.wait.length=0:=by have:=a1.many;rw [L1] at this;simpa using this
    have hc:(J.us<2*(Z.length:Int)/\J.aU Z.length=J.us)\/(¬ J.us<2*(Z.length:Int)/\J.aU Z.length=2*(Z.length:Int)):=by
     unfold Jr.aU
     split
     .exact .inl ⟨by assumption,rfl⟩
     .exact .inr ⟨by assumption,rfl⟩
    have m:=ae f;have T2:=ae E1;have m1:=ae a1;have T0:=ae z1;have S0:=ae a2;have R0:=ae X1;have l1:=ae Y1;have p1:=ae f2;have o1:=ae c2;clear P e1 e2 j2 J2 n2 h2 f g2 E1 Z0 L1 a1 z1 a2 X1 Y1 f2 c2;rcases hc with ⟨K2,c1⟩|⟨K2,c1⟩
    all_goals
     have z2:=ae c1;rw [c1] at g1;clear c1
     go_wp2_with fail
     (with_reducible refine g0.mono ?_)
     rintro e w2 ⟨rfl,h3,d2⟩;obtain ⟨q0,t,h4⟩:=h3.EO;have k8:w2.cell? ⟨j,8,W⟩=U (V .i64 J.us):=h4.FB.cell 8;have m2:=g1 w2 q0 t h4;clear g1 g0 h3 t1 h4
     go_wp2_with fail
     (with_reducible refine m2.mono ?_)
     rintro e w3 ⟨E,v3,g,l0,rfl,D0,B1,h5,d3⟩;clear m2 k8
     by_cases m0:j0.1.1=0
     .have Z1:=o1.out m0
      obtain ⟨⟨mc,ml⟩,c,mD⟩:=j0;dsimp only at m0 Z1 D0 h5 m m1 T0 S0 R0 l1 p1;subst m0 Z1;have f:=m.out;rw [if_neg (by simp)] at f;obtain ⟨va,vc,rfl⟩:=aE h5.aD;have C:=h5.alloc (Y #[X aa Z.length ac,X va g.length vc] 125 (0,0));have dA:=((d1.trans d2).trans d3).alloc (Y #[X aa Z.length ac,X va g.length vc] 125 (0,0));have o2:=HR.out E (pt w3.heap.size (Y #[X aa Z.length ac,X va g.length vc] 125 (0,0))*(jJ j d q0 t c*(aS E d mD*(sl 188 2 (X va g.length vc) g.length (bR g)*mp i0 (fu Z Z.length))))) _ l0 (C.to (by ac_rfl));have X2:g.length<=48:=by have:=T0.out;rw [<- D0,K3] at this;exact this
      have F0:=Ec (w3.alloc (Y #[X aa Z.length ac,X va g.length vc] 125 (0,0))) w3.heap.size Z.length g.length aa va ac vc (bR Z) (bR g) (C.cell 0) (C.cell 1) (Ri o2.1) C.aM.oD
       (yg Z fun z o=>by obtain ⟨a,k0,e⟩:=K1 z o;exact ⟨a,_,k0,e⟩) (yg g fun z o=>CX (B1 z o)) (by omega) (by omega)
      have e5:bR Z++bR g=bR (Z++g):=by simp [bR]
      have e6:cq Z++ml=cq (Z++g):=by rw [<- D0];simp [cq]
      rw [e5] at F0;rw [e6,jT,Jr.yX c (Z:=mh (cq (Z++g))) (Z':=Z++g) mD (oZ _),D3] at f;have O2:Z.length+g.length<=72:=by omega
      have H1:∀ z ∈ Z++g,0<=z.1/\z.1<3840/\z.2.2.length=480:=by
       intro z o;rcases List.mem_append.1 o with o|o
       .have:=JN HM.out o
        have:=hN.n1;exact ⟨by omega,by omega,by omega⟩
       .have hm:(z.1,z.2.2) ∈ ml:=by rw [<- D0];exact List.mem_map.2 ⟨z,o,rfl⟩
        have B:=S0.out _ hm;exact ⟨B.1,B.2,R0.out _ hm⟩
      have L0:∀ v5,Reads E v5 (Z++g) (sl 188 2 v5 (Z++g).length (bR (Z++g))*F):=by
       intro v5 S' X0 w' e hs;refine ⟨xo (hs.to (by ac_rfl:_=sl 188 2 v5 (Z++g).length (bR (Z++g))*(X0*(aq S'*F)))),fun z o=>?_⟩;rcases List.mem_append.1 o with o|o
       .exact (HR.out S' (X0*sl 188 2 v5 (Z++g).length (bR (Z++g))) w' (l0.trans e) (hs.to (by ac_rfl))).2 z o
       .exact ((B1 z o).mono e).rd hs.ah
      have G0:(Z++g).length=Z.length+g.length:=D3;rw [G0] at L0;generalize Z++g=l at F0 f H1 L0 G0;generalize Z.length+g.length=r at F0 f O2 L0 G0;have e0:=ae f;have A2:=ae H1;have r1:=ae L0;have x0:=ae G0;have R1:=ae C;have b3:(r:Int)<=72:=by omega
      clear f m o2 e5 e6 H1 L0 G0 h5 B1 D0 m1 T0 S0 R0 o1 HR HM C K1
      go_wp2_with fail
      (with_reducible refine F0.mono ?_)
      rintro e w5 ⟨v5,rfl,h6,d6⟩
      have H7:ag w5 (pH j d c*(aS E d mD*(aq E*(sl 188 2 v5 r (bR l)*F)))):=
       ((h6.under R1.out).to (by ac_rfl:_=(pt w3.heap.size (Y #[X aa Z.length ac,X va g.length vc] 125 (0,0))*(sl 188 2 (X va g.length vc) g.length (bR g)*mp i0 (fu Z Z.length)))*(jJ j d q0 t c*(aS E d mD*(aq E*(sl 188 2 v5 r (bR l)*F)))))).right.FJ
      have D7:=dA.trans d6;obtain ⟨ba,bc,rfl⟩:=aE h6;have r2:=MV w5 j d c _ H7 G;clear F0 R1 h6 d6 dA d1 d2 d3
      go_wp2_with fail
      (with_reducible refine r2.mono ?_)
      rintro e w6 ⟨rfl,h8,d8⟩;have H8:=h8.du H7;have D8:=D7.trans d8;clear r2 h8 d8 H7 D7
      by_cases l2:(c.P:Int)-c.us-c.fr<(r:Int)
      .have f:=e0.out
       rw [if_pos l2] at f;have f0:=ae f;have u2:=ae H8;clear f e0 H8
       go_wp2
       go_ret
       exact ⟨E,l0,by rw [f0.out];rfl,by rw [f0.out];exact (u2.out.to (by ac_rfl:_=sl 188 2 (X ba r bc) r (bR l)*(pH j d c*(aS E d mD*(aq E*F))))).right,D8⟩
      .have f:=e0.out
       rw [if_neg l2] at f;have N0:=Da w6 E j d c mD _ (X ba r bc) l H8 G P2 l1.out (by have:=p1.out;have:=x0.out;omega) (by have:=x0.out;omega) A2.out (r1.out _);rw [x0.out] at N0;generalize hW:c.bM mD l r=W0 at N0 f;obtain ⟨rc,D4⟩:=W0;dsimp only at N0 f;have f0:=ae f;clear f e0 H8 hW
       go_wp2_with fail
       (with_reducible refine N0.mono ?_)
       rintro e w7 ⟨H,y1,rfl,s,d9⟩;have D9:=D8.trans d9;clear N0 d9 D8
       by_cases h0:rc=0
       .have f:=f0.out
        dsimp only at s;rw [if_neg (by simpa using h0)] at f;rw [if_pos h0] at s;subst h0;have t2:∀ z ∈ l,∃ a k0,z.2.1 = X a z.2.2.length k0:=fun z o=>((r1.out _ H (pH j d c*aS H d D4) w7 y1 (s.to (by ac_rfl))).2 z o).shape;obtain ⟨u,t4,W1⟩:=s.EO;obtain ⟨S1,A1⟩:∃ X0,X0=aS H d D4*(aq H*F):=⟨_,rfl⟩
        have N1:ag w7 (bO t4 (c.fT (cq l) 0)*(pt j (Y (c.cells d u t4) 183 (0,0))*(bX u (cE c.P)*(sl 188 2 (X ba r bc) r (bR l)*S1)))):=
         W1.FB.to (by rw [A1];show _=bO t4 c.T*_;ac_rfl)
        have x2:=ae A1;have D2:=ae t2;have u0:=ae f;clear s W1 A1 t2 f f0 r1
        go_wp2_with fail
        go_loopw [70] (fun i wr=>Ej r t4 c (cq l) (pt j (Y (c.cells d u t4) 183 (0,0))*(bX u (cE c.P)*(sl 188 2 (X ba r bc) r (bR l)*S1))) w i wr) (fun i _=>r-(intOf i).toNat)
        case atStart=>exact ⟨0,Nat.zero_le _,rfl,N1,D9⟩
        case round=>
         clear N1 D9;obtain ⟨k,hk,rfl,p0,h1⟩:=hrel
         by_cases Y2:k<r
         .have Z2:(k:Int)<(r:Int):=by omega
          have L2:=x0.out;have f1:k<l.length:=by omega
          obtain ⟨V1,gc,hg⟩:=pY p0.aD (by omega);obtain ⟨rfl,rfl⟩:ba=U ⟨V1,0,W⟩/\bc=gc:=by injection hg with e1 e2 e3;exact ⟨e1,e3⟩
          obtain ⟨q1,q2⟩:=p0.aD.jX f1;obtain ⟨da,dc,hd⟩:=D2.out _ (P3 f1);have o0:=(gx l k).1;rw [B3,G3 f1,S4] at o0;have R2:=Tb.nX;have i1:c.fT (cq l) (k+1)=((c.fT (cq l) k).put l[k].1 ((c.hd+(k:Int))%(c.P:Int))).2:=by rw [o0];rfl
          have i2:=Fe G.T (cq l) k;generalize l[k]=z at q1 q2 hd i1;obtain ⟨id,dv,db⟩:=z;dsimp only at q1 q2 hd i1;subst hd;generalize db.length=dl at q2;have C:=p0.alloc (Y #[V .i64 id,X da dl dc] 188 (0,0));have dA:=h1.alloc (Y #[V .i64 id,X da dl dc] 188 (0,0));have E2:=ae i1;have y2:=ae i2;clear p0 h1 i1 i2 o0 R2 L2 f1 hg
          go_wp2_with fail
          generalize wr.alloc (Y #[V .i64 id,X da dl dc] 188 (0,0))=I at C dA ⊢;generalize wr.heap.size=bw at C ⊢;have s0:I.cell? ⟨bw,0,W⟩=U (V .i64 id):=C.cell 0;have s1:I.cell? ⟨j,1,W⟩=U (az u):=C.aw.cell 1;have s2:I.cell? ⟨j,2,W⟩=U (az t4):=C.aw.cell 2;have s7:I.cell? ⟨j,7,W⟩=U (V .i64 c.hd):=C.aw.cell 7;have v1:=ag.drew C;have c0:=zG I.drew u (cE c.P) c.hd (k:Int) _ v1.aD (by rw [aV];exact G.p0) (by rw [aV];have:=G.p1;omega);rw [aV] at c0;have K0:=eZ I.drew t4 (c.fT (cq l) k) id ((c.hd+(k:Int))%(c.P:Int)) _ v1.ah y2.out;rw [<- E2.out] at K0;generalize (c.hd+(k:Int))%(c.P:Int)=pl at c0 K0;generalize ((c.fT (cq l) k).put id pl).1=pb at K0;clear C v1 q1 q2
          go_region_held3 (fun w'=>w'.cell? ⟨bw,0,W⟩=U (V .i64 id)/\w'.cell? ⟨j,1,W⟩=U (az u)/\w'.cell? ⟨j,2,W⟩=U (az t4)/\w'.cell? ⟨j,7,W⟩=U (V .i64 c.hd)) (first|(with_reducible exact ⟨b0,b1,b2,b7⟩)|exact ⟨s0,s1,s2,s7⟩) (first
           | (go_at_call 137;(with_reducible refine c0.mono ?_);rintro e N ⟨rfl,rfl⟩)
           | (go_at_call 136;(with_reducible refine K0.mono ?_);rintro e N ⟨rfl,s,d9⟩;have b0:N.cell? ⟨bw,0,W⟩=U (V .i64 id):=s.ah.cell 0;have b1:N.cell? ⟨j,1,W⟩=U (az u):=s.aw.cell 1;have b2:N.cell? ⟨j,2,W⟩=U (az t4):=s.aw.cell 2;have b7:N.cell? ⟨j,7,W⟩=U (V .i64 c.hd):=s.aw.cell 7))
          have H9:=ae s.iC;have DD:=ae (dA.drew.trans d9);clear s d9 dA c0 K0 s0 s1 s2 s7 b0 b1 b2 b7
          go_wp2
          go_roundw
          case rel=>exact ⟨k+1,by omega,by go_num,H9.out,DD.out⟩
          case measure=>simp [intOf];omega
         .obtain rfl:k=r:=by omega
          have K:=p0.ah;have k6:wr.cell? ⟨j,6,W⟩=U (V .u64 c.sq):=K.cell 6;have f6:=K.frozen 6;have M:=K.setCell 6 (V .u64 (c.sq+1));have u1:=h1.setCell ⟨j,6,W⟩ (V .u64 (c.sq+1))
          have c3:IntKind.u64.wrap (c.sq+1)=c.sq+1:=by
           have:=hN.Sl;rw [IntKind.wrap_u64];omega
          have j1:=ae M;clear p0 h1 K M
          go_wp2_with fail
          generalize wr.setCell ⟨j,6,W⟩ (V .u64 (c.sq+1))=I at j1 u1 ⊢;have M:=j1.out;have s1:I.cell? ⟨j,1,W⟩=U (az u):=M.cell 1;have s7:I.cell? ⟨j,7,W⟩=U (V .i64 c.hd):=M.cell 7;have f7:=M.frozen 7;have M2:=M.lt;have c0:=zG I.drew u (cE c.P) c.hd (k:Int) _ (M.aw.drew) (by rw [aV];exact G.p0) (by rw [aV];have:=G.p1;omega);rw [aV] at c0;generalize o0:(c.hd+(k:Int))%(c.P:Int)=pl at c0;have d0:=M.setCell 7 (V .i64 pl);have S2:(I.setCell ⟨j,7,W⟩ (V .i64 pl)).cell? ⟨j,1,W⟩=U (az u):=d0.cell 1;have T1:=(u1.setCell ⟨j,7,W⟩ (V .i64 pl)).drew;have k1:=ae (ag.drew d0);have B2:=ae o0;clear M j1 d0 o0 k6 f6 u1
          go_region_law (refine oN c0 wE rfl _ _ rfl (by rfl) ?_;rintro e N ⟨rfl,rfl⟩;refine ⟨_,rfl,?_⟩)
          all_goals
           clear s1 S2 s7 f7 M2 c0;generalize (I.setCell ⟨j,7,W⟩ (V .i64 pl)).drew=N at k1 T1 ⊢;have d0:=k1.out;have s8:N.cell? ⟨j,8,W⟩=U (V .i64 c.us):=d0.cell 8;have f8:=d0.frozen 8;have Y0:=d0.setCell 8 (V .i64 (c.us+((k:Int)-c.aU Z.length)));have s9:(N.setCell ⟨j,8,W⟩ (V .i64 (c.us+((k:Int)-c.aU Z.length)))).cell? ⟨j,9,W⟩=U (V .i64 c.fr):=Y0.cell 9;have f9:=Y0.frozen 9;have x1:=Y0.setCell 9 (V .i64 (c.aU Z.length));have U1:=(T1.setCell ⟨j,8,W⟩ (V .i64 (c.us+((k:Int)-c.aU Z.length)))).setCell ⟨j,9,W⟩ (V .i64 (c.aU Z.length))
           have k2:ag ((N.setCell ⟨j,8,W⟩ (V .i64 (c.us+((k:Int)-c.aU Z.length)))).setCell ⟨j,9,W⟩ (V .i64 (c.aU Z.length))) (pH j d V0.2.1*(aS H d V0.2.2*(aq H*F))):=by
            rw [u0.out];rw [<- B2.out,x2.out] at x1;have hL:(cq l).length=k:=by rw [jT];exact x0.out
            have e:(c.cells d u t4).setIfInBounds 6 (V .u64 (c.sq+1))=(c.cells d u t4).setIfInBounds 6 (V .u64 (c.sq+1)):=rfl;have B:=(x1.to (by ac_rfl:_=sl 188 2 (X ba k bc) k (bR l)*(pt j (Y (((((c.cells d u t4).setIfInBounds 6 (V .u64 (c.sq+1))).setIfInBounds 7 (V .i64 ((c.hd+(k:Int))%(c.P:Int)))).setIfInBounds 8 (V .i64 (c.us+((k:Int)-c.aU Z.length)))).setIfInBounds 9 (V .i64 (c.aU Z.length))) 183 (0,0))*(bX u (cE c.P)*(bO t4 (c.fT (cq l) k)*(aS H d D4*(aq H*F))))))).right;refine ag.y5 (r:=u) (t:=t4) ?_;unfold Jr.done;rw [hL];exact B
           have O1:=ae k2;have M1:=ae U1;rw [z2.out] at O1 M1 s9 f9;have U2:(c.P:Int)<=20000:=by have:=G.p1;omega
           have f3:=G.EM;clear d0 k1 Y0 x1 U1 k2
           go_wp2
           go_ret
           exact ⟨H,l0.trans y1,by rw [u0.out];rfl,O1.out,M1.out⟩
       .have p2:(rc == 0)=Y':=by simpa using h0
        have f:=f0.out;dsimp only at s;rw [if_pos h0] at f;rw [if_neg h0] at s;have u0:=ae f;have v2:=ae s;clear f f0 s h0
        go_wp2
        go_ret
        exact ⟨H,l0.trans y1,by rw [u0.out];rfl,by rw [u0.out];exact (v2.out.to (by ac_rfl:_=sl 188 2 (X ba r bc) r (bR l)*(pH j d { c with br:=true }*(aS H d D4*(aq H*F))))).right,D9⟩
     .have N2:(j0.1.1 == 0)=Y':=by simpa using m0
      have f:=m.out;rw [if_pos m0] at f;obtain ⟨⟨mc,ml⟩,c,mD⟩:=j0;dsimp only at N2 h5 f;have e0:=ae f;clear m0 f m m1 T0 S0 R0 l1 p1 o1
      go_wp2
      go_ret
      exact ⟨E,l0,by rw [e0.out];rfl,by rw [e0.out];exact (h5.to (by ac_rfl:_=(sl 188 2 v3 g.length (bR g)*mp i0 (fu Z Z.length))*(jJ j d q0 t c*(aS E d mD*(aq E*F))))).right.FJ,(d1.trans d2).trans d3⟩
   .have f:=m.out
    rw [if_pos P] at f;clear m;generalize hR:J.flush D=W0 at g0 P f;have p2:(W0.1 == 0)=Y':=by simpa using P
    obtain ⟨rc,J',D'⟩:=W0;dsimp only at g0 p2 P;have m:=ae f;clear hR P h2 f
    go_wp2_with fail
    (with_reducible refine g0.mono ?_)
    rintro e w2 ⟨rfl,h3,d2⟩;clear g0 t1
    go_wp2
    go_ret
    exact ⟨S,Ext.refl S,by rw [m.out];rfl,by rw [m.out];exact (h3.to (by ac_rfl:_=mp i0 (fu Z Z.length)*_)).right,d1.trans d2⟩
end Go.Proofs.Nn
namespace Go.SL
open RowKit
variable {α:Type}
theorem MB (t:Tg) (k:Nat):(qz t k).length=l7 k:=by
 induction k with
 | zero=>rfl
 | succ k c=>rw [lu,D3,c,bp,rZ]
theorem Ja (t:Tg) (k:Nat) (f:k<9):∃ rest,enc t=qz t k++(dx (t.field k) (er k)++rest):=by
 obtain ⟨m,c⟩:∃ m,9=k+1+m:=⟨8-k,by omega⟩
 unfold enc;rw [c];clear c
 induction m with
 | zero=>exact ⟨[],by rw [Nat.add_zero,lu,List.append_nil]⟩
 | succ m e=>
  obtain ⟨r,d⟩:=e;exact ⟨r++dx (t.field (k+1+m)) (er (k+1+m)),by rw [<- Z4,lu,d];simp only [E5]⟩
theorem NV (t:Tg) (b:List UInt8) (k:Nat) (c:k<9):iM ((enc t++b).drop (l7 k)) (er k)=t.field k%(256:Int) ^ er k:=by
 obtain ⟨r,d⟩:=Ja t k c;rw [d,E5,<- MB t k,List.drop_left,E5,mm _ _ _ _ (R3 _)]
theorem LJ {t:Tg} (r:t.Fit) (c:t.ok=true) (b:List UInt8):iZ (enc t++b) 9=t:=by
 have h:∀ k,k<9->iZ (enc t++b) (k+1)=(iZ (enc t++b) k).set (t.field k%(256:Int) ^ er k) k:=fun k s=>by
  rw [iZ,NV t b k s]
 rw [h 8 (by omega),h 7 (by omega),h 6 (by omega),h 5 (by omega),h 4 (by omega),h 3 (by omega),h 2 (by omega),h 1 (by omega),h 0 (by omega)];simp only [Tg.ok,Bool.and_eq_true,decide_eq_true_eq,and_assoc] at c;obtain ⟨u,B,C,E,F,G,H,I,K,w,z⟩:=c;obtain ⟨d,e,f,g,j,l,m,o⟩:=r;obtain ⟨N,st,sq,P,S,M,id⟩:=t;simp only at u B C E F G H I K w z d e f g j l m o;simp only [iZ,Tg.set,Tg.field,er,Gq,Tg.zero,wrap64];congr 1 <;> omega
theorem Bi {t:Tg} (f:t.Fit) (c:t.ok=true) (b:List UInt8):cT (enc t++b)=U (t,b):=by
 have d:=LJ f c b;have e:(enc t++b).drop 32=b:=by rw [<- dF t,List.drop_left]
 unfold cT;rw [d,e,if_pos ⟨c,rfl⟩]
structure aC.Calm (D:aC):Prop where
 down:D.down=false
 eV:D.eV=false
theorem aC.Calm.de {D:aC} (h:D.Calm):D.de=D:=by
 unfold aC.de;rw [h.eV];simp
theorem aC.Calm.begun {D:aC} (h:D.Calm):D.begun=D:=by
 unfold aC.begun;rw [h.de,h.down,h.eV];simp
theorem aC.Calm.cP {D:aC} (h:D.Calm):D.cP=0:=by
 unfold aC.cP;rw [h.de,h.down];simp
theorem aC.Calm.read {D:aC} (h:D.Calm) {a:Int} (c:D.has a):D.read a=(D.cy a,{ D with cr:=cD (D.cr+1) }):=by
 unfold aC.read;rw [if_pos c,if_pos h.cP,h.begun]
theorem aC.Calm.write {D:aC} (h:D.Calm) {a:Int} (c:D.has a) {l:List UInt8} (d:l.length=512):D.write a l=(0,{ D with cw:=cD (D.cw+1),wait:=D.wait++[(a,l)] }):=by
 unfold aC.write;rw [if_pos ⟨c,d⟩,if_pos h.cP,h.begun]
theorem aC.Calm.flush {D:aC} (h:D.Calm):D.flush=(0,D.aI):=by
 unfold aC.flush;rw [if_pos h.cP,h.begun]
theorem qT (D:aC) (l:List (Int × List UInt8)):(D.bU l).down=D.down/\(D.bU l).eV=D.eV/\(D.bU l).cr=D.cr/\(D.bU l).cw=D.cw/\(D.bU l).cf=D.cf/\(D.bU l).left=D.left/\(D.bU l).bB=D.bB/\(D.bU l).wait=D.wait:=by
 unfold aC.bU
 induction l generalizing D with
 | nil=>exact ⟨rfl,rfl,rfl,rfl,rfl,rfl,rfl,rfl⟩
 | cons x l c=>rw [W4];exact c _
theorem Dl (a:Int):eo [] a=W:=rfl
theorem jj (l:List (Int × List UInt8)) (x:Int × List UInt8) (a:Int):eo (l++[x]) a=if x.1=a then U x.2 else eo l a:=by
 unfold eo;rw [List.reverse_append,List.reverse_cons,List.reverse_nil,List.nil_append,List.singleton_append,List.find?_cons]
 by_cases h:x.1=a
 .rw [if_pos h];simp [h]
 .rw [if_neg h]
  have:(x.1 == a)=Y':=by simpa using h
  rw [this]
theorem Cu (l:List (Int × List UInt8)) (x:Int × List UInt8) (a:Int):eo (x :: l) a=match eo l a with|some y=>U y|none=>if x.1=a then U x.2 else W:=by
 unfold eo;rw [List.reverse_cons,List.find?_append]
 cases h:l.reverse.find? (fun x=>x.1 == a) with
 | some y=>simp
 | none=>
  by_cases e:x.1=a
  .simp [e]
  .have:(x.1 == a)=Y':=by simpa using e
   simp [e]
theorem jH (p:Int × α) (M:List (Int × α)) (y:Int):aP (p :: M) y=if p.1=y then U p.2 else aP M y:=by
 unfold aP;rw [List.find?_cons]
 by_cases h:p.1=y
 .simp [h]
 .have:(p.1 == y)=Y':=by simpa using h
  rw [this,if_neg h]
theorem Cg (M:List (Int × α)) (x y:Int):aP (del M x) y=if y=x then W else aP M y:=by
 induction M with
 | nil=>simp [del,aP]
 | cons p M d=>
  have e:del (p :: M) x=if p.1=x then del M x else p :: del M x:=by
   unfold del;rw [List.filter_cons]
   by_cases h:p.1=x
   .simp [h]
   .have:(p.1 == x)=Y':=by simpa using h
    simp [this,h]
  rw [e]
  by_cases h:p.1=x
  .rw [if_pos h,d,jH]
   by_cases c:y=x
   .rw [if_pos c,if_pos c]
   .rw [if_neg c,if_neg c,if_neg (by rw [h];exact fun q=>c q.symm)]
  .rw [if_neg h,jH,jH,d]
   by_cases c:p.1=y
   .rw [if_pos c,if_pos c,if_neg (by rw [<- c];exact h)]
   .rw [if_neg c,if_neg c]
theorem C0 (D:aC) (x:Int × List UInt8) (s:D.has x.1) (c:D.wait=[]) (a:Int) (g:D.has a):(D.done x).cy a=if x.1=a then (0,bW 512 x.2) else D.cy a:=by
 have r:=(D.lo x).2.1.trans c;have o:aP (D.done x).mQ a=if a=x.1 then W else aP D.mQ a:=Cg D.mQ x.1 a
 have l:(D.done x).sec=D.sec.set x.1.toNat x.2:=rfl;unfold aC.cy;simp only [r,c,Dl,o,l];obtain ⟨a0,w⟩:=g;obtain ⟨u,z⟩:=s;obtain ⟨k,rfl⟩:=J4 a0;obtain ⟨j,h⟩:=J4 u;rw [h,L3,L3]
 by_cases e:j=k
 .subst e
  rw [if_pos rfl,if_pos rfl];have:j<D.sec.length:=by omega
  simp [B3,K5,this]
 .have d:¬ (k:Int)=(j:Int):=by omega
  have f:¬ (j:Int)=(k:Int):=by omega
  rw [if_neg d,if_neg f];have m:(D.sec.set j x.2).getD k []=D.sec.getD k []:=by grind
  rw [m]
theorem BD (D:aC) (x:Int × List UInt8) (a:Int):(D.done x).has a↔D.has a:=by unfold aC.has;rw [(D.lo x).1]
theorem wU (l:List (Int × List UInt8)):∀ (D:aC),D.wait=[]->(∀ x ∈ l,D.has x.1)->∀ a,D.has a->(D.bU l).cy a=match eo l a with|some y=>(0,bW 512 y)|none=>D.cy a:=by
 induction l with
 | nil=>intro D _ _ a _;rfl
 | cons x l h=>
  intro D e d a c;have f:=h (D.done x) ((D.lo x).2.1.trans e) (fun y g=>(BD D x _).2 (d y (X4 _ g))) a ((BD D x a).2 c);show (aC.bU (D.done x) l).cy a=_
  rw [f,Cu]
  cases j:eo l a with
  | some y=>rfl
  | none=>
   simp only;rw [C0 D x (d x Y4) e a c]
   split <;> rfl
theorem fG {D:aC} (w:D.Ok) (a:Int) (z:D.has a):D.aI.cy a=D.cy a:=by
 have h:=wU D.wait { D with cf:=cD (D.cf+1),wait:=[] } rfl (fun x C=>w.wait x C) a z
 have e:D.aI=({ D with cf:=cD (D.cf+1),wait:=[] }:aC).bU D.wait:=by
  have:∀ (l:List (Int × List UInt8)) (A B:aC),A.sec=B.sec->A.mQ=B.mQ->A.cr=B.cr->A.cw=B.cw->A.cf=B.cf->A.down=B.down->A.eV=B.eV->A.left=B.left->A.bB=B.bB->B.wait=[] ->
    ({ l.foldl aC.done A with wait:=[] }:aC)=l.foldl aC.done B:=by
   intro l
   induction l with
   | nil=>
    intro A B c f g j m o r s u d;obtain ⟨F,H,I,K,M,N,P,S,b9,G⟩:=B;subst c f g j m o r s u d
    rfl
   | cons x l E=>
    intro A B c f g j m o r s u d;exact E _ _ (by simp [aC.done,c]) (by simp [aC.done,f]) g j m o r s u d
  exact this _ _ _ rfl rfl rfl rfl rfl rfl rfl rfl rfl rfl
 rw [e,h];unfold aC.cy
 cases hn:eo D.wait a with
 | some y=>rfl
 | none=>rfl
theorem iu {D:aC} (h:D.Calm):D.aI.Calm:=by
 have:=qT { D with cf:=cD (D.cf+1) } D.wait;exact ⟨this.1.trans h.down,this.2.1.trans h.eV⟩
theorem bq (D:aC):D.aI.cr=D.cr/\D.aI.cw=D.cw/\D.aI.cf=cD (D.cf+1)/\D.aI.sec.length=D.sec.length:=by
 have:=qT { D with cf:=cD (D.cf+1) } D.wait;exact ⟨this.2.2.1,this.2.2.2.1,this.2.2.2.2.1,(aC.tl _ _).1⟩
theorem tB (D:aC) (a:Int) (l:List UInt8) (n:Int) (b:Int):({ D with cw:=n,wait:=D.wait++[(a,l)] }:aC).cy b=if a=b then (0,bW 512 l) else D.cy b:=by
 unfold aC.cy;simp only [jj]
 by_cases h:a=b
 .simp [h]
 .simp [h]
structure Tb.Mu (T:Tb):Prop where
 pq:∀ id p,told T.ps id=some p->told T.os p=some id
 qp:∀ id p,told T.os p=some id->told T.ps id=some p
theorem j9 {l:List Int} {i v:Int} (h:told l i=U v):0<=i/\i<l.length/\v ≠ -1:=by
 unfold told at h
 split at h
 .rename_i c
  injection h with h
  exact ⟨c.1,c.2.1,by rw [<- h];exact c.2.2⟩
 .cases h
theorem told_none {l:List Int} {i:Int} (h:told l i=W) (c:0<=i) (d:i<l.length):l.getD i.toNat 0=-1:=by
 unfold told at h
 split at h
 .cases h
 .rename_i e
  exact Classical.byContradiction fun q=>e ⟨c,d,q⟩
theorem pZ {l:List Int} {i:Int} (g:0<=i) (h:i<l.length) (v x:Int):told (l.set i.toNat v) x=if x=i then (if v=-1 then W else U v) else told l x:=by
 obtain ⟨k,rfl⟩:=J4 g;have o:k<l.length:=by omega
 unfold told;rw [List.length_set,L3]
 by_cases f:x=(k:Int)
 .subst f
  rw [if_pos rfl,L3];have e:(l.set k v).getD k 0=v:=by simp [B3,K5,o]
  rw [e]
  by_cases c:v=-1
  .rw [if_pos c,if_neg (fun q=>q.2.2 c)]
  .rw [if_neg c,if_pos ⟨by omega,h,c⟩]
 .rw [if_neg f]
  by_cases d:0<=x
  .obtain ⟨j,rfl⟩:=J4 d
   rw [L3];have m:k≠j:=by omega
   have e:(l.set k v).getD j 0=l.getD j 0:=by simp only [B3,K5];rw [if_neg m]
   rw [e]
  .rw [if_neg (fun q=>d q.1),if_neg (fun q=>d q.1)]
theorem Tb.Cr (T:Tb) (id:Int):(T.drop id).2.ps.length=T.ps.length/\(T.drop id).2.os.length=T.os.length:=by
 unfold Tb.drop
 split <;> simp
section
variable {T:Tb}
theorem Tb.Pb (h:T.Mu) (id:Int) (x:Int):told (T.drop id).2.ps x=if x=id then W else told T.ps x:=by
 unfold Tb.drop
 cases c:told T.ps id with
 | none=>
  simp only
  split
  .rename_i e;rw [e,c]
  .rfl
 | some p=>
  have d:=j9 c;rw [pZ d.1 d.2.1];simp
theorem Tb.Pf (h:T.Mu) (id:Int) (q:Int):told (T.drop id).2.os q=if told T.ps id=U q then W else told T.os q:=by
 unfold Tb.drop
 cases f:told T.ps id with
 | none=>simp
 | some p=>
  have d:=j9 (h.pq _ _ f);rw [pZ d.1 d.2.1]
  by_cases e:q=p
  .subst e;simp
  .rw [if_neg e,if_neg (by intro c;injection c with c;exact e c.symm)]
theorem Tb.DG (h:T.Mu) {id p:Int} (c:0<=id) (d:id<T.ps.length) (f:0<=p) (g:p<T.os.length) (l:told T.os p=W) (x:Int) :
  told (T.put id p).2.ps x=if x=id then U p else told T.ps x:=by
 have j:=told_none l f g;unfold Tb.put;rw [if_pos ⟨c,d,f,g,.inl j⟩];rw [pZ c (by rw [(Tb.Cr T id).1];exact d),T.Pb h]
 by_cases e:x=id
 .rw [if_pos e,if_pos e,if_neg (by omega)]
 .rw [if_neg e,if_neg e,if_neg e]
theorem Tb.DB (h:T.Mu) {id p:Int} (j:0<=id) (l:id<T.ps.length) (c:0<=p) (d:p<T.os.length) (g:told T.os p=W) (q:Int) :
  told (T.put id p).2.os q=if q=p then U id else if told T.ps id=U q then W else told T.os q:=by
 have f:=told_none g c d;unfold Tb.put;rw [if_pos ⟨j,l,c,d,.inl f⟩];rw [pZ c (by rw [(Tb.Cr T id).2];exact d),T.Pf h]
 by_cases e:q=p
 .rw [if_pos e,if_pos e,if_neg (by omega)]
 .rw [if_neg e,if_neg e]
theorem Tb.N5 (h:T.Mu) {id p:Int} (l:0<=id) (m:id<T.ps.length) (o:0<=p) (r:p<T.os.length) (f:told T.os p=W):(T.put id p).2.Mu:=by
 constructor
 .intro x q c
  rw [Tb.DG h l m o r f] at c;rw [Tb.DB h l m o r f]
  by_cases e:x=id
  .rw [if_pos e] at c;injection c with c
   rw [if_pos c.symm,e]
  .rw [if_neg e] at c
   have d:=h.pq _ _ c;have u:q≠p:=by rintro rfl;rw [f] at d;cases d
   rw [if_neg u]
   have g:told T.ps id≠U q:=by
    intro s;have j:=h.pq _ _ s;rw [d] at j;injection j with j;exact e j
   rw [if_neg g,d]
 .intro x q c
  rw [Tb.DB h l m o r f] at c;rw [Tb.DG h l m o r f]
  by_cases e:q=p
  .rw [if_pos e] at c;injection c with c
   rw [if_pos c.symm,e]
  .rw [if_neg e] at c
   split at c
   .cases c
   .rename_i d
    have g:=h.qp _ _ c;have:x≠id:=by rintro rfl;exact d g
    rw [if_neg this,g]
end
theorem Tb.iQ (b p:Nat) (i:Int):told (Tb.fresh b p).ps i=W/\told (Tb.fresh b p).os i=W:=by
 constructor
 .unfold told
  rw [if_neg];rintro ⟨e,c,d⟩;apply d;simp only [Tb.fresh,X5] at c;have:i.toNat<b:=by omega
  simp [Tb.fresh,B3,Y5,this]
 .unfold told
  rw [if_neg];rintro ⟨e,c,d⟩;apply d;simp only [Tb.fresh,X5] at c;have:i.toNat<p:=by omega
  simp [Tb.fresh,B3,Y5,this]
theorem Tb.IX (b p:Nat):(Tb.fresh b p).Mu:=
 ⟨fun i q h=>(by rw [(Tb.iQ b p i).1] at h;cases h),fun i q h=>(by rw [(Tb.iQ b p q).2] at h;cases h)⟩
theorem lY {a b P:Int} (d:b<a) (e:a<b+P):a%P≠b%P:=by
 intro h;have:=Int.emod_emod_of_dvd a (Int.dvd_refl P);have c:=Int.emod_eq_emod_iff_emod_sub_eq_zero.1 h;rw [L5 (by omega) (by omega)] at c;omega
structure SH (J:Jr) (L:Bl) (k:Nat):Prop where
 Jh:(J.fT L k).Mu
 ps:∀ x,told (J.fT L k).ps x=match (L.take k).findIdx? (fun y=>y.1 == x) with|some i=>some ((J.hd+(i:Int))%(J.P:Int))|none=>told J.T.ps x
 os:∀ q x,told (J.fT L k).os q=some x->(∃ i:Nat,i<k/\q=(J.hd+(i:Int))%(J.P:Int)/\(L.getD i (0,[])).1=x)\/(told J.T.os q=some x/\x ∉ (L.take k).map A3)
theorem yB (l:List α) (a:α) (f:α->Bool):(l++[a]).findIdx? f=match l.findIdx? f with|some i=>U i|none=>if f a then U l.length else W:=by grind
theorem iW {L:Bl} {x:Int}:L.findIdx? (fun y=>y.1 == x)=W↔x ∉ L.map A3:=by grind
theorem Iv (L:List α) (k:Nat) (d:α) (h:k<L.length):L.take (k+1)=L.take k++[L.getD k d]:=by simp_all
theorem SM (J:Jr) (w:J.Ok) (P:J.T.Mu) (L:Bl) (b0:∀ x ∈ L,0<=x.1/\x.1<J.n) (d0:(L.map A3).Nodup) (h0:(L.length:Int)<=J.P)
  (S:∀ i:Nat,i<L.length->told J.T.os ((J.hd+(i:Int))%(J.P:Int))=W):∀ k,k<=L.length->SH J L k:=by
 have hps:=w.ps;have f0:=w.os;intro k
 induction k with
 | zero=>
  intro _;exact ⟨P,fun x=>rfl,fun q x h=>.inr ⟨h,by simp⟩⟩
 | succ k ih=>
  intro hk;obtain ⟨d,G,u⟩:=ih (by omega);have g:k<L.length:=by omega
  have hm:L.getD k (0,[]) ∈ L:=by rw [B3,G3 g];exact P3 _
  obtain ⟨m,i1⟩:=b0 _ hm;have l:=Iv L k (0,[]) g;have g0:J.fT L (k+1)=((J.fT L k).put (L.getD k (0,[])).1 ((J.hd+(k:Int))%(J.P:Int))).2:=rfl;have B:=J.wy L k;have r:0<=(J.hd+(k:Int))%(J.P:Int):=V3 _ (by omega);have s:(J.hd+(k:Int))%(J.P:Int)<(J.fT L k).os.length:=by rw [B.2,f0];exact S5 _ (by omega)
  have j:told (J.fT L k).os ((J.hd+(k:Int))%(J.P:Int))=W:=by
   cases h:told (J.fT L k).os ((J.hd+(k:Int))%(J.P:Int)) with
   | none=>rfl
   | some x=>
    rcases u _ _ h with ⟨i,hi,e,_⟩|⟨e,_⟩
    .exact absurd e (lY (by omega) (by omega))
    .rw [S k g] at e;cases e
  have o:(L.getD k (0,[])).1<((J.fT L k).ps.length:Int):=by rw [B.1,hps];exact i1
  have e0:(L.getD k (0,[])).1 ∉ (L.take k).map A3:=by
   intro c;have C:((L.take (k+1)).map A3).Nodup:=d0.sublist ((List.take_sublist _ _).map _);rw [l,H3,X3] at C;exact C.2.2 _ c _ (by simp) rfl
  have F:=Tb.DG d m o r s j;have E:=Tb.DB d m o r s j;have z:=Tb.N5 d m o r s j;rw [<- g0] at F E z;refine ⟨z,fun x=>?_,fun q x c=>?_⟩
  .rw [F,l,yB,G]
   have c0:(L.take k).length=k:=by rw [List.length_take];omega
   by_cases e:x=(L.getD k (0,[])).1
   .rw [if_pos e,e,iW.2 e0]
    simp [c0]
   .rw [if_neg e]
    cases hf:(L.take k).findIdx? (fun y=>y.1 == x) with
    | some i=>rfl
    | none=>
     have:((L.getD k (0,[])).1 == x)=Y':=by simp only [beq_eq_false_iff_ne,ne_eq];exact fun q=>e q.symm
     rw [this];rfl
  .rw [E] at c
   by_cases e:q=(J.hd+(k:Int))%(J.P:Int)
   .rw [if_pos e] at c
    injection c with c
    exact .inl ⟨k,by omega,e,c⟩
   .rw [if_neg e] at c
    split at c
    .cases c
    .rename_i K
     rcases u _ _ c with ⟨i,hi,H,I⟩|⟨M,N⟩
     .exact .inl ⟨i,by omega,H,I⟩
     .refine .inr ⟨M,?_⟩
      rw [l,H3,T5];rintro (f|f)
      .exact N f
      .simp only [List.map_cons,List.map_nil,List.mem_singleton] at f
       exact K (by rw [<- f];exact d.qp _ _ c)
end Go.SL
namespace Go.Proofs.Nn
open RowKit SL
abbrev Has:=Int->Option (List UInt8)
structure fK (J:Jr) (D:aC) (has:Has):Prop where
 ok:J.Ok
 nums:J.Kh
 Jg:D.Ok
 br:J.br=false
 calm:D.Calm
 sec:(J.P:Int)+1<=D.sec.length
 Jh:J.T.Mu
 rm:J.us+J.fr<=J.P
 win:∀ p id,told J.T.os p=some id->∃ a:Int,J.hd-J.us<=a/\a<J.hd/\p=a%(J.P:Int)
 tK:∀ id p,told J.T.ps id=some p->∃ t b,has id=some b/\b.length=480/\D.cy (p+1)=(0,enc t++b)/\t.id=id/\t.ok=true/\t.Fit
 Ug:∀ id,told J.T.ps id=none->has id=none
theorem fK.place {J:Jr} {D:aC} {has:Has} (h:fK J D has) {id p:Int} (c:told J.T.ps id=U p):0<=p/\p<J.P:=by
 have:=j9 (h.Jh.pq _ _ c);have e:=h.ok.os;exact ⟨this.1,by have:=this.2.1;omega⟩
theorem fK.A5 {J:Jr} {D:aC} {has:Has} (h:fK J D has) {id p:Int} (c:told J.T.ps id=U p):D.has (p+1):=by
 have:=h.place c;have:=h.sec;exact ⟨by omega,by omega⟩
theorem fK.dev {J:Jr} {D D':aC} {has:Has} (h:fK J D has) (m:D'.Ok) (j:D'.Calm) (l:D'.sec.length=D.sec.length) (o:∀ a,D.has a->D'.cy a=D.cy a):fK J D' has:=
 ⟨h.ok,h.nums,m,h.br,j,by rw [l];exact h.sec,h.Jh,h.rm,h.win,fun id p c=>by
  obtain ⟨t,b,d,e,f,g⟩:=h.tK id p c;exact ⟨t,b,d,e,by rw [o _ (h.A5 c)];exact f,g⟩,h.Ug⟩
theorem JX (D:aC) (r:Int) (a:Int):({ D with cr:=r }:aC).cy a=D.cy a:=rfl
theorem FF {D:aC} (h:D.Calm) (r:Int):({ D with cr:=r }:aC).Calm:=⟨h.down,h.eV⟩
theorem Ng {D:aC} (h:D.Ok) (r:Int):({ D with cr:=r }:aC).Ok:=⟨h.n,h.wait,h.many,h.bB⟩
theorem fK.cr {J:Jr} {D:aC} {has:Has} (h:fK J D has) (r:Int):fK J { D with cr:=r } has:=
 h.dev (Ng h.Jg r) (FF h.calm r) rfl fun _ _=>rfl
theorem Oz {J:Jr} {D D':aC} {id p:Int} {l b:List UInt8} {t:Tg} (e:D.read (p%(J.P:Int)+1)=((0,l),D')) (c:cT l=U (t,b)) (d:t.id=id):J.load D id p=((0,b),J,D'):=by
 unfold Jr.load;simp only [e,c,d,if_true]
theorem fK.load {J:Jr} {D:aC} {has:Has} (h:fK J D has) {id p:Int} (c:told J.T.ps id=U p):J.load D id p=((0,(has id).getD (zs 480)),J,{ D with cr:=cD (D.cr+1) }):=by
 obtain ⟨t,b,e,s,f,g,j,l⟩:=h.tK id p c;obtain ⟨o,r⟩:=h.place c;have m:=L5 o r;have d:=h.calm.read (h.A5 c);rw [f] at d;rw [e];exact Oz (by rw [m];exact d) (Bi l j b) g
theorem fK.read {J:Jr} {D:aC} {has:Has} (h:fK J D has) {id:Int} (d:0<=id) (h1:id<J.n) :
  J.read D id=((0,(has id).getD (zs 480)),J,if (told J.T.ps id).isSome then { D with cr:=cD (D.cr+1) } else D):=by
 unfold Jr.read;rw [if_neg (by omega),h.br,if_neg (by simp)]
 cases c:told J.T.ps id with
 | none=>simp [h.Ug id c]
 | some p=>simp only [W5,if_true];exact h.load c
theorem fK.flush {J:Jr} {D:aC} {has:Has} (h:fK J D has):J.flush D=(0,J,D.aI):=by
 unfold Jr.flush;rw [h.br,if_neg (by simp),h.calm.flush];simp
theorem fK.aI {J:Jr} {D:aC} {has:Has} (h:fK J D has):fK J D.aI has:=by
 have c:=aC.ig h.Jg;rw [h.calm.flush] at c;exact h.dev (c.ok h.Jg (by have:=h.Jg.many;omega)) (iu h.calm) (bq D).2.2.2 fun a d=>fG h.Jg a d
def iI (c:Int):Nat->Int
 | 0=>c
 | k+1=>cD (iI c k+1)
theorem MA (c:Int) (k:Nat):iI (cD (c+1)) k=iI c (k+1):=by
 induction k with
 | zero=>rfl
 | succ k d=>rw [iI,d];rfl
def zU (has:Has) (own:KV) (c:List (Int × Int)):Bl:=(c.filter fun x => !(aP own x.1).isSome).map fun x=>(x.1,(has x.1).getD (zs 480))
theorem C3 {J:Jr} {D:aC} {has:Has} (h:fK J D has) (own:KV) (c:List (Int × Int)) (e:∀ x ∈ c,told J.T.ps x.1=U x.2) :
  J.cl D own c=((0,zU has own c),J,{ D with cr:=iI D.cr (zU has own c).length }):=by
 have:∀ (c:List (Int × Int)),(∀ x ∈ c,told J.T.ps x.1=U x.2)->∀ (d:Bl) (r:Int),c.foldl (Jr.cR own) ((0,d),J,{ D with cr:=r })=((0,d++zU has own c),J,{ D with cr:=iI r (zU has own c).length }):=by
  intro c
  induction c with
  | nil=>intro _ d r;simp [zU,iI]
  | cons x c m=>
   intro e d r;rw [W4];have s:=e x Y4;have l:=fun y u=>e y (X4 _ u)
   cases f:aP own x.1 with
   | some v=>
    have g:Jr.cR own ((0,d),J,{ D with cr:=r }) x=((0,d),J,{ D with cr:=r }):=by
     unfold Jr.cR;simp [f]
    have j:zU has own (x :: c)=zU has own c:=by simp [zU,f]
    rw [g,j];exact m l d r
   | none=>
    have o:=(h.cr r).load s
    have g:Jr.cR own ((0,d),J,{ D with cr:=r }) x=((0,d++[(x.1,(has x.1).getD (zs 480))]),J,{ D with cr:=cD (r+1) }):=by
     unfold Jr.cR;simp only [f];rw [o];simp
    have j:zU has own (x :: c)=(x.1,(has x.1).getD (zs 480)) :: zU has own c:=by simp [zU,f]
    rw [g,j,m l,MA,Y3];simp
 exact this c e [] D.cr
theorem kE {T:Tb} {P first k:Nat} {x:Int × Int} (h:x ∈ bY T P first k):∃ i,i<k/\x.2=(((first+i)%P:Nat):Int)/\told T.os x.2=U x.1:=by
 obtain ⟨p,f,c⟩:=List.mem_filterMap.1 h;obtain ⟨i,e,rfl⟩:=List.mem_map.1 f
 cases d:told T.os (((first+i)%P:Nat):Int) with
 | none=>rw [d] at c;cases c
 | some id=>
  rw [d] at c;injection c with c
  rw [<- c];exact ⟨i,List.mem_range.1 e,rfl,d⟩
theorem Ac {T:Tb} {P first k i:Nat} {id:Int} (c:i<k) (h:told T.os (((first+i)%P:Nat):Int)=U id):(id,(((first+i)%P:Nat):Int)) ∈ bY T P first k:=by
 refine List.mem_filterMap.2 ⟨(first+i)%P,List.mem_map.2 ⟨i,List.mem_range.2 c,rfl⟩,?_⟩;rw [h];rfl
theorem kM {T:Tb} (d:T.Mu) {P first:Nat}:∀ k,k<=P->((bY T P first k).map A3).Nodup:=by
 intro k
 induction k with
 | zero=>intro _;simp [bY]
 | succ k e=>
  intro r;rw [qX]
  cases l:told T.os (((first+k)%P:Nat):Int) with
  | none=>simp only [List.append_nil];exact e (by omega)
  | some id=>
   simp only [H3,List.map_cons,List.map_nil];rw [X3];refine ⟨e (by omega),by simp,?_⟩;intro a h b j;rw [List.mem_singleton.1 j];rintro rfl;obtain ⟨x,m,rfl⟩:=List.mem_map.1 h;obtain ⟨i,o,f,g⟩:=kE m;have c:=d.qp _ _ g;rw [d.qp _ _ l] at c;injection c with c
   rw [f] at c;have:=lY (a:=((first+k:Nat):Int)) (b:=((first+i:Nat):Int)) (P:=(P:Int)) (by omega) (by omega);exact this (by exact_mod_cast c)
structure Vx (J:Jr) (D:aC) (Z:List Wr) (k:Nat) (D':aC):Prop where
 run:J.bM D Z k=(0,D')
 calm:D'.Calm
 sec:D'.sec.length=D.sec.length
 cr:D'.cr=D.cr
 cf:D'.cf=D.cf
 cw:D'.cw=iI D.cw k
 new:∀ i:Nat,i<k->D'.cy ((J.hd+(i:Int))%(J.P:Int)+1)=(0,enc (J.tag i Z.length (Z.getD i Wr.nil).1)++(Z.getD i Wr.nil).2.2)
 pQ:∀ a,(∀ i:Nat,i<k->a≠(J.hd+(i:Int))%(J.P:Int)+1)->D'.cy a=D.cy a
theorem Vu (J:Jr) (D:aC) (M:0<J.P) (r:D.Calm) (hs:(J.P:Int)+1<=D.sec.length) (Z:List Wr) (o:∀ z ∈ Z,z.2.2.length=480) (N:(Z.length:Int)<=J.P):∀ k,k<=Z.length->∃ D',Vx J D Z k D':=by
  intro k
  induction k with
  | zero=>intro _;exact ⟨D,rfl,r,rfl,rfl,rfl,rfl,fun i c=>absurd c (Nat.not_lt_zero i),fun _ _=>rfl⟩
  | succ k C=>
    intro P;obtain ⟨D',w⟩:=C (by omega);obtain ⟨E,g,m,F,G,H,I,K⟩:=w;have u:Z.getD k Wr.nil ∈ Z:=by rw [B3,G3 (by omega)];exact P3 _
    have l:(enc (J.tag k Z.length (Z.getD k Wr.nil).1)++(Z.getD k Wr.nil).2.2).length=512:=by rw [D3,dF,o _ u]
    have b0:0<=(J.hd+(k:Int))%(J.P:Int):=V3 _ (by omega);have c0:(J.hd+(k:Int))%(J.P:Int)<J.P:=S5 _ (by omega);have s:D'.has ((J.hd+(k:Int))%(J.P:Int)+1):=⟨by omega,by rw [m];omega⟩
    have B:=g.write s l
    have f:J.bM D Z (k+1)=if (J.bM D Z k).1=0 then
        (let h:=(J.bM D Z k).2.write ((J.hd+(k:Int))%(J.P:Int)+1) (enc (J.tag k Z.length (Z.getD k Wr.nil).1)++(Z.getD k Wr.nil).2.2)
         (if h.1=0 then 0 else 2,h.2)) else J.bM D Z k:=rfl
    rw [E] at f;rw [B] at f;refine ⟨_,f,⟨g.down,g.eV⟩,m,F,G,by show cD (D'.cw+1)=_;rw [H];rfl,?_,?_⟩
    · intro i c
      rw [tB];rcases Nat.lt_or_eq_of_le (Nat.lt_succ_iff.1 c) with d|d
      · have S:(J.hd+(k:Int))%(J.P:Int)≠(J.hd+(i:Int))%(J.P:Int):=lY (by omega) (by omega)
        rw [if_neg (by omega)];exact I i d
      · subst d
        rw [if_pos rfl,jZ l]
    · intro a j
      rw [tB,if_neg (fun e=>j k (by omega) e.symm)];exact K a fun i c=>j i (by omega)
def mP (has:Has) (L:Bl):Has:=fun id=>(aP L id).or (has id)
structure Batch (n:Int) (L:Bl):Prop where
 n0:1<=L.length
 n1:L.length<=24
 id:∀ x ∈ L,0<=x.1/\x.1<n
 QZ:∀ x ∈ L,x.2.length=480
 nd:(L.map A3).Nodup
def AP (L:Bl):KV:=fu (mh L) L.length
theorem Ln (L:Bl) (id:Int):(aP (AP L) id).isSome=decide (id ∈ L.map A3):=by
 have c:(mh L).length=L.length:=by simp [mh]
 rw [AP,yx (by omega)];congr 1
 have:((mh L).take L.length).map A3=L.map A3:=by
  rw [<- c,K4];unfold mh;rw [V4];rfl
 rw [this]
def jm (J:Jr) (has:Has) (L:Bl):Bl:=zU has (AP L) (bY J.T J.P (Jr.tail J) (J.aU L.length).toNat)
theorem BJ {J:Jr} (c:J.Ok) (i:Nat):(((Jr.tail J+i)%J.P:Nat):Int)=(J.hd-J.us+(i:Int))%(J.P:Int):=by
 have d:=c.p0;unfold Jr.tail;rw [Int.natCast_emod,V5,Z3 (V3 _ (by omega)),Int.emod_add_emod]
theorem Lm {L:Bl} {x:Int} {i:Nat} (h:L.findIdx? (fun y=>y.1 == x)=U i):i<L.length/\(L.getD i (0,[])).1=x/\aP L x=U (L.getD i (0,[])).2:=by
 rw [List.findIdx?_eq_some_iff_getElem] at h;obtain ⟨c,d,f⟩:=h;have e:L.getD i (0,[])=L[i]:=by rw [B3,G3 c];rfl
 refine ⟨c,by rw [e];simpa using d,?_⟩;rw [e];have g:L.find? (fun p=>p.1 == x)=U L[i]:=List.find?_eq_some_iff_getElem.2 ⟨d,i,c,rfl,fun j l=>by simpa using f j l⟩;unfold aP;rw [g]
 rfl
theorem BB {c:Type} (A B:List (Int × c)) (x:Int):aP (A++B) x=(aP A x).or (aP B x):=by
 unfold aP;rw [List.find?_append];cases A.find? (fun p=>p.1 == x) <;> rfl
theorem NP {J:Jr} {D:aC} {has:Has} (h:fK J D has) (own:KV) (d:List (Int × Int)) (l:∀ x ∈ d,told J.T.ps x.1=U x.2) (id:Int) (b:List UInt8) (m:aP (zU has own d) id=U b):has id=U b:=by
 have o:=nh m;obtain ⟨x,r,e⟩:=List.mem_map.1 o;have s:=(List.mem_filter.1 r).1;obtain ⟨t,c,g,_⟩:=h.tK _ _ (l x s);injection e with j f
 rw [<- j,g];rw [g] at f;rw [<- f];rfl
theorem uS {J:Jr} {D:aC} {has:Has} (h:fK J D has) (own:KV) (d:List (Int × Int)) (e:∀ x ∈ d,told J.T.ps x.1=U x.2):∀ x ∈ zU has own d,x.2.length=480/\0<=x.1/\x.1<J.n:=by
 intro y o;obtain ⟨x,m,rfl⟩:=List.mem_map.1 o;have f:=(List.mem_filter.1 m).1;obtain ⟨t,c,g,j,_⟩:=h.tK _ _ (e x f);have l:=j9 (e x f);have:=h.ok.ps;exact ⟨by simp only [g,S4];exact j,l.1,by show x.1<J.n;omega⟩
theorem Fp (has:Has) (L:Bl) (c:List (Int × Int)):(zU has (AP L) c).map A3=(c.map A3).filter fun id=>decide (id ∉ L.map A3):=by
 unfold zU;rw [V4,List.filter_map];congr 1;congr 1;funext x;simp only [Function.comp,Ln];simp
structure TP (J:Jr) (D:aC) (has:Has) (L:Bl) (D':aC):Prop where
 run:eM J D true L=(0,J.done (L++jm J has L) (J.aU L.length),D')
 inv:fK (J.done (L++jm J has L) (J.aU L.length)) D' (mP has L)
 cr:D'.cr=iI D.cr (jm J has L).length
 cw:D'.cw=iI D.cw (L.length+(jm J has L).length)
 cf:D'.cf=cD (D.cf+1)
theorem sD {J:Jr} {D:aC} {has:Has} (h:fK J D has) (k:Nat):∀ x ∈ bY J.T J.P (Jr.tail J) k,told J.T.ps x.1=U x.2:=by
 intro x d;obtain ⟨_,_,_,c⟩:=kE d;exact h.Jh.qp _ _ c
theorem BC {J:Jr} {D:aC} {has:Has} (h:fK J D has) (L:Bl):eW J D L=((0,jm J has L),J,{ D with cr:=iI D.cr (jm J has L).length }):=
 C3 h (AP L) _ (sD h _)
theorem BR (J:Jr) (has:Has) (L:Bl) (c:0<=J.us):((jm J has L).length:Int)<=J.aU L.length:=by
 have d:(jm J has L).length<=(J.aU L.length).toNat:=by
  unfold jm zU;rw [K3];exact Nat.le_trans (Z5 _ _) (kC _ _ _ _)
 have:=(Jr.fA c L.length).1;omega
theorem Am {J:Jr} {D:aC} {has:Has} (h:fK J D has) {L:Bl} (r:Batch J.n L) (D0:J.sq<281474976710655) (d:¬ (J.P:Int)-J.us-J.fr<((L++jm J has L).length:Int)) :
  ∃ D',TP J D has L D':=by
 have hm:=BC h.aI L;have l:=h.aI;have hc:=Jr.fA h.ok.EM L.length;have L0:=BR J has L h.ok.EM;have P:=sD h (J.aU L.length).toNat;have C:(jm J has L).map A3=((bY J.T J.P (Jr.tail J) (J.aU L.length).toNat).map A3).filter fun id=>decide (id ∉ L.map A3):=Fp has L _;have r0:∀ id b,aP (jm J has L) id=U b->has id=U b:=fun id b hk=>NP h (AP L) _ P id b hk;have o0:∀ x ∈ jm J has L,x.2.length=480/\0<=x.1/\x.1<J.n:=uS h (AP L) _ P;have V0:=h.ok.EM;have W0:=h.ok.QL;have K0:=h.ok.U4;have S0:=h.ok.p0;have N0:=r.n1;generalize o:jm J has L=M at *;obtain ⟨A,g⟩:∃ A,A=L++M:=⟨_,rfl⟩
 have i0:A.length=L.length+M.length:=by rw [g,D3]
 rw [<- g] at d
 have B:∀ x ∈ A,x.2.length=480/\0<=x.1/\x.1<J.n:=by
  intro x f;rw [g] at f;rcases List.mem_append.1 f with f|f
  .exact ⟨r.QZ x f,r.id x f⟩
  .exact o0 x f
 have j0:(A.map A3).Nodup:=by
  rw [g,H3,X3];refine ⟨r.nd,?_,?_⟩
  .rw [C]
   exact (kM h.Jh _ (by omega)).filter _
  .intro a ha b S e
   rw [C] at S;have:=(List.mem_filter.1 S).2;rw [<- e] at this;simp only [decide_eq_true_eq] at this;exact this ha
 have K:(A.length:Int)<=J.P:=by omega
 have H0:(A.length:Int)+J.us<=J.P:=by omega
 have k0:∀ i:Nat,i<A.length->told J.T.os ((J.hd+(i:Int))%(J.P:Int))=W:=by
  intro i j
  cases E:told J.T.os ((J.hd+(i:Int))%(J.P:Int)) with
  | none=>rfl
  | some id=>
   obtain ⟨a,w,z,a3⟩:=h.win _ _ E;exact absurd a3 (lY (by omega) (by omega))
 have u0:=SM J h.ok h.Jh A (fun x f=>(B x f).2) j0 K k0 A.length (R3 _);obtain ⟨p1,H,p3⟩:=u0;rw [K4] at H;have F:(mh A).length=A.length:=by simp [mh]
 have F0:∀ h0 ∈ mh A,h0.2.2.length=480:=by
  intro h0 hz;obtain ⟨x,f,rfl⟩:=List.mem_map.1 hz;exact (B x f).1
 have e0:(J.P:Int)+1<=D.aI.sec.length:=l.sec;obtain ⟨D',G0⟩:=Vu J { D.aI with cr:=iI D.aI.cr M.length } h.ok.p0 (FF l.calm _) e0 (mh A) F0 (by rw [F];exact K) A.length (by rw [F];exact R3 _);have g0:=Jr.qI J (Ng l.Jg (iI D.aI.cr M.length)) (mh A) A.length (by show D.aI.wait.length+A.length<=1000000;have:D.aI.wait=[]:=rfl;rw [this];simp only [J3];have:=h.ok.p1;omega);obtain ⟨w1,w2,w3,w4,w5,w6,w7,w8⟩:=G0;rw [w1] at g0
 have x0:eM J D true L=(0,J.done A (J.aU L.length),D'):=by
  unfold eM;rw [if_neg (by simp),if_neg (by omega),h.flush,if_neg (by simp)];unfold vF;rw [hm,<- g,if_neg (by simp),if_neg d,w1,if_neg (by simp)]
 have d0:=J.wy A A.length;have T0:J.hd%(J.P:Int)=J.hd:=L5 h.ok.Jk h.ok.zR
 have s0:∀ i:Nat,i<A.length->D'.cy ((J.hd+(i:Int))%(J.P:Int)+1)=(0,enc (J.tag i A.length (A.getD i (0,[])).1)++(A.getD i (0,[])).2):=by
  intro i j;have:=w7 i j;rw [F,(gx _ _).1,(gx _ _).2,oZ] at this;exact this
 have c0:=h.nums.numbers D0
 have u:∃ q:Int,(J.done A (J.aU L.length)).hd=J.hd+(A.length:Int)-(J.P:Int)*q:=⟨(J.hd+(A.length:Int))/(J.P:Int),by
  show (J.hd+(A.length:Int))%(J.P:Int)=_
  have:=C6 (J.hd+(A.length:Int)) (J.P:Int);omega⟩
 obtain ⟨q,u⟩:=u
 have b0:∀ a:Int,J.hd-J.us+J.aU L.length<=a->a<J.hd+(A.length:Int)->∃ b:Int,(J.done A (J.aU L.length)).hd-(J.done A (J.aU L.length)).us<=b/\b<(J.done A (J.aU L.length)).hd/\a%(J.P:Int)=b%(J.P:Int):=by
  intro a w z;have e:(J.done A (J.aU L.length)).us=J.us+((A.length:Int)-J.aU L.length):=rfl;refine ⟨a-(J.P:Int)*q,by rw [u,e];omega,by rw [u];omega,?_⟩;rw [D6]
 refine ⟨D',by rw [o,<- g];exact x0,?_,?_,?_,?_⟩
 .rw [o,<- g]
  refine ⟨?_,?_,?_,h.br,w2,?_,p1,?_,?_,?_,?_⟩
  .exact ⟨h.ok.p0,h.ok.p1,Fe h.ok.T A A.length,by show ((J.fT A A.length).ps.length:Int)=J.n;rw [d0.1];exact h.ok.ps,by show (J.fT A A.length).os.length=J.P;rw [d0.2];exact h.ok.os,
    by show 0<=J.us+((A.length:Int)-J.aU L.length);omega,by show J.us+((A.length:Int)-J.aU L.length)<=(J.P:Int);omega,
    V3 _ (by omega),S5 _ (by omega),by show 0<=J.aU L.length;omega,by show J.aU L.length<=48;omega⟩
  .exact ⟨h.nums.Us,h.nums.Ut,h.nums.Sg,by show J.st<=J.sq+1+1;have:=h.nums.aR;omega,by show 0<=J.sq+1;have:=h.nums.Sl;omega,by show J.sq+1<=281474976710655;omega,h.nums.n1,Jr.Jc h.nums.own A A.length⟩
  .exact g0.ok (Ng l.Jg _) (by show D.aI.wait.length+A.length<=1000000;have:D.aI.wait=[]:=rfl;rw [this];simp only [J3];have:=h.ok.p1;omega)
  .rw [w3];exact e0
  .show J.us+((A.length:Int)-J.aU L.length)+J.aU L.length<=(J.P:Int);omega
  .intro p id m
   rcases p3 p id m with ⟨i,j,e,_⟩|⟨I,h2⟩
   .rw [e];exact b0 _ (by omega) (by omega)
   .obtain ⟨a,w,z,a3⟩:=h.win p id I
    rw [a3];refine b0 a ?_ (by omega);refine Classical.byContradiction fun m0=>?_;have m0:a<J.hd-J.us+J.aU L.length:=by omega
    apply h2;rw [K4];obtain ⟨i,j⟩:∃ i:Nat,a=J.hd-J.us+(i:Int):=⟨(a-(J.hd-J.us)).toNat,by omega⟩
    have E:told J.T.os (((Jr.tail J+i)%J.P:Nat):Int)=U id:=by rw [BJ h.ok,<- j,<- a3];exact I
    have q0:=Ac (T:=J.T) (P:=J.P) (first:=Jr.tail J) (k:=(J.aU L.length).toNat) (i:=i) (by omega) E;rw [g,H3,T5]
    by_cases N:id ∈ L.map A3
    .exact .inl N
    .right
     rw [C];exact List.mem_filter.2 ⟨List.mem_map.2 ⟨_,q0,rfl⟩,by simpa using N⟩
  .intro id p m
   have c:told (J.fT A A.length).ps id=U p:=m;rw [H] at c
   have f0:mP has L id=(aP A id).or (has id):=by
    rw [g,BB];unfold mP
    cases hk:aP L id with
    | some b=>rfl
    | none=>
     cases l0:aP M id with
     | none=>rfl
     | some b=>simp [r0 id b l0]
   cases d:A.findIdx? (fun y=>y.1 == id) with
   | some i=>
    rw [d] at c;injection c with c
    obtain ⟨G,i2,i3⟩:=Lm d;have p0:A.getD i (0,[]) ∈ A:=by rw [B3,G3 G];exact P3 _
    obtain ⟨b1,b2,b3⟩:=B _ p0;have R0:=h.nums.n1;refine ⟨J.tag i A.length (A.getD i (0,[])).1,(A.getD i (0,[])).2,by rw [f0,i3];rfl,b1,by rw [<- c];exact s0 i G,by show (A.getD i (0,[])).1=id;exact i2,?_,Jr.FP c0 _ _ _⟩;exact Jr.JR c0 G (by omega) b2 (by omega)
   | none=>
    rw [d] at c;simp only at c;obtain ⟨t,b,t1,t2,t3,t4⟩:=l.tK id p c;have s:=iW.1 d;refine ⟨t,b,by rw [f0,gn.2 s];exact t1,t2,?_,t4⟩;rw [w8 (p+1),JX]
    .exact t3
    .intro i j
     obtain ⟨a,w,z,a3⟩:=h.win p id (h.Jh.pq _ _ c);have:(J.hd+(i:Int))%(J.P:Int)≠p:=by rw [a3];exact lY (by omega) (by omega)
     omega
  .intro id m
   have c:told (J.fT A A.length).ps id=W:=m;rw [H] at c
   cases d:A.findIdx? (fun y=>y.1 == id) with
   | some i=>rw [d] at c;cases c
   | none=>
    rw [d] at c;have s:=iW.1 d;rw [g,H3,T5] at s;unfold mP;rw [gn.2 (fun q=>s (.inl q)),h.Ug id c]
    rfl
 .rw [o,w4]
  show iI D.aI.cr _=_
  rw [(bq D).1]
 .rw [o,w6,<- i0]
  show iI D.aI.cw _=_
  rw [(bq D).2.1]
 .rw [w5]
  exact (bq D).2.2.1
def mO (T:Tb) (P first k:Nat):Nat:=(bY T P first k).length
theorem rQ (T:Tb) (P first k:Nat):mO T P first (k+1)=mO T P first k+(if (told T.os (((first+k)%P:Nat):Int)).isSome then 1 else 0):=by
 unfold mO;rw [qX,D3];cases told T.os (((first+k)%P:Nat):Int) <;> simp
theorem re (T:Tb) (P first k:Nat):mO T P first k<=k:=kC _ _ _ _
def sy (J:Jr):Prop:=∀ k:Nat,(k:Int)<=J.us->2*J.us-(k:Int)+2*(mO J.T J.P (Jr.tail J) k:Int)<=5*J.n
theorem sX {l:List Int} {n:Nat} (h:l.Nodup) (d:∀ x ∈ l,0<=x/\x<n):l.length<=n:=by
 have:=vN (m:=(List.range n).map fun i:Nat=>(i:Int)) h fun x e=>by
  obtain ⟨c,f⟩:=d x e;exact List.mem_map.2 ⟨x.toNat,List.mem_range.2 (by omega),Z3 c⟩
 simpa using this
structure UF (J:Jr) (L A:Bl):Prop where
 b:∀ x ∈ A,x.2.length=480/\0<=x.1/\x.1<J.n
 nd:(A.map A3).Nodup
theorem Td {J:Jr} {D:aC} {has:Has} (h:fK J D has) {L:Bl} (d:Batch J.n L):UF J L (L++jm J has L):=by
 have o:=Jr.fA h.ok.EM L.length;have j:=sD h (J.aU L.length).toNat;have g:(jm J has L).map A3=((bY J.T J.P (Jr.tail J) (J.aU L.length).toNat).map A3).filter fun id=>decide (id ∉ L.map A3):=Fp has L _;have m:=uS h (AP L) _ j;have r:=h.ok.QL;refine ⟨?_,?_⟩
 .intro x c
  rcases List.mem_append.1 c with c|c
  .exact ⟨d.QZ x c,d.id x c⟩
  .exact m x c
 .rw [H3,X3]
  refine ⟨d.nd,?_,?_⟩
  .rw [g]
   exact (kM h.Jh _ (by omega)).filter _
  .intro a l b f e
   rw [g] at f;have:=(List.mem_filter.1 f).2;rw [<- e] at this;simp only [decide_eq_true_eq] at this;exact this l
theorem Bn {J:Jr} {D:aC} {has:Has} (h:fK J D has) {L:Bl} (d:Batch J.n L) (e:¬ (J.P:Int)-J.us-J.fr<((L++jm J has L).length:Int)) :
  SH J (L++jm J has L) (L++jm J has L).length:=by
 have c:=Td h d;have r:=h.ok.EM;have m:=h.ok.U4;generalize L++jm J has L=A at c e ⊢;refine SM J h.ok h.Jh A (fun x g=>(c.b x g).2) c.nd (by omega) ?_ A.length (R3 _);intro i o
 cases f:told J.T.os ((J.hd+(i:Int))%(J.P:Int)) with
 | none=>rfl
 | some id=>
  obtain ⟨a,j,l,a3⟩:=h.win _ _ f;exact absurd a3 (lY (by omega) (by omega))
theorem Mf (J:Jr) (has:Has) (L:Bl):(jm J has L).length<=mO J.T J.P (Jr.tail J) (J.aU L.length).toNat:=by
 unfold jm zU mO;rw [K3];exact Z5 _ _
theorem Dn {J:Jr} {D:aC} {has:Has} (h:fK J D has) (e:sy J) (g:5*J.n+240<=2*(J.P:Int)) {L:Bl} (f:Batch J.n L) :
  ¬ (J.P:Int)-J.us-J.fr<((L++jm J has L).length:Int):=by
 have j:=Jr.fA h.ok.EM L.length;have m:=BR J has L h.ok.EM;have o:=f.n1;have l:=h.ok.VC;have d:=e 0 (by have:=h.ok.EM;omega);have c:mO J.T J.P (Jr.tail J) 0=0:=by have:=re J.T J.P (Jr.tail J) 0;omega
 rw [c] at d;rw [D3];omega
theorem LV {T d:Tb} {P f e c:Nat}:∀ k:Nat,(∀ i,i<k->(told d.os (((e+i)%P:Nat):Int)).isSome=true->(told T.os (((f+(c+i))%P:Nat):Int)).isSome=true)->mO d P e k+mO T P f c<=mO T P f (c+k):=by
 intro k
 induction k with
 | zero=>intro _;have:=re d P e 0;simp only [Nat.add_zero];omega
 | succ k j=>
  intro h;have:=j fun i l=>h i (by omega);have g:=h k (by omega);rw [<- Z4,rQ,rQ];generalize (told d.os (((e+k)%P:Nat):Int)).isSome=b at g ⊢
  cases b with
  | false=>simp only [Bool.false_eq_true,if_false];omega
  | true=>rw [g rfl];omega
theorem Lr (T:Tb) (P f a:Nat):∀ x,mO T P f (a+x)<=mO T P f a+x:=by
 intro x
 induction x with
 | zero=>exact R3 _
 | succ x c=>rw [<- Z4,rQ];split <;> omega
theorem C7 {J:Jr} {D:aC} {has:Has} (h:fK J D has) (m:sy J) {L:Bl} (o:Batch J.n L) (hf:¬ (J.P:Int)-J.us-J.fr<((L++jm J has L).length:Int)) :
  sy (J.done (L++jm J has L) (J.aU L.length)):=by
 have C:=Td h o;have u:=Bn h o hf;have hc:=Jr.fA h.ok.EM L.length;have d0:=Mf J has L;have p0:=h.ok.U4;have hps:=h.ok.ps;have o0:=o.n0;generalize hM:jm J has L=M at *;have j0:(L++M).length=L.length+M.length:=D3;generalize hA:L++M=A at *;obtain ⟨c,r⟩:∃ c:Nat,J.aU L.length=(c:Int):=⟨(J.aU L.length).toNat,by omega⟩
 have E:(c:Int)=if J.us<2*(L.length:Int) then J.us else 2*(L.length:Int):=by rw [<- r];rfl
 rw [r,L3] at d0;rw [r] at hc ⊢;obtain ⟨s,hs⟩:∃ s:Nat,J.us=(c:Int)+(s:Int):=⟨(J.us-c).toNat,by omega⟩
 have z:(J.done A c).us=(s:Int)+(A.length:Int):=by show J.us+((A.length:Int)-c)=_;omega
 have f0:(J.done A c).n=J.n:=rfl;have B:(J.done A c).P=J.P:=rfl;have N:(J.done A c).T=J.fT A A.length:=rfl
 have h0:∀ i:Nat,(((Jr.tail (J.done A c)+i)%J.P:Nat):Int)=(J.hd-J.us+(c:Int)+(i:Int))%(J.P:Int):=by
  intro i;unfold Jr.tail;have b0:(J.done A c).hd=(J.hd+(A.length:Int))%(J.P:Int):=rfl;rw [z,B,b0,Int.natCast_emod,V5,Z3 (V3 _ (by omega)),Int.emod_add_emod];have j:=C6 (J.hd+(A.length:Int)) (J.P:Int);generalize (J.hd+(A.length:Int))%(J.P:Int)=x at j;generalize (J.hd+(A.length:Int))/(J.P:Int)=y at j;rw [show x-((s:Int)+(A.length:Int))+(i:Int)=J.hd-J.us+(c:Int)+(i:Int)-(J.P:Int)*y by omega,D6]
 have G:∀ (i:Nat) (x:Int),i<s->told (J.fT A A.length).os (((Jr.tail (J.done A c)+i)%J.P:Nat):Int)=U x->told J.T.os (((Jr.tail J+(c+i))%J.P:Nat):Int)=U x/\x ∉ A.map A3:=by
  intro i x l d;rw [h0] at d;rw [BJ h.ok,V5,<- Int.add_assoc];rcases u.os _ _ d with ⟨k,F,e,_⟩|⟨j,w⟩
  .exact absurd e.symm (lY (by omega) (by omega))
  .rw [K4] at w;exact ⟨j,w⟩
 have e0:∀ k,k<=s->mO (J.fT A A.length) J.P (Jr.tail (J.done A c)) k+mO J.T J.P (Jr.tail J) c<=mO J.T J.P (Jr.tail J) (c+k):=fun k F=>LV k fun i l d=>by
  obtain ⟨x,d⟩:=Option.isSome_iff_exists.1 d;rw [(G i x (by omega) d).1];rfl
 have m0:mO (J.fT A A.length) J.P (Jr.tail (J.done A c)) s+A.length<=J.T.ps.length:=by
  have g0:(((bY (J.fT A A.length) J.P (Jr.tail (J.done A c)) s).map A3)++A.map A3).Nodup:=by
   rw [X3];refine ⟨kM u.Jh s (by omega),C.nd,?_⟩;intro a P b S e;obtain ⟨y,f,rfl⟩:=List.mem_map.1 P;obtain ⟨i,l,H,g⟩:=kE f;rw [H] at g;rw [e] at g;exact (G i _ l g).2 S
  have:=sX (n:=J.T.ps.length) g0 fun x d=>by
   rcases List.mem_append.1 d with d|d
   .obtain ⟨y,f,rfl⟩:=List.mem_map.1 d
    obtain ⟨i,l,H,g⟩:=kE f;have:=j9 (u.Jh.qp _ _ g);have hl:=(J.wy A A.length).1;exact ⟨this.1,by have:=this.2.1;omega⟩
   .obtain ⟨y,f,rfl⟩:=List.mem_map.1 d
    have:=(C.b y f).2;exact ⟨this.1,by have:=this.2;omega⟩
  rw [D3,K3,K3] at this;exact this
 intro k F;rw [z,f0,B,N] at *;have K:=m 0 (by omega);have I:mO J.T J.P (Jr.tail J) 0=0:=by have:=re J.T J.P (Jr.tail J) 0;omega
 rw [I] at K
 by_cases c0:k<=s
 .have r0:=e0 k c0
  have k0:=m (c+k) (by omega);have q0:=re (J.fT A A.length) J.P (Jr.tail (J.done A c)) k
  split at E <;> omega
 .obtain ⟨x,d⟩:∃ x,k=s+x:=⟨k-s,by omega⟩
  have i0:=Lr (J.fT A A.length) J.P (Jr.tail (J.done A c)) s x;rw [<- d] at i0;have l0:=m c (by omega)
  split at E <;> omega
end Go.Proofs.Nn

/- Steps. -/
import Derived.Test.YtacliaemfegopaaGreatDoorKP11
import Derived.Lib.AppendZeros
set_option linter.unusedVariables false
set_option linter.unusedSimpArgs false
set_option maxRecDepth 100000
set_option maxHeartbeats 40000000
open Go.Proofs Go.SL
namespace Go.Nn
open Go.RowKit Go.SL
attribute [local go_sem] Oper.semAt_some
theorem my:(Tryz.prog.info? 188).map (fun i=>(i.zero,i.size,i.bytes))=some (some (.agg #[.int .i64 0,.slice none 0 0]),2,32):=by kernel_rfl
def NK (S:Hp) (j d r t m:Nat) (own:KV) (R:Mv) (F:ah) (w:World) (e:Ending) (w':World):Prop:=
 ∃ (S':Hp) (v:Value) (Z:Zs),Ext S S'∧e = .returned (.tuple #[v,.int .i64 R.1.1])∧Z.map (fun z=>(z.1,z.2.2))=R.1.2∧(∀ z ∈ Z,oV 5 S' z.2.1 z.2.2) ∧
  Sat w' (iW j d r t R.2.1*(aK S' d R.2.2*(aj S'*(sl 188 2 v Z.length (bB Z)*(mp m own*F)))))∧ai w w'
def jR (S:Hp) (d m bl bj bo b6 b7 j:Nat) (own:KV) (J:Jr) (D:ay) (F:ah) (ys:List (Int × Int)):ah:=ex fun q:Hp × Value × Zs=>
 fact (Ext S q.1∧(J.bO D own ys).1.1=0∧q.2.2.map (fun z=>(z.1,z.2.2))=(J.bO D own ys).1.2∧∀ z ∈ q.2.2,oV 5 q.1 z.2.1 z.2.2) *
  (pt bl (.cells #[q.2.1] 126 (0,0))*(sl 188 2 q.2.1 q.2.2.length (bB q.2.2)*(aK q.1 d (J.bO D own ys).2.2*(aj q.1 *
   (pt bj (.cells #[ax j] 123 (0,0))*(pt bo (.cells #[.map (some m)] 177 (0,0))*(pt b6 (.cells #[.slice none 0 0] 126 (0,0))*(pt b7 (.cells #[.int .i64 0] 28 (0,0))*(mp m own*F)))))))))
def BF (S:Hp) (j d r t m b6 b7:Nat) (own:KV) (J:Jr) (D:ay) (F:ah) (ys:List (Int × Int)):ah:=ex fun S':Hp=>
 fact (Ext S S'∧(J.bO D own ys).1.1≠0∧(J.bO D own ys).1.2=[])*(iW j d r t (J.bO D own ys).2.1*(pt b6 (.cells #[.slice none 0 0] 126 (0,0))*(pt b7 (.cells #[.int .i64 (J.bO D own ys).1.1] 28 (0,0))*(aK S' d (J.bO D own ys).2.2*(aj S'*(mp m own*F))))))
theorem qT {S:Hp} {d m bl bj bo b6 b7 j:Nat} {own:KV} {J:Jr} {D:ay} {F G:ah} {ys:List (Int × Int)} {w:World} (h:Sat w (jR S d m bl bj bo b6 b7 j own J D F ys*G)) :
  ∃ (S':Hp) (v:Value) (Z:Zs),Ext S S'∧(J.bO D own ys).1.1=0∧Z.map (fun z=>(z.1,z.2.2))=(J.bO D own ys).1.2∧(∀ z ∈ Z,oV 5 S' z.2.1 z.2.2) ∧
   Sat w (pt bl (.cells #[v] 126 (0,0))*(sl 188 2 v Z.length (bB Z)*(aK S' d (J.bO D own ys).2.2*(aj S' *
   (pt bj (.cells #[ax j] 123 (0,0))*(pt bo (.cells #[.map (some m)] 177 (0,0))*(pt b6 (.cells #[.slice none 0 0] 126 (0,0))*(pt b7 (.cells #[.int .i64 0] 28 (0,0))*(mp m own*(F*G)))))))))):=by
 obtain ⟨q,h⟩:=Sat.au.1 h;obtain ⟨⟨h1,h2,h3,h4⟩,h5⟩:=Sat.ak.1 (h.to (aw _ _ _));exact ⟨q.1,q.2.1,q.2.2,h1,h2,h3,h4,h5.to (by ac_rfl)⟩
theorem mi {S S':Hp} {d m bl bj bo b6 b7 j:Nat} {own:KV} {J:Jr} {D:ay} {F G:ah} {ys:List (Int × Int)} {w:World} {v:Value} {Z:Zs} (h1:Ext S S') (h2:(J.bO D own ys).1.1=0)
  (h3:Z.map (fun z=>(z.1,z.2.2))=(J.bO D own ys).1.2) (h4:∀ z ∈ Z,oV 5 S' z.2.1 z.2.2)
  (h:Sat w (pt bl (.cells #[v] 126 (0,0))*(sl 188 2 v Z.length (bB Z)*(aK S' d (J.bO D own ys).2.2*(aj S' *
   (pt bj (.cells #[ax j] 123 (0,0))*(pt bo (.cells #[.map (some m)] 177 (0,0))*(pt b6 (.cells #[.slice none 0 0] 126 (0,0))*(pt b7 (.cells #[.int .i64 0] 28 (0,0))*(mp m own*(F*G))))))))))):Sat w (jR S d m bl bj bo b6 b7 j own J D F ys*G):=
 by
 unfold jR;exact Sat.au.2 ⟨(S',v,Z),(Sat.ak.2 ⟨⟨h1,h2,h3,h4⟩,h⟩:Sat w (fact (_∧_∧_∧_)*_)).to (by ac_rfl)⟩
theorem yc {S S':Hp} {j d r t m b6 b7:Nat} {own:KV} {J:Jr} {D:ay} {F G:ah} {ys:List (Int × Int)} {w:World} (h1:Ext S S') (h2:(J.bO D own ys).1.1≠0) (h3:(J.bO D own ys).1.2=[])
  (h:Sat w (iW j d r t (J.bO D own ys).2.1*(pt b6 (.cells #[.slice none 0 0] 126 (0,0))*(pt b7 (.cells #[.int .i64 (J.bO D own ys).1.1] 28 (0,0))*(aK S' d (J.bO D own ys).2.2*(aj S'*(mp m own*(F*G)))))))) :
  Sat w (BF S j d r t m b6 b7 own J D F ys*G):=
 by
 unfold BF;exact Sat.au.2 ⟨S',(Sat.ak.2 ⟨⟨h1,h2,h3⟩,h⟩:Sat w (fact (_∧_∧_)*_)).to (by ac_rfl)⟩
theorem nH {tmps:Array Value} {w:World} {b6 b7:Nat} {v u:Value} (h6:tmps[6]?=some (.pointer (some ⟨b6,0,none⟩))) (h7:tmps[7]?=some (.pointer (some ⟨b7,0,none⟩))) (c6:w.cell? ⟨b6,0,none⟩=some v) (c7:w.cell? ⟨b7,0,none⟩=some u) :
  (results Tryz.f125 tmps).run Tryz.prog w = .ok (.tuple #[v,u]) w:=by
 simp [results,Tryz.results125,go_sem,h6,h7,c6,c7]
theorem AG (Z:Zs) (z:Int × Value × List UInt8):bB (Z++[z])=bB Z++[.int .i64 z.1,z.2.1]:=by simp [bB]
theorem Be (w:World) (S:Hp) (j d r t m:Nat) (J:Jr) (D:ay) (own:KV) (n:Nat) (F:ah) (h:Sat w (iW j d r t J*(aK S d D*(aj S*(mp m own*F))))) (hJ:J.Ok) (hD:D.Ok) (hn:n≤J.P) :
  Calls Tryz.prog 125 #[ax j,.int .i64 (n:Int),.map (some m)] w (NK S j d r t m own (J.bO D own (bL J.T J.P (Jr.tail J) n)) F w):=by
 obtain ⟨i0,hi,hz,hs0,hb0⟩:=info_parts my;refine (callsIn_wide (n:=9)).1 ?_;refine callsIn_of_wp_marks Tryz.func125 rfl trivial ?_ rfl;simp only [Tryz.ntmps125,List.size_toArray,List.length_cons,List.length_nil,Nat.reduceAdd,Nat.reduceSub,Array.replicate_succ,Array.replicate_zero,List.push_toArray,List.append_toArray,List.nil_append,List.cons_append];have h1:=((((h.alloc (.cells #[ax j] 123 (0,0))).alloc (.cells #[.map (some m)] 177 (0,0))).alloc (.cells #[.slice none 0 0] 126 (0,0))).alloc (.cells #[.int .i64 0] 28 (0,0))).alloc (.cells #[.slice none 0 0] 126 (0,0));have d1:=(((((ai.refl w).alloc (.cells #[ax j] 123 (0,0))).alloc (.cells #[.map (some m)] 177 (0,0))).alloc (.cells #[.slice none 0 0] 126 (0,0))).alloc (.cells #[.int .i64 0] 28 (0,0))).alloc (.cells #[.slice none 0 0] 126 (0,0));simp only [World.size_alloc] at h1
 gi_wp2_with fail
 generalize ((((w.alloc (.cells #[ax j] 123 (0,0))).alloc (.cells #[.map (some m)] 177 (0,0))).alloc (.cells #[.slice none 0 0] 126 (0,0))).alloc (.cells #[.int .i64 0] 28 (0,0))).alloc (.cells #[.slice none 0 0] 126 (0,0))=w1 at h1 d1 ⊢;generalize w.heap.size+1+1+1+1=bl at h1 ⊢;generalize w.heap.size+1+1+1=b7 at h1 ⊢;generalize w.heap.size+1+1=b6 at h1 ⊢;generalize w.heap.size+1=bo at h1 ⊢;generalize w.heap.size=bj at h1 ⊢;refine l8 (GF w1 j (n:Int)) ?_;rintro e w2 ⟨rfl,rfl⟩;have h2:=(h1.alloc (.cells #[ax j] 123 (0,0))).alloc (.cells #[.int .i64 (n:Int)] 3 (0,0));have d2:=(d1.alloc (.cells #[ax j] 123 (0,0))).alloc (.cells #[.int .i64 (n:Int)] 3 (0,0));simp only [World.size_alloc] at h2
 gi_wp2_with fail
 generalize (w1.alloc (.cells #[ax j] 123 (0,0))).alloc (.cells #[.int .i64 (n:Int)] 3 (0,0))=w2 at h2 d2 ⊢;generalize w1.heap.size+1=cn at h2 ⊢;generalize w1.heap.size=cj at h2 ⊢;clear h1 d1 h
 have hE:Sat w2 ((iW j d r t J*jR S d m bl bj bo b6 b7 j own J D F [])*(gn cj cn j n*emp)):=by
  have h3:=h2.eA 188 2
  have h4:Sat w2 (jR S d m bl bj bo b6 b7 j own J D F []*(gn cj cn j n*iW j d r t J)):=mi (S':=S) (v:=.slice none 0 0) (Z:=[]) (Ext.refl S) rfl rfl (by simp)
   (h3.to (by unfold gn;simp only [Jr.bO,List.foldl_nil,List.length_nil,bB,List.flatMap_nil];ac_rfl))
  exact h4.to (by rw [oT];ac_rfl)
 clear h2
 refine kN (w0:=w) rfl (by decide) (gf:=225) (lb:=#[.pointer (some ⟨cj,0,none⟩),.pointer (some ⟨cn,0,none⟩)]) rfl trivial (enters Tryz.func225 (by kernel_rfl) rfl)
  (Ft _ cj cn j d r t J n hJ hn)
  (fun x tt=>(((tt.setIfInBounds 18 (.int .i64 x.1)).setIfInBounds 19 (.int .i64 x.2)).setIfInBounds 9 (.int .i64 x.1)).setIfInBounds 10 (.int .i64 x.2))
  (fun ys=>iW j d r t J*jR S d m bl bj bo b6 b7 j own J D F ys) (fun X=>ui (zQ _ _) X)
  (fun c ys=>fact (c = .ret)*BF S j d r t m b6 b7 own J D F ys)
  (fun pre x=>iW j d r t J*jR S d m bl bj bo b6 b7 j own J D F pre) emp ?hps d2 hE ?assign ?body ?done ?stop
 case hps=>
  intro x vs Fr W h;unfold Ak at h;obtain ⟨rfl,_⟩:=Sat.ak.1 h
  rfl
 case assign=>
  intro l rr pre x vs Fr W K _ hsd H hK;have H1:=H.ag;unfold Ak at H1;obtain ⟨rfl,H2⟩:=Sat.ak.1 H1;clear H H1
  gi_wp2
  exact hK _ hsd H2
 case done=>
  intro D2 ys W hS hsd H;subst hS;obtain ⟨S',v,Z,hE1,h0,hZ,hV,H2⟩:=qT (H.to (by ac_rfl):Sat W (jR S d m bl bj bo b6 b7 j own J D F (bL J.T J.P (Jr.tail J) n)*(iW j d r t J*(gn cj cn j n*(pt D2 (.deferred (some []))*emp)))));have kl:W.cell? ⟨bl,0,none⟩=some v:=H2.cell 0;have k6:W.cell? ⟨b6,0,none⟩=some (.slice none 0 0):=H2.bM.cell 0;have f6:W.frozen? ⟨b6,0,none⟩=false:=H2.bM.frozen 0;have H3:=(H2.bM.setCell 0 v).dI;have k7:(W.setCell ⟨b6,0,none⟩ v).cell? ⟨b7,0,none⟩=some (.int .i64 0):=H3.cell 0;have f7:(W.setCell ⟨b6,0,none⟩ v).frozen? ⟨b7,0,none⟩=false:=H3.frozen 0;have H4:=H3.setCell 0 (.int .i64 0);have d4:=(hsd.setCell ⟨b6,0,none⟩ v).setCell ⟨b7,0,none⟩ (.int .i64 0);obtain ⟨va,vc,rfl⟩:=aB H2.ag;have hj:=Jr.td h0;generalize J.bO D own (bL J.T J.P (Jr.tail J) n)=R at *;obtain ⟨⟨rc,rl⟩,J',D'⟩:=R;simp only at h0 hj hZ;subst h0 hj;have HH:=ae H4;clear H H2 H3 H4 hE d2;have HD:=ae d4;clear d4
  gi_wp2
  generalize (W.setCell ⟨b6,0,none⟩ (.slice va Z.length vc)).setCell ⟨b7,0,none⟩ (.int .i64 0)=W3 at HH HD ⊢
  have H5:Sat W3 (pt D2 (.deferred (some []))*(pt b6 (.cells #[.slice va Z.length vc] 126 (0,0))*(pt b7 (.cells #[.int .i64 0] 28 (0,0))*(iW j d r t J'*(aK S' d D'*(aj S'*(sl 188 2 (.slice va Z.length vc) Z.length (bB Z)*(mp m own*F)))))))):=by
   have h:=HH.out;simp only [List.setIfInBounds_toArray,List.set_cons_zero] at h;exact (h.to (by ac_rfl:_=(pt bl (.cells #[.slice va Z.length vc] 126 (0,0))*(pt bj (.cells #[ax j] 123 (0,0))*(pt bo (.cells #[.map (some m)] 177 (0,0))*(gn cj cn j n*emp))))*(pt D2 (.deferred (some []))*(pt b6 (.cells #[.slice va Z.length vc] 126 (0,0))*(pt b7 (.cells #[.int .i64 0] 28 (0,0))*(iW j d r t J'*(aK S' d D'*(aj S'*(sl 188 2 (.slice va Z.length vc) Z.length (bB Z)*(mp m own*F)))))))))).right
  have hK:=H5.heap;have H6:=(H5.putObj (.deferred none)).right;refine ⟨by simp,.inl ⟨_,_,rfl,run_takeDeferred hK,?_⟩⟩;exact ⟨_,nH rfl rfl (H6.cell 0) (H6.ag.cell 0),S',_,Z,hE1,rfl,hZ,hV,H6.right.right,HD.out.putObj _ _⟩
 case stop=>
  intro D2 c ys W hSp hsd H0;obtain ⟨rfl,H⟩:=Sat.ak.1 (H0.to (aw _ _ _));obtain ⟨S',H1⟩:=Sat.au.1 H;obtain ⟨⟨hE1,h0,hnil⟩,H2⟩:=Sat.ak.1 (H1.to (aw _ _ _));have hst:=Jr.Cd h0 hSp
  have H3:Sat W (pt D2 (.deferred (some []))*(pt b6 (.cells #[.slice none 0 0] 126 (0,0))*(pt b7 (.cells #[.int .i64 (J.bO D own ys).1.1] 28 (0,0))*(iW j d r t (J.bO D own ys).2.1*(aK S' d (J.bO D own ys).2.2*(aj S'*(mp m own*F))))))):=
   (H2.to (by ac_rfl:_=(gn cj cn j n*emp)*(pt D2 (.deferred (some []))*(pt b6 (.cells #[.slice none 0 0] 126 (0,0))*(pt b7 (.cells #[.int .i64 (J.bO D own ys).1.1] 28 (0,0))*(iW j d r t (J.bO D own ys).2.1*(aK S' d (J.bO D own ys).2.2*(aj S'*(mp m own*F))))))))).right
  rw [hst];have hK:=H3.heap;have H4:=(H3.putObj (.deferred none)).right;have H5:=H4.right.right.eA 188 2;have HD:=ae (hsd.putObj D2 (.deferred none));have HN:=ae hnil;have H4':=ae H4;have H5':=ae H5;generalize J.bO D own ys=R at *;clear H0 H H1 H2 H3 H4 H5 hE d2 hst h0 hnil
  gi_wp2
  refine ⟨by simp,.inl ⟨_,_,rfl,run_takeDeferred hK,?_⟩⟩;exact ⟨_,nH rfl rfl (H4'.out.cell 0) (H4'.out.ag.cell 0),S',.slice none 0 0,[],hE1,rfl,by rw [HN.out];rfl,by simp,H5'.out.to (by ac_rfl),HD.out⟩
 case body=>
  intro l rr pre x Fr W hSp hsd H;obtain ⟨id,p⟩:=x;obtain ⟨S',v,Z,hE1,h0,hZ,hV,H2⟩:=qT (H.to (by ac_rfl):Sat W (jR S d m bl bj bo b6 b7 j own J D F pre*(iW j d r t J*(pt l (.loop rr)*Fr))));have hst:=J.BI D own pre (id,p);unfold Jr.cI at hst;rw [if_neg (by simpa using h0),Jr.td h0] at hst;dsimp only at hst
  have hln:Z.length≤n:=by
   have h1:=hSp.length_le;have h2:=jG J.T J.P (Jr.tail J) n;have h3:=Jr.wy (J:=J) (D:=D) (own:=own) pre;rw [← hZ,List.length_map] at h3;simp only [List.length_append,List.length_cons,List.length_nil] at h1;omega
  have hP:=hJ.p1;have hDk:(J.bO D own pre).2.2.Ok:=(J.ri hD own pre).ok hD (by have:=hD.many;omega);have kj:W.cell? ⟨bj,0,none⟩=some (ax j):=H2.aG.cell 0;have ko:W.cell? ⟨bo,0,none⟩=some (.map (some m)):=H2.dj.cell 0;have hlk:=Sat.lookup (P:=Tryz.prog) Tryz.underlying177 Tryz.underlying3 (z:=.int .i64 0) (by kernel_rfl) H2.jU id true
  cases hk:aH own id with
  | some q=>
   rw [hk] at hst hlk;simp only [Option.isSome_some,if_true,Option.getD_some] at hst hlk
   have H3:Sat W ((iW j d r t J*jR S d m bl bj bo b6 b7 j own J D F (pre++[(id,p)]))*(pt l (.loop rr)*Fr)):=by
    have:=mi (S:=S) (S':=S') (own:=own) (J:=J) (D:=D) (ys:=pre++[(id,p)]) (F:=F) (G:=iW j d r t J*(pt l (.loop rr)*Fr)) (v:=v) (Z:=Z) hE1 (by rw [hst];exact h0) (by rw [hst];exact hZ) hV (by rw [hst];exact H2);exact this.to (by ac_rfl)
   have H3':=ae H3;clear H H2 H3 hst hk hSp hE d2
   gi_wp2
   exact ⟨hsd,H3'.out⟩
  | none=>
   rw [hk] at hst hlk;simp only [Option.isSome_none,if_true,Option.getD_none,if_neg Bool.false_ne_true] at hst hlk
   have hl:=vV W S' j d r t J (J.bO D own pre).2.2 id p _ (H2.to (by ac_rfl:_=iW j d r t J*(aK S' d (J.bO D own pre).2.2*(aj S'*(pt bl (.cells #[v] 126 (0,0))*(sl 188 2 v Z.length (bB Z) *
    (pt bj (.cells #[ax j] 123 (0,0))*(pt bo (.cells #[.map (some m)] 177 (0,0))*(pt b6 (.cells #[.slice none 0 0] 126 (0,0))*(pt b7 (.cells #[.int .i64 0] 28 (0,0))*(mp m own*(F*(pt l (.loop rr)*Fr))))))))))))) hJ hDk
   have hl0:=oX (J:=J) (D:=(J.bO D own pre).2.2) (id:=id) (p:=p);have hlo:=Jr.Cr (J:=J) (D:=(J.bO D own pre).2.2) (id:=id) (p:=p);have hln':Z.length+1≤20001:=by omega
   generalize hR:J.load (J.bO D own pre).2.2 id p=R at hl hst hl0 hlo;obtain ⟨⟨rc,rl⟩,J',D'⟩:=R;dsimp only at hl hst hl0 hlo;have Hst:=ae hst;have Hl0:=ae hl0;have Hlo:=ae hlo;have HZ:=ae hZ;have HV:=ae hV;have HE1:=ae hE1;clear H H2 hst hk hSp hE d2 hR hl0 hlo hZ hV hE1 hDk h0
   gi_wp2_with fail
   refine qF hl ?_;rintro e w3 ⟨dv,rfl,h3,d3⟩;clear hl kj ko hlk
   by_cases hrc:rc=0
   ·subst hrc
    obtain rfl:=Hlo.out rfl;have hst:=Hst.out;rw [if_pos rfl] at hst;have h480:=Hl0.out rfl
    obtain ⟨S3,hE3,hV3,h4⟩:=Sat.xM (h3.sm.to (by ac_rfl:_=aj S'*(bs 5 dv rl*(pt bl (.cells #[v] 126 (0,0))*(sl 188 2 v Z.length (bB Z)*(iW j d r t J'*(aK S' d D' *
     (pt bj (.cells #[ax j] 123 (0,0))*(pt bo (.cells #[.map (some m)] 177 (0,0))*(pt b6 (.cells #[.slice none 0 0] 126 (0,0))*(pt b7 (.cells #[.int .i64 0] 28 (0,0))*(mp m own*(F*(pt l (.loop rr)*Fr)))))))))))))) (by unfold small;omega)
    obtain ⟨da,dc,rfl⟩:∃ da dc,dv = .slice da rl.length dc:=by
     rcases hV3.2 with ⟨rfl,h0⟩|⟨g,cap,cur,rfl,_⟩
     ·exact ⟨_,_,by rw [h0];rfl⟩
     ·exact ⟨_,_,rfl⟩
    have h5:Sat w3 (sl 188 2 v Z.length (bB Z)*(pt bl (.cells #[v] 126 (0,0))*(aK S3 d D'*(aj S3*(pt bj (.cells #[ax j] 123 (0,0))*(pt bo (.cells #[.map (some m)] 177 (0,0))*(pt b6 (.cells #[.slice none 0 0] 126 (0,0))*(pt b7 (.cells #[.int .i64 0] 28 (0,0))*(mp m own*(F*(iW j d r t J'*(pt l (.loop rr)*Fr)))))))))))):=
     ((h4.to (by ac_rfl:_=aK S' d D'*(sl 188 2 v Z.length (bB Z)*(pt bl (.cells #[v] 126 (0,0))*(aj S3*(pt bj (.cells #[ax j] 123 (0,0))*(pt bo (.cells #[.map (some m)] 177 (0,0))*(pt b6 (.cells #[.slice none 0 0] 126 (0,0))*(pt b7 (.cells #[.int .i64 0] 28 (0,0))*(mp m own*(F*(iW j d r t J'*(pt l (.loop rr)*Fr))))))))))))).fh (vY hE3)).to (by ac_rfl)
    have hcell:w3.cell? ⟨bl,0,none⟩=some v:=h5.ag.cell 0;have hfr:=h5.ag.frozen 0;have hA2:=h5.alloc (.cells #[.int .i64 id,.slice da rl.length dc] 188 (0,0))
    have hRr:nA (w3.alloc (.cells #[.int .i64 id,.slice da rl.length dc] 188 (0,0))) 2 (.slice (some ⟨w3.heap.size,0,none⟩) 1 1) 1 [.int .i64 id,.slice da rl.length dc]:=
     ⟨rfl,.inr ⟨_,_,rfl,fun j u hu=>by
      rw [Addr.add_lit,Nat.zero_add];exact (hA2.cell j).trans (by simpa using hu)⟩⟩
    obtain ⟨v',w',hrun,hsat',hside'⟩:=Sat.append (P:=Tryz.prog) (ty:=126) Tryz.underlying126 hi hz hs0 hb0 rfl hA2.right hRr (by simp [Value.oneCell']) (by unfold maxLen;omega) (by omega);obtain ⟨aa,ac,rfl⟩:=aB hsat';obtain ⟨wa,wc,rfl⟩:=aB h5;have hcell':=hsat'.ag.cell 0;have hfr':=hsat'.ag.frozen 0;have hset:=hsat'.ag.setCell 0 (.slice aa (Z.length+1) ac);have D5:=(((hsd.trans d3).alloc (.cells #[.int .i64 id,.slice da rl.length dc] 188 (0,0))).trans hside').setCell ⟨bl,0,none⟩ (.slice aa (Z.length+1) ac)
    have H6:=mi (S:=S) (S':=S3) (d:=d) (m:=m) (bl:=bl) (bj:=bj) (bo:=bo) (b6:=b6) (b7:=b7) (j:=j) (own:=own) (J:=J') (D:=D) (ys:=pre++[(id,p)]) (F:=F) (G:=iW j d r t J'*(pt l (.loop rr)*Fr)) (v:=.slice aa (Z.length+1) ac) (Z:=Z++[(id,.slice da rl.length dc,rl)]) (HE1.out.trans hE3) (by rw [hst])
     (by rw [hst,List.map_append,HZ.out];rfl) (fun z hz=>by
      rcases List.mem_append.1 hz with hz|hz
      ·exact (HV.out z hz).mono hE3
      ·rw [List.mem_singleton.1 hz];exact hV3) (by
      rw [hst];refine hset.to ?_;simp only [List.setIfInBounds_toArray,List.set_cons_zero,AG,List.length_append,List.length_cons,List.length_nil,Nat.zero_add])
    have Hrun:=ae hrun;have H6':=ae H6;have D5':=ae D5;clear hrun hRr hA2 hi hz hs0 hb0 h4 h5 hsat' hset H6 D5 hst h480 hV3 hE3 h3 hside' Hst Hl0 Hlo d3
    gi_wp2_with (gi_at_builtin;refine cY Hrun.out _ _ rfl rfl rfl rfl rfl ?_)
    exact ⟨D5'.out,H6'.out.to (by ac_rfl)⟩
   ·have hst:=Hst.out
    rw [if_neg hrc] at hst;have h4:=(h3.y6 hrc).2;obtain rfl:=(h3.y6 hrc).1;have hrb:(rc == 0)=false:=by simpa using hrc
    have k6:w3.cell? ⟨b6,0,none⟩=some (.slice none 0 0):=h4.dI.cell 0;have f6:w3.frozen? ⟨b6,0,none⟩=false:=h4.dI.frozen 0;have H7:=(h4.dI.setCell 0 (.slice none 0 0)).jU;have k7:=H7.cell 0;have f7:(w3.setCell ⟨b6,0,none⟩ (.slice none 0 0)).frozen? ⟨b7,0,none⟩=false:=H7.frozen 0;have H8:=H7.setCell 0 (.int .i64 rc);simp only [List.setIfInBounds_toArray,List.set_cons_zero] at H8;have D5:=((hsd.trans d3).setCell ⟨b6,0,none⟩ (.slice none 0 0)).setCell ⟨b7,0,none⟩ (.int .i64 rc)
    have H6:=yc (S:=S) (S':=S') (j:=j) (d:=d) (r:=r) (t:=t) (m:=m) (b6:=b6) (b7:=b7) (own:=own) (J:=J) (D:=D) (ys:=pre++[(id,p)]) (F:=F) (G:=pt l (.loop rr)*Fr) HE1.out (by rw [hst];exact hrc) (by rw [hst]) (by
     rw [hst];exact (H8.to (by ac_rfl:_=(pt bl (.cells #[v] 126 (0,0))*(sl 188 2 v Z.length (bB Z)*(pt bj (.cells #[ax j] 123 (0,0))*pt bo (.cells #[.map (some m)] 177 (0,0)))))*(iW j d r t J'*(pt b6 (.cells #[.slice none 0 0] 126 (0,0))*(pt b7 (.cells #[.int .i64 rc] 28 (0,0))*(aK S' d D'*(aj S'*(mp m own*(F*(pt l (.loop rr)*Fr)))))))))).right)
    have H6':=ae H6;have D5':=ae D5;clear hi hz hs0 hb0 h3 h4 H7 H8 H6 D5 hst Hst Hl0 Hlo hrc d3
    gi_wp2
    exact ⟨D5'.out,(Sat.ak.2 ⟨rfl,H6'.out⟩:Sat _ (fact (Code.ret=Code.ret)*_)).to (aw _ _ _).symm⟩
end Go.Nn
namespace Go.Nn
open Go.RowKit Go.SL
def PY (w:World) (e:Ending) (w':World):Prop:=∃ v,e = .returned v∧Sat w' (sl 188 2 v 0 []*whole w)∧ai w w'
theorem Kp (w:World) (n:Nat) (hn:n≤1000000):Calls Tryz.prog 172 #[.slice none 0 0,.int .i64 (n:Int)] w (PY w):=by
 obtain ⟨i0,hi,hz,hs0,hb0⟩:=info_parts my
 by_cases h0:n=0
 ·subst h0
  go_enter Tryz.func172,Tryz.ntmps172
  go_wp2
  go_ret
  exact ⟨_,rfl,(Sat.whole w).eA _ _,ai.refl w⟩
 ·have happ:=fun w=>Lib.run_append_nil_zeros (P:=Tryz.prog) w 126 3 126 188 i0 _ .i64 .i64 Tryz.underlying126 Tryz.underlying3 hi hz n (by omega) (by rw [hs0];decide) (by omega) (by rw [hb0];omega)
  have hge:=grownCap_ge w n 0 188;have hle:=grownCap_le_maxLen w n 0 188 (by unfold maxLen;omega);have happ:=happ w;generalize hcap:grownCap w n 0 188=cap at happ hge hle;generalize hZ:Builtin.zeroCells (Value.agg #[.int .i64 0,.slice none 0 0]).cells n++Builtin.zeroCells (Value.agg #[.int .i64 0,.slice none 0 0]).cells (cap-n)=Zc at happ;have hZs:Zc.size=cap*2:=by rw [← hZ];simp [size_zeroCells,Value.cells];omega
  have hfin:Sat (w.drew.alloc (.cells Zc 188)) (sl 188 2 (.slice (some ⟨w.heap.size,0,none⟩) 0 cap) 0 []*whole w):=by
   have h1:=((Sat.whole w).drew.alloc (.cells Zc 188 (0,0))).l7 (n:=0) (sz:=2) (by omega) hle hZs;simpa using h1
  have dfin:=(ai.refl w).drew.alloc (.cells Zc 188 (0,0));have h0':(0:Int)<(n:Int):=by omega
  have HF:=ae hfin;have DF:=ae dfin
  go_enter Tryz.func172,Tryz.ntmps172
  go_wp2_with (at_builtin;refine Lib.wpList_append_run _ rfl _ _ _ _ rfl _ _ rfl rfl _ _ happ ?_)
  go_ret
  exact ⟨_,rfl,HF.out,DF.out⟩
def upto {α:Type} (k:Nat) (x y z:α):α:=if k=0 then x else if k=1 then y else z
def Lm (n:Nat) (xs:List Value) (w:World) (e:Ending) (w':World):Prop:=∃ v,e = .returned v∧Sat w' (sl 188 2 v n xs*whole w)∧ai w w'
def DB (n m:Nat) (xs ys:List Value) (w:World) (u i:Value) (wr:World):Prop:=
 ∃ k:Nat,k≤2∧i = .int .i64 (k:Int)∧Sat wr (sl 188 2 u (upto k 0 n (n+m)) (upto k [] xs (xs++ys))*whole w)∧ai w wr
theorem Bw (w:World) (g n m:Nat) (a1 a2:Option Addr) (c1 c2:Nat) (xs ys:List Value) (h0:w.cell? ⟨g,0,none⟩=some (.slice a1 n c1)) (h1:w.cell? ⟨g,1,none⟩=some (.slice a2 m c2))
  (hx:nA w 2 (.slice a1 n c1) n xs) (hy:nA w 2 (.slice a2 m c2) m ys) (ox:∀ u ∈ xs,u.oneCell'=true) (oy:∀ u ∈ ys,u.oneCell'=true) (hn:n≤500000) (hm:m≤500000) :
  Calls Tryz.prog 126 #[.slice (some ⟨g,0,none⟩) 2 2] w (Lm (n+m) (xs++ys) w):=by
 obtain ⟨i0,hi,hz,hs0,hb0⟩:=info_parts my;have hgr:=Kp w (n+m) (by omega);rw [show ((n+m:Nat):Int)=(n:Int)+(m:Int) by omega] at hgr;have HX:=ae hx;have HY:=ae hy;have OX:=ae ox;have OY:=ae oy;have HI:=ae hi;have HZ:=ae hz;have HS0:=ae hs0;have HB0:=ae hb0
 go_enter Tryz.func126,Tryz.ntmps126
 go_wp2_with fail
 go_loop [3,11] (fun u i=>∃ k:Nat,k≤2∧i = .int .i64 (k:Int)∧u = .int .i64 (upto k 0 (n:Int) ((n:Int)+(m:Int)))) (fun _ i=>2-(intOf i).toNat)
 case atStart=>exact ⟨0,by omega,rfl,rfl⟩
 case round=>
  obtain ⟨k,hk,rfl,rfl⟩:=hrel;obtain rfl|rfl|rfl:k=0∨k=1∨k=2:=by omega
  ·simp only [upto,if_true]
   go_wp2_with fail
   go_round
   case rel=>exact ⟨1,by omega,by go_num,by simp [upto]⟩
   case measure=>simp [intOf]
  ·simp only [upto,if_true,if_neg (show ¬ (1:Nat)=0 by decide)]
   go_wp2_with fail
   go_round
   case rel=>exact ⟨2,by omega,by go_num,by simp [upto]⟩
   case measure=>simp [intOf]
  ·simp only [upto,if_neg (show ¬ (2:Nat)=0 by decide),if_neg (show ¬ (2:Nat)=1 by decide)]
   go_wp2_with fail
   (refine hgr.mono ?_)
   rintro e w1 ⟨v,rfl,h2,d2⟩
   go_wp2_with fail
   go_loopw [6,27] (fun u i wr=>DB n m xs ys w u i wr) (fun _ i _=>2-(intOf i).toNat)
   case atStart=>exact ⟨0,by omega,rfl,h2,d2⟩
   case round=>
    obtain ⟨k,hk,rfl,hsat,hside⟩:=hrel;have k0:=hsat.bD h0;have k1:=hsat.bD h1;obtain rfl|rfl|rfl:k=0∨k=1∨k=2:=by omega
    ·simp only [upto,if_true] at hsat
     obtain ⟨va,vc,rfl⟩:=aB hsat;obtain ⟨v',w',hrun,hsat',hside'⟩:=Sat.append (P:=Tryz.prog) (ty:=126) Tryz.underlying126 HI.out HZ.out HS0.out HB0.out rfl hsat (HX.out.carry fun a u h=>hsat.bD h) OX.out (by unfold maxLen;omega) (by omega);have Hs:=ae hsat';have Hd:=ae (hside.trans hside');obtain ⟨ba,bc,rfl⟩:=aB hsat'
     go_wp2_with (at_builtin;refine wpList_append_run hrun _ _ rfl rfl rfl rfl rfl ?_)
     go_roundw
     case rel=>exact ⟨1,by omega,by go_num,by simpa [upto] using Hs.out,Hd.out⟩
     case measure=>simp [intOf]
    ·simp only [upto,if_true,if_neg (show ¬ (1:Nat)=0 by decide)] at hsat
     obtain ⟨va,vc,rfl⟩:=aB hsat;obtain ⟨v',w',hrun,hsat',hside'⟩:=Sat.append (P:=Tryz.prog) (ty:=126) Tryz.underlying126 HI.out HZ.out HS0.out HB0.out rfl hsat (HY.out.carry fun a u h=>hsat.bD h) OY.out (by unfold maxLen;omega) (by omega);have Hs:=ae hsat';have Hd:=ae (hside.trans hside');obtain ⟨ba,bc,rfl⟩:=aB hsat'
     go_wp2_with (at_builtin;refine wpList_append_run hrun _ _ rfl rfl rfl rfl rfl ?_)
     go_roundw
     case rel=>exact ⟨2,by omega,by go_num,by simpa [upto] using Hs.out,Hd.out⟩
     case measure=>simp [intOf]
    ·simp only [upto,if_neg (show ¬ (2:Nat)=0 by decide),if_neg (show ¬ (2:Nat)=1 by decide)] at hsat
     have Hs:=ae hsat;have Hd:=ae hside
     go_wp2
     go_ret
     exact ⟨_,rfl,Hs.out,Hd.out⟩
end Go.Nn
namespace Go.SL
open Go.RowKit
abbrev Bl:=List (Int × List UInt8)
def bP (Z:List Wr):Bl:=Z.map fun z=>(z.1,z.2.2)
def lf (L:Bl):List Wr:=L.map fun x=>(x.1,.slice none 0 0,x.2)
theorem nS (L:Bl):bP (lf L)=L:=by
 unfold bP lf;rw [List.map_map];exact List.map_id L
theorem jc (Z:List Wr):(bP Z).length=Z.length:=by simp [bP]
theorem fJ (Z:List Wr) (k:Nat):(Z.getD k Wr.nil).1=((bP Z).getD k (0,[])).1∧(Z.getD k Wr.nil).2.2=((bP Z).getD k (0,[])).2:=by
 simp only [bP,List.getD,List.getElem?_map];cases Z[k]? <;> simp [Wr.nil]
theorem Jr.wH (J:Jr) (D:ay) {Z Z':List Wr} (h:bP Z=bP Z') (k:Nat):J.bp D Z k=J.bp D Z' k:=by
 have hl:Z.length=Z'.length:=by rw [← jc,h,jc]
 induction k with
 | zero=>rfl
 | succ k ih=>
  rw [Jr.bp,Jr.bp,ih,(fJ Z k).1,(fJ Z k).2,(fJ Z' k).1,(fJ Z' k).2,h,hl]
theorem Cf {Z Z':List Wr} (h:bP Z=bP Z') (k:Nat):eR Z k=eR Z' k:=by
 induction k with
 | zero=>rfl
 | succ k ih=>rw [eR,eR,ih,(fJ Z k).1,(fJ Z' k).1,h]
def Jr.fF (J:Jr) (L:Bl):Nat→Tb
 | 0=>J.T
 | k+1=>((Jr.fF J L k).put (L.getD k (0,[])).1 ((J.hd+(k:Int))%(J.P:Int))).2
def Jr.aN (J:Jr) (n:Nat):Int:=if J.us<2*(n:Int) then J.us else 2*(n:Int)
def Jr.done (J:Jr) (L:Bl) (c:Int):Jr:=
 { J with T:=J.fF L L.length,sq:=J.sq+1,hd:=(J.hd+(L.length:Int))%(J.P:Int),us:=J.us+((L.length:Int)-c),fr:=c }
structure Tb.Kd (T:Tb):Prop where
 os:∀ v ∈ T.os,v=-1∨(0≤v∧v<T.ps.length)
theorem mem_set {l:List Int} {i:Nat} {x v:Int} (h:v ∈ l.set i x):v=x∨v ∈ l:=by grind
theorem Tb.Jk {T:Tb} (h:T.Kd) (id p:Int):(T.put id p).2.Kd:=by
 refine ⟨fun v hv=>?_⟩;rw [(T.mF id p).1];unfold Tb.put at hv
 split at hv
 ·rename_i hc
  rcases mem_set hv with hv|hv
  ·exact .inr ⟨by omega,by omega⟩
  ·unfold Tb.drop at hv
   split at hv
   ·rcases mem_set hv with hv|hv
    ·exact .inl hv
    ·exact h.os v hv
   ·exact h.os v hv
 ·exact h.os v hv
theorem Jr.tU (J:Jr) (L:Bl) (k:Nat):(J.fF L k).ps.length=J.T.ps.length∧(J.fF L k).os.length=J.T.os.length:=by
 induction k with
 | zero=>exact ⟨rfl,rfl⟩
 | succ k ih=>exact ⟨((Jr.fF J L k).mF _ _).1.trans ih.1,((Jr.fF J L k).mF _ _).2.trans ih.2⟩
theorem Jr.Eu {J:Jr} (h:J.T.Kd) (L:Bl) (k:Nat):(J.fF L k).Kd:=by
 induction k with
 | zero=>exact h
 | succ k ih=>exact Tb.Jk ih _ _
structure Jr.Gd (J:Jr):Prop where
 ep0:1≤J.ep
 ep1:J.ep<4294967296
 st0:1≤J.st
 st1:J.st≤J.sq+1
 sq0:0≤J.sq
 sq1:J.sq≤281474976710655
 n1:J.n≤3840
 own:J.T.Kd
theorem Jr.Gd.numbers {J:Jr} (h:J.Gd) (hs:J.sq<281474976710655):J.r9:=⟨h.ep0,h.ep1,h.st0,h.st1,h.sq0,hs⟩
theorem Jr.e7 {J:Jr} (h0:0≤J.us) (n:Nat):0≤J.aN n∧J.aN n≤J.us∧J.aN n≤2*n:=by
 unfold Jr.aN
 split <;> omega
end Go.SL
namespace Go.Nn
open Go.RowKit Go.SL
theorem CY {J:Jr} (h:J.T.Ok) (L:Bl) (k:Nat):(J.fF L k).Ok:=by
 induction k with
 | zero=>exact h
 | succ k ih=>exact Tb.Jj ih _ _
def eB (J:Jr) (D:ay) (L:Bl):Mv:=J.bO D (eR (lf L) L.length) (bL J.T J.P (Jr.tail J) (J.aN L.length).toNat)
def ue (J:Jr) (D:ay) (L:Bl):Int × Jr × ay:=
 if (eB J D L).1.1≠0 then ((eB J D L).1.1,(eB J D L).2)
 else if (J.P:Int)-J.us-J.fr<((L++(eB J D L).1.2).length:Int) then (9,J,(eB J D L).2.2)
 else if (J.bp (eB J D L).2.2 (lf (L++(eB J D L).1.2)) (L++(eB J D L).1.2).length).1≠0 then
  ((J.bp (eB J D L).2.2 (lf (L++(eB J D L).1.2)) (L++(eB J D L).1.2).length).1,{ J with br:=true },(J.bp (eB J D L).2.2 (lf (L++(eB J D L).1.2)) (L++(eB J D L).1.2).length).2)
 else (0,J.done (L++(eB J D L).1.2) (J.aN L.length),(J.bp (eB J D L).2.2 (lf (L++(eB J D L).1.2)) (L++(eB J D L).1.2).length).2)
def eu (J:Jr) (D:ay) (ok:Bool) (L:Bl):Int × Jr × ay:=
 if ok=false then (1,J,D)
 else if 281474976710655≤J.sq then (12,J,D)
 else if (J.flush D).1≠0 then J.flush D
 else ue J (J.flush D).2.2 L
theorem EO {J:Jr} {D:ay} (h:(J.flush D).1=0):(J.flush D).2.1=J∧(J.flush D).2.2=D.flush.2∧J.br=false∧D.flush.1=0:=by
 unfold Jr.flush at h ⊢
 split
 ·rename_i h1;rw [if_pos h1] at h;exact absurd h (show (2:Int)≠0 by decide)
 ·rename_i h1
  rw [if_neg h1] at h
  split
  ·rename_i h2;exact ⟨rfl,rfl,by simpa using h1,h2⟩
  ·rename_i h2;rw [if_neg h2] at h;exact absurd h (show (2:Int)≠0 by decide)
theorem ES {J:Jr} (hJ:J.Ok) (hN:J.Gd) {D:ay} {own:KV} {P first m:Nat}:∀ x ∈ (J.bO D own (bL J.T P first m)).1.2,0≤x.1∧x.1<3840:=by
 have hown:∀ y ∈ bL J.T P first m,0≤y.1∧y.1<3840:=by
  intro y hy;obtain ⟨p,_,hp⟩:=List.mem_filterMap.1 hy
  cases ht:told J.T.os (p:Int) with
  | none=>rw [ht] at hp;cases hp
  | some id=>
   rw [ht] at hp;injection hp with hp
   obtain ⟨k,_,hk,hv,hne⟩:=qL ht;have hm:id ∈ J.T.os:=by rw [← hv,List.getD,List.getElem?_eq_getElem hk];exact List.getElem_mem hk
   have:=hN.n1;have:=hJ.ps;rcases hN.own.os id hm with e|⟨e1,e2⟩
   ·exact absurd e hne
   ·rw [← hp];exact ⟨e1,by show id<3840;omega⟩
 have:∀ (L:List (Int × Int)) (s:Mv),(∀ y ∈ L,0≤y.1∧y.1<3840)→(∀ x ∈ s.1.2,0≤x.1∧x.1<3840)→∀ x ∈ (L.foldl (Jr.cI own) s).1.2,0≤x.1∧x.1<3840:=by
  intro L
  induction L with
  | nil=>intro s _ h;exact h
  | cons y L ih=>
   intro s hL h;rw [List.foldl_cons];refine ih _ (fun z hz=>hL z (List.mem_cons_of_mem _ hz)) ?_;unfold Jr.cI
   split
   ·exact h
   ·split
    ·exact h
    ·split
     ·intro x hx
      rcases List.mem_append.1 hx with hx|hx
      ·exact h x hx
      ·rw [List.mem_singleton.1 hx];exact hL y List.mem_cons_self
     ·intro x hx;cases hx
 exact this _ _ hown (by simp)
def KM (S:Hp) (j d:Nat) (R:Int × Jr × ay) (F:ah) (w:World) (e:Ending) (w':World):Prop:=
 ∃ S',Ext S S'∧e = .returned (.int .i64 R.1)∧Sat w' (nN j d R.2.1*(aK S' d R.2.2*(aj S'*F)))∧ai w w'
theorem NS {w:World} {v:Value} {Z:List Wr} (h:QH w v Z):nA w 2 v Z.length (bB Z):=by
 refine ⟨oF Z,?_⟩;rcases h with ⟨rfl,rfl⟩|⟨g,o,c,rfl,_,_,hc⟩
 ·exact .inl ⟨rfl,rfl⟩
 ·refine .inr ⟨_,_,rfl,fun i u hu=>?_⟩
  have hlen:=oF Z;have hi:i<Z.length*2:=by grind
  rw [Addr.add_lit];obtain ⟨k,hk⟩:∃ k,i=k*2∨i=k*2+1:=⟨i/2,by omega⟩
  have hkl:k<Z.length:=by omega
  obtain ⟨h1,h2⟩:=wo Z k hkl;obtain ⟨q1,q2⟩:=hc k hkl;rw [List.getD,List.getElem?_eq_getElem hkl] at q1 q2;rcases hk with rfl|rfl
  ·rw [h1] at hu;injection hu with hu;rw [← hu];exact q1
  ·rw [h2] at hu;injection hu with hu;rw [← hu];exact q2
theorem vW (Z:List Wr) (h:∀ z ∈ Z,∃ a n c,z.2.1 = .slice a n c):∀ u ∈ bB Z,u.oneCell'=true:=by
 intro u hu;obtain ⟨z,hz,hu⟩:=List.mem_flatMap.1 hu;obtain ⟨a,n,c,e⟩:=h z hz;simp only [List.mem_cons,List.not_mem_nil,or_false] at hu;rcases hu with rfl|rfl
 ·rfl
 ·rw [e];rfl
theorem vq {w:World} {T:TypeId} {v:Value} {Z:List Wr} {F:ah} (h:Sat w (sl T 2 v Z.length (bB Z)*F)):QH w v Z:=by
 rcases h.cX with ⟨rfl,h0,_,_⟩|⟨g,cap,cur,rfl,h3,h4,h5,h6,_⟩
 ·exact .inl ⟨rfl,List.eq_nil_of_length_eq_zero h0⟩
 ·refine .inr ⟨g,0,cap,rfl,h3,h4,fun k hk=>?_⟩
  obtain ⟨q1,q2⟩:=h.jm hk;rw [Nat.zero_add,List.getD,List.getElem?_eq_getElem hk];exact ⟨q1,q2⟩
theorem F5 {n:Int} {Z:List Wr} (h:Fm n Z) {z:Wr} (hz:z ∈ Z):0≤z.1∧z.1<n∧z.2.2.length=480:=by
 obtain ⟨k,hk,rfl⟩:=List.getElem_of_mem hz;have:=h.ok k hk;unfold okW at this;rw [List.getD,List.getElem?_eq_getElem hk] at this;exact ⟨this.1,this.2.1,this.2.2.1⟩
theorem BS {T:TypeId} {S:Hp} {v:Value} {l:List UInt8} (h:oV T S v l):∃ a n c,v = .slice a n c:=by
 rcases h.2 with ⟨rfl,_⟩|⟨g,cap,cur,rfl,_⟩ <;> exact ⟨_,_,_,rfl⟩
theorem Cb {D:ay} (h:D.flush.1=0):D.flush.2.wait=[]:=by
 unfold ay.flush at h ⊢
 split
 ·rfl
 ·rename_i h1;rw [if_neg h1] at h;exact absurd h (show (2:Int)≠0 by decide)
theorem uP:∀ args w,(callFunc 130 args).run Tryz.prog w = .ok (.enter 130 args) w:=enters Tryz.func130 (by kernel_rfl) rfl
def AS (n t:Nat) (J:Jr) (L:Bl) (X:ah) (w:World) (i:Value) (wr:World):Prop:=
 ∃ k:Nat,k≤n∧i = .int .i64 (k:Int)∧Sat wr (bq t (J.fF L k)*X)∧ai w wr
theorem y4 (w:World) (S:Hp) (j d:Nat) (J:Jr) (D:ay) (F:ah) (v:Value) (Z:List Wr) (h:Sat w (nN j d J*(aK S d D*(aj S*F)))) (hJ:J.Ok) (hN:J.Gd) (hD:D.Ok)
  (hl:Z.length≤1000000) (hr:Reads S v Z F) (B:Bool) (hB:B=true↔Fm J.n Z) :
  Calls Tryz.prog 74 #[ax j,v] w (KM S j d (eu J D B (bP Z)) F w):=by
 have hv:=hr S (nN j d J*aK S d D) w (Ext.refl S) (h.to (by ac_rfl));have hsh:∀ z ∈ Z,∃ a c,z.2.1 = .slice a z.2.2.length c:=fun z hz=>(hv.2 z hz).shape;have hb:=AK w j d J _ h v Z hv.1 hsh hl B hB
 obtain ⟨aa,ac,hav⟩:∃ aa ac,v = .slice aa Z.length ac:=by
  rcases hv.1 with ⟨rfl,h⟩|⟨g,o,c,rfl,_⟩
  ·rw [h];exact ⟨_,_,rfl⟩
  ·exact ⟨_,_,rfl⟩
 subst hav;obtain ⟨x,hx⟩:=h.qm;obtain ⟨t,hx⟩:=hx;have c6:w.cell? ⟨j,6,none⟩=some (.int .u64 J.sq):=hx.cell 6;clear hx hv;obtain ⟨O,hO⟩:∃ O,O=eu J D B (bP Z):=⟨_,rfl⟩
 rw [← hO];unfold eu at hO
 cases B with
 | false=>
  have HR:=ae hr;rw [if_pos rfl] at hO;have HO:=ae hO;clear hB hr c6 hO
  go_enter Tryz.func74,Tryz.ntmps74
  go_wp2_with fail
  (with_reducible refine hb.mono ?_)
  rintro e w1 ⟨rfl,h1,d1⟩;have h2:=h1.dO h;clear hb h1
  go_wp2
  go_ret
  exact ⟨S,Ext.refl S,by rw [HO.out];rfl,by rw [HO.out];exact h2,d1⟩
 | true=>
  have hmay:=hB.1 rfl;rw [if_neg (by simp)] at hO
  by_cases hq:281474976710655≤J.sq
  ·rw [if_pos hq] at hO
   have HO:=ae hO;have HM:=ae hmay;have HR:=ae hr;clear hB hmay hr hO
   go_enter Tryz.func74,Tryz.ntmps74
   go_wp2_with fail
   (with_reducible refine hb.mono ?_)
   rintro e w1 ⟨m,rfl,h1,d1⟩;have h2:=(h1.under h).right;have c6':w1.cell? ⟨j,6,none⟩=some (.int .u64 J.sq):=h1.bD c6;clear hb h1 h c6
   go_wp2
   go_ret
   exact ⟨S,Ext.refl S,by rw [HO.out];rfl,by rw [HO.out];exact h2,d1⟩
  ·rw [if_neg hq] at hO
   have hnum:=hN.numbers (by omega);have hZ24:Z.length≤24:=hmay.n1;have hZ24':(Z.length:Int)≤24:=by omega
   have HM:=ae hmay;have HR:=ae hr;have HO:=ae hO;clear hB hmay hr hO
   go_enter Tryz.func74,Tryz.ntmps74
   go_wp2_with fail
   (with_reducible refine hb.mono ?_)
   rintro e w1 ⟨m,rfl,h1,d1⟩;have h2:=h1.under h;have c6':w1.cell? ⟨j,6,none⟩=some (.int .u64 J.sq):=h1.bD c6;clear hb h1 h c6;have hfl:=tE w1 S j d J D (aj S*(mp m (eR Z Z.length)*F)) (h2.to (by ac_rfl)) hD
   by_cases hf0:(J.flush D).1=0
   ·obtain ⟨e1,e2,hbr,hfd⟩:=EO hf0
    have hO:=HO.out;rw [if_neg (by simpa using hf0)] at hO;clear HO;have hD1:(J.flush D).2.2.Ok:=by rw [e2];exact (ay.gx hD).ok hD (by have:=hD.many;omega)
    have hw1:(J.flush D).2.2.wait=[]:=by rw [e2];exact Cb hfd
    have hown:eR (lf (bP Z)) (bP Z).length=eR Z Z.length:=by rw [jc];exact Cf (nS _) _
    have hcr:=Jr.e7 hJ.us0 Z.length;have hus1:=hJ.us1;have hmv:=fun (w2:World) (r t:Nat) h=>Be w2 S j d r t m J (J.flush D).2.2 (eR Z Z.length) (J.aN Z.length).toNat F h hJ hD1 (by omega);rw [Int.toNat_of_nonneg hcr.1] at hmv;have hRf:J.flush D=(0,J,(J.flush D).2.2):=Prod.ext hf0 (Prod.ext e1 rfl);unfold ue eB at hO;rw [hown,jc] at hO;generalize (J.flush D).2.2=D1 at *;rw [hRf] at hfl;have hMok:=Jr.td (J:=J) (D:=D1) (own:=eR Z Z.length) (L:=bL J.T J.P (Jr.tail J) (J.aN Z.length).toNat);have hMk:=Jr.ri J hD1 (eR Z Z.length) (bL J.T J.P (Jr.tail J) (J.aN Z.length).toNat);have hMl:=Jr.wy (J:=J) (D:=D1) (own:=eR Z Z.length) (bL J.T J.P (Jr.tail J) (J.aN Z.length).toNat);have hMi:=ES hJ hN (D:=D1) (own:=eR Z Z.length) (P:=J.P) (first:=Jr.tail J) (m:=(J.aN Z.length).toNat);have hM4:=Fq (J:=J) (D:=D1) (own:=eR Z Z.length) (L:=bL J.T J.P (Jr.tail J) (J.aN Z.length).toNat)
    replace hMl:(J.bO D1 (eR Z Z.length) (bL J.T J.P (Jr.tail J) (J.aN Z.length).toNat)).1.2.length≤48:=by
     have:=jG J.T J.P (Jr.tail J) (J.aN Z.length).toNat;omega
    generalize J.bO D1 (eR Z Z.length) (bL J.T J.P (Jr.tail J) (J.aN Z.length).toNat)=M at *;have hMD:M.2.2.Ok:=hMk.ok hD1 (by rw [hw1];simp);have hMw:M.2.2.wait.length=0:=by have:=hMk.many;rw [hw1] at this;simpa using this
    have hc:(J.us<2*(Z.length:Int)∧J.aN Z.length=J.us)∨(¬ J.us<2*(Z.length:Int)∧J.aN Z.length=2*(Z.length:Int)):=by
     unfold Jr.aN
     split
     ·exact .inl ⟨by assumption,rfl⟩
     ·exact .inr ⟨by assumption,rfl⟩
    have HO:=ae hO;have Hcr:=ae hcr;have HMk:=ae hMk;have HMl:=ae hMl;have HMi:=ae hMi;have HM4:=ae hM4;have HMD:=ae hMD;have HMw:=ae hMw;have HMok:=ae hMok;clear hf0 e1 e2 hfd hbr hown h2 hO hRf hcr hD1 hw1 hMk hMl hMi hM4 hMD hMw hMok;rcases hc with ⟨hc1,hcv⟩|⟨hc1,hcv⟩
    all_goals
     have Hcv:=ae hcv;rw [hcv] at hmv;clear hcv
     go_wp2_with fail
     (with_reducible refine hfl.mono ?_)
     rintro e w2 ⟨rfl,h3,d2⟩;obtain ⟨r,t,h4⟩:=h3.Da;have k8:w2.cell? ⟨j,8,none⟩=some (.int .i64 J.us):=h4.De.cell 8;have hmv1:=hmv w2 r t h4;clear hmv hfl h3 c6' h4
     go_wp2_with fail
     (with_reducible refine hmv1.mono ?_)
     rintro e w3 ⟨S3,v3,Z3,hE3,rfl,hZ3,hV3,h5,d3⟩;clear hmv1 k8
     by_cases hm0:M.1.1=0
     ·have hMJ:=HMok.out hm0
      obtain ⟨⟨mc,ml⟩,mJ,mD⟩:=M;dsimp only at hm0 hMJ hZ3 h5 HO HMk HMl HMi HM4 HMD HMw;subst hm0 hMJ;have hO:=HO.out;rw [if_neg (by simp)] at hO;obtain ⟨va,vc,rfl⟩:=aB h5.aC;have hA:=h5.alloc (.cells #[.slice aa Z.length ac,.slice va Z3.length vc] 126 (0,0));have dA:=((d1.trans d2).trans d3).alloc (.cells #[.slice aa Z.length ac,.slice va Z3.length vc] 126 (0,0));have hrA:=HR.out S3 (pt w3.heap.size (.cells #[.slice aa Z.length ac,.slice va Z3.length vc] 126 (0,0))*(iW j d r t mJ*(aK S3 d mD*(sl 188 2 (.slice va Z3.length vc) Z3.length (bB Z3)*mp m (eR Z Z.length))))) _ hE3 (hA.to (by ac_rfl));have hZ3l:Z3.length≤48:=by have:=HMl.out;rw [← hZ3,List.length_map] at this;exact this
      have hcc:=Bw (w3.alloc (.cells #[.slice aa Z.length ac,.slice va Z3.length vc] 126 (0,0))) w3.heap.size Z.length Z3.length aa va ac vc (bB Z) (bB Z3) (hA.cell 0) (hA.cell 1) (NS hrA.1) hA.aG.nB
       (vW Z fun z hz=>by obtain ⟨a,c,e⟩:=hsh z hz;exact ⟨a,_,c,e⟩) (vW Z3 fun z hz=>BS (hV3 z hz)) (by omega) (by omega)
      have e5:bB Z++bB Z3=bB (Z++Z3):=by simp [bB]
      have e6:bP Z++ml=bP (Z++Z3):=by rw [← hZ3];simp [bP]
      rw [e5] at hcc;rw [e6,jc,Jr.wH mJ (Z:=lf (bP (Z++Z3))) (Z':=Z++Z3) mD (nS _),List.length_append] at hO;have hn5:Z.length+Z3.length≤72:=by omega
      have hids:∀ z ∈ Z++Z3,0≤z.1∧z.1<3840∧z.2.2.length=480:=by
       intro z hz;rcases List.mem_append.1 hz with hz|hz
       ·have:=F5 HM.out hz
        have:=hN.n1;exact ⟨by omega,by omega,by omega⟩
       ·have hm:(z.1,z.2.2) ∈ ml:=by rw [← hZ3];exact List.mem_map.2 ⟨z,hz,rfl⟩
        have h1:=HMi.out _ hm;exact ⟨h1.1,h1.2,HM4.out _ hm⟩
      have hrall:∀ v5,Reads S3 v5 (Z++Z3) (sl 188 2 v5 (Z++Z3).length (bB (Z++Z3))*F):=by
       intro v5 S' X w' e hs;refine ⟨vq (hs.to (by ac_rfl:_=sl 188 2 v5 (Z++Z3).length (bB (Z++Z3))*(X*(aj S'*F)))),fun z hz=>?_⟩;rcases List.mem_append.1 hz with hz|hz
       ·exact (HR.out S' (X*sl 188 2 v5 (Z++Z3).length (bB (Z++Z3))) w' (hE3.trans e) (hs.to (by ac_rfl))).2 z hz
       ·exact ((hV3 z hz).mono e).rd hs.ag
      have hlen5:(Z++Z3).length=Z.length+Z3.length:=List.length_append;rw [hlen5] at hrall;generalize Z++Z3=Z5 at hcc hO hids hrall hlen5;generalize Z.length+Z3.length=n5 at hcc hO hn5 hrall hlen5;have HO2:=ae hO;have Hids:=ae hids;have Hrall:=ae hrall;have Hl5:=ae hlen5;have HhA:=ae hA;have hn5':(n5:Int)≤72:=by omega
      clear hO HO hrA e5 e6 hids hrall hlen5 h5 hV3 hZ3 HMk HMl HMi HM4 HMok HR HM hA hsh
      go_wp2_with fail
      (with_reducible refine hcc.mono ?_)
      rintro e w5 ⟨v5,rfl,h6,d6⟩
      have H7:Sat w5 (nN j d mJ*(aK S3 d mD*(aj S3*(sl 188 2 v5 n5 (bB Z5)*F)))):=
       ((h6.under HhA.out).to (by ac_rfl:_=(pt w3.heap.size (.cells #[.slice aa Z.length ac,.slice va Z3.length vc] 126 (0,0))*(sl 188 2 (.slice va Z3.length vc) Z3.length (bB Z3)*mp m (eR Z Z.length)))*(iW j d r t mJ*(aK S3 d mD*(aj S3*(sl 188 2 v5 n5 (bB Z5)*F)))))).right.CE
      have D7:=dA.trans d6;obtain ⟨ba,bc,rfl⟩:=aB h6;have hroom:=JK w5 j d mJ _ H7 hJ;clear hcc HhA h6 d6 dA d1 d2 d3
      go_wp2_with fail
      (with_reducible refine hroom.mono ?_)
      rintro e w6 ⟨rfl,h8,d8⟩;have H8:=h8.dO H7;have D8:=D7.trans d8;clear hroom h8 d8 H7 D7
      by_cases hfull:(mJ.P:Int)-mJ.us-mJ.fr<(n5:Int)
      ·have hO:=HO2.out
       rw [if_pos hfull] at hO;have HO3:=ae hO;have H8':=ae H8;clear hO HO2 H8
       go_wp2
       go_ret
       exact ⟨S3,hE3,by rw [HO3.out];rfl,by rw [HO3.out];exact (H8'.out.to (by ac_rfl:_=sl 188 2 (.slice ba n5 bc) n5 (bB Z5)*(nN j d mJ*(aK S3 d mD*(aj S3*F))))).right,D8⟩
      ·have hO:=HO2.out
       rw [if_neg hfull] at hO;have hwr:=A7 w6 S3 j d mJ mD _ (.slice ba n5 bc) Z5 H8 hJ hnum HMD.out (by have:=HMw.out;have:=Hl5.out;omega) (by have:=Hl5.out;omega) Hids.out (Hrall.out _);rw [Hl5.out] at hwr;generalize hW:mJ.bp mD Z5 n5=R at hwr hO;obtain ⟨rc,D4⟩:=R;dsimp only at hwr hO;have HO3:=ae hO;clear hO HO2 H8 hW
       go_wp2_with fail
       (with_reducible refine hwr.mono ?_)
       rintro e w7 ⟨S4,hE4,rfl,h9,d9⟩;have D9:=D8.trans d9;clear hwr d9 D8
       by_cases hrc:rc=0
       ·have hO:=HO3.out
        dsimp only at h9;rw [if_neg (by simpa using hrc)] at hO;rw [if_pos hrc] at h9;subst hrc;have hsh5:∀ z ∈ Z5,∃ a c,z.2.1 = .slice a z.2.2.length c:=fun z hz=>((Hrall.out _ S4 (nN j d mJ*aK S4 d D4) w7 hE4 (h9.to (by ac_rfl))).2 z hz).shape;obtain ⟨r4,t4,h10⟩:=h9.Da;obtain ⟨REST,hREST⟩:∃ X,X=aK S4 d D4*(aj S4*F):=⟨_,rfl⟩
        have H10:Sat w7 (bq t4 (mJ.fF (bP Z5) 0)*(pt j (.cells (mJ.cells d r4 t4) 183 (0,0))*(bK r4 (bX mJ.P)*(sl 188 2 (.slice ba n5 bc) n5 (bB Z5)*REST)))):=
         h10.De.to (by rw [hREST];show _=bq t4 mJ.T*_;ac_rfl)
        have HRE:=ae hREST;have Hsh5:=ae hsh5;have HO4:=ae hO;clear h9 h10 hREST hsh5 hO HO3 Hrall
        go_wp2_with fail
        go_loopw [70] (fun i wr=>AS n5 t4 mJ (bP Z5) (pt j (.cells (mJ.cells d r4 t4) 183 (0,0))*(bK r4 (bX mJ.P)*(sl 188 2 (.slice ba n5 bc) n5 (bB Z5)*REST))) w i wr) (fun i _=>n5-(intOf i).toNat)
        case atStart=>exact ⟨0,Nat.zero_le _,rfl,H10,D9⟩
        case round=>
         clear H10 D9;obtain ⟨k,hk,rfl,hsat,hside⟩:=hrel
         by_cases hlt:k<n5
         ·have hlt':(k:Int)<(n5:Int):=by omega
          have hl5:=Hl5.out;have hk5:k<Z5.length:=by omega
          obtain ⟨g,gc,hg⟩:=po hsat.aC (by omega);obtain ⟨rfl,rfl⟩:ba=some ⟨g,0,none⟩∧bc=gc:=by injection hg with e1 e2 e3;exact ⟨e1,e3⟩
          obtain ⟨q1,q2⟩:=hsat.aC.jm hk5;obtain ⟨da,dc,hd⟩:=Hsh5.out _ (List.getElem_mem hk5);have hpl:=(fJ Z5 k).1;rw [List.getD,List.getElem?_eq_getElem hk5,Option.getD_some] at hpl;have hput:=Tb.mF;have hst:mJ.fF (bP Z5) (k+1)=((mJ.fF (bP Z5) k).put Z5[k].1 ((mJ.hd+(k:Int))%(mJ.P:Int))).2:=by rw [hpl];rfl
          have hTok:=CY hJ.T (bP Z5) k;generalize Z5[k]=z at q1 q2 hd hst;obtain ⟨id,dv,db⟩:=z;dsimp only at q1 q2 hd hst;subst hd;generalize db.length=dl at q2;have hA:=hsat.alloc (.cells #[.int .i64 id,.slice da dl dc] 188 (0,0));have dA:=hside.alloc (.cells #[.int .i64 id,.slice da dl dc] 188 (0,0));have Hst:=ae hst;have HTok:=ae hTok;clear hsat hside hst hTok hpl hput hl5 hk5 hg
          go_wp2_with fail
          generalize wr.alloc (.cells #[.int .i64 id,.slice da dl dc] 188 (0,0))=w8 at hA dA ⊢;generalize wr.heap.size=bw at hA ⊢;have s0:w8.cell? ⟨bw,0,none⟩=some (.int .i64 id):=hA.cell 0;have s1:w8.cell? ⟨j,1,none⟩=some (ax r4):=hA.aq.cell 1;have s2:w8.cell? ⟨j,2,none⟩=some (ax t4):=hA.aq.cell 2;have s7:w8.cell? ⟨j,7,none⟩=some (.int .i64 mJ.hd):=hA.aq.cell 7;have hAd:=Sat.drew hA;have hgo:=xL w8.drew r4 (bX mJ.P) mJ.hd (k:Int) _ hAd.aC (by rw [aO];exact hJ.p0) (by rw [aO];have:=hJ.p1;omega);rw [aO] at hgo;have hpt:=eM w8.drew t4 (mJ.fF (bP Z5) k) id ((mJ.hd+(k:Int))%(mJ.P:Int)) _ hAd.ag HTok.out;rw [← Hst.out] at hpt;generalize (mJ.hd+(k:Int))%(mJ.P:Int)=pl at hgo hpt;generalize ((mJ.fF (bP Z5) k).put id pl).1=pb at hpt;clear hA hAd q1 q2
          go_region_held3 (fun w'=>w'.cell? ⟨bw,0,none⟩=some (.int .i64 id)∧w'.cell? ⟨j,1,none⟩=some (ax r4)∧w'.cell? ⟨j,2,none⟩=some (ax t4)∧w'.cell? ⟨j,7,none⟩=some (.int .i64 mJ.hd)) (first|(with_reducible exact ⟨b0,b1,b2,b7⟩)|exact ⟨s0,s1,s2,s7⟩) (first
           | (go_at_call 130;(with_reducible refine hgo.mono ?_);rintro e w9 ⟨rfl,rfl⟩)
           | (go_at_call 129;(with_reducible refine hpt.mono ?_);rintro e w9 ⟨rfl,h9,d9⟩;have b0:w9.cell? ⟨bw,0,none⟩=some (.int .i64 id):=h9.ag.cell 0;have b1:w9.cell? ⟨j,1,none⟩=some (ax r4):=h9.aq.cell 1;have b2:w9.cell? ⟨j,2,none⟩=some (ax t4):=h9.aq.cell 2;have b7:w9.cell? ⟨j,7,none⟩=some (.int .i64 mJ.hd):=h9.aq.cell 7))
          have H9:=ae h9.gZ;have DD:=ae (dA.drew.trans d9);clear h9 d9 dA hgo hpt s0 s1 s2 s7 b0 b1 b2 b7
          go_wp2
          go_roundw
          case rel=>exact ⟨k+1,by omega,by go_num,H9.out,DD.out⟩
          case measure=>simp [intOf];omega
         ·obtain rfl:k=n5:=by omega
          have hB:=hsat.ag;have k6:wr.cell? ⟨j,6,none⟩=some (.int .u64 mJ.sq):=hB.cell 6;have f6:=hB.frozen 6;have hB1:=hB.setCell 6 (.int .u64 (mJ.sq+1));have dB1:=hside.setCell ⟨j,6,none⟩ (.int .u64 (mJ.sq+1))
          have hsq:IntKind.u64.wrap (mJ.sq+1)=mJ.sq+1:=by
           have:=hN.sq0;rw [IntKind.wrap_u64];omega
          have HB1:=ae hB1;clear hsat hside hB hB1
          go_wp2_with fail
          generalize wr.setCell ⟨j,6,none⟩ (.int .u64 (mJ.sq+1))=w8 at HB1 dB1 ⊢;have hB1:=HB1.out;have s1:w8.cell? ⟨j,1,none⟩=some (ax r4):=hB1.cell 1;have s7:w8.cell? ⟨j,7,none⟩=some (.int .i64 mJ.hd):=hB1.cell 7;have f7:=hB1.frozen 7;have hlt8:=hB1.lt;have hgo:=xL w8.drew r4 (bX mJ.P) mJ.hd (k:Int) _ (hB1.aq.drew) (by rw [aO];exact hJ.p0) (by rw [aO];have:=hJ.p1;omega);rw [aO] at hgo;generalize hpl:(mJ.hd+(k:Int))%(mJ.P:Int)=pl at hgo;have hB2:=hB1.setCell 7 (.int .i64 pl);have s1':(w8.setCell ⟨j,7,none⟩ (.int .i64 pl)).cell? ⟨j,1,none⟩=some (ax r4):=hB2.cell 1;have dB2:=(dB1.setCell ⟨j,7,none⟩ (.int .i64 pl)).drew;have HB2:=ae (Sat.drew hB2);have Hpl:=ae hpl;clear hB1 HB1 hB2 hpl k6 f6 dB1
          go_region_law (refine nD hgo uP rfl _ _ rfl (by rfl) ?_;rintro e w9 ⟨rfl,rfl⟩;refine ⟨_,rfl,?_⟩)
          all_goals
           clear s1 s1' s7 f7 hlt8 hgo;generalize (w8.setCell ⟨j,7,none⟩ (.int .i64 pl)).drew=w9 at HB2 dB2 ⊢;have hB2:=HB2.out;have s8:w9.cell? ⟨j,8,none⟩=some (.int .i64 mJ.us):=hB2.cell 8;have f8:=hB2.frozen 8;have hB3:=hB2.setCell 8 (.int .i64 (mJ.us+((k:Int)-mJ.aN Z.length)));have s9:(w9.setCell ⟨j,8,none⟩ (.int .i64 (mJ.us+((k:Int)-mJ.aN Z.length)))).cell? ⟨j,9,none⟩=some (.int .i64 mJ.fr):=hB3.cell 9;have f9:=hB3.frozen 9;have hB4:=hB3.setCell 9 (.int .i64 (mJ.aN Z.length));have dB4:=(dB2.setCell ⟨j,8,none⟩ (.int .i64 (mJ.us+((k:Int)-mJ.aN Z.length)))).setCell ⟨j,9,none⟩ (.int .i64 (mJ.aN Z.length))
           have hfin:Sat ((w9.setCell ⟨j,8,none⟩ (.int .i64 (mJ.us+((k:Int)-mJ.aN Z.length)))).setCell ⟨j,9,none⟩ (.int .i64 (mJ.aN Z.length))) (nN j d O.2.1*(aK S4 d O.2.2*(aj S4*F))):=by
            rw [HO4.out];rw [← Hpl.out,HRE.out] at hB4;have hL:(bP Z5).length=k:=by rw [jc];exact Hl5.out
            have e:(mJ.cells d r4 t4).setIfInBounds 6 (.int .u64 (mJ.sq+1))=(mJ.cells d r4 t4).setIfInBounds 6 (.int .u64 (mJ.sq+1)):=rfl;have h1:=(hB4.to (by ac_rfl:_=sl 188 2 (.slice ba k bc) k (bB Z5)*(pt j (.cells (((((mJ.cells d r4 t4).setIfInBounds 6 (.int .u64 (mJ.sq+1))).setIfInBounds 7 (.int .i64 ((mJ.hd+(k:Int))%(mJ.P:Int)))).setIfInBounds 8 (.int .i64 (mJ.us+((k:Int)-mJ.aN Z.length)))).setIfInBounds 9 (.int .i64 (mJ.aN Z.length))) 183 (0,0))*(bK r4 (bX mJ.P)*(bq t4 (mJ.fF (bP Z5) k)*(aK S4 d D4*(aj S4*F))))))).right;refine Sat.xD (r:=r4) (t:=t4) ?_;unfold Jr.done;rw [hL];exact h1
           have Hfin:=ae hfin;have DB4:=ae dB4;rw [Hcv.out] at Hfin DB4 s9 f9;have hP1:(mJ.P:Int)≤20000:=by have:=hJ.p1;omega
           have hu0:=hJ.us0;clear hB2 HB2 hB3 hB4 dB4 hfin
           go_wp2
           go_ret
           exact ⟨S4,hE3.trans hE4,by rw [HO4.out];rfl,Hfin.out,DB4.out⟩
       ·have hrb:(rc == 0)=false:=by simpa using hrc
        have hO:=HO3.out;dsimp only at h9;rw [if_pos hrc] at hO;rw [if_neg hrc] at h9;have HO4:=ae hO;have H9':=ae h9;clear hO HO3 h9 hrc
        go_wp2
        go_ret
        exact ⟨S4,hE3.trans hE4,by rw [HO4.out];rfl,by rw [HO4.out];exact (H9'.out.to (by ac_rfl:_=sl 188 2 (.slice ba n5 bc) n5 (bB Z5)*(nN j d { mJ with br:=true }*(aK S4 d D4*(aj S4*F))))).right,D9⟩
     ·have hmb:(M.1.1 == 0)=false:=by simpa using hm0
      have hO:=HO.out;rw [if_pos hm0] at hO;obtain ⟨⟨mc,ml⟩,mJ,mD⟩:=M;dsimp only at hmb h5 hO;have HO2:=ae hO;clear hm0 hO HO HMk HMl HMi HM4 HMD HMw HMok
      go_wp2
      go_ret
      exact ⟨S3,hE3,by rw [HO2.out];rfl,by rw [HO2.out];exact (h5.to (by ac_rfl:_=(sl 188 2 v3 Z3.length (bB Z3)*mp m (eR Z Z.length))*(iW j d r t mJ*(aK S3 d mD*(aj S3*F))))).right.CE,(d1.trans d2).trans d3⟩
   ·have hO:=HO.out
    rw [if_pos hf0] at hO;clear HO;generalize hR:J.flush D=R at hfl hf0 hO;have hrb:(R.1 == 0)=false:=by simpa using hf0
    obtain ⟨rc,J',D'⟩:=R;dsimp only at hfl hrb hf0;have HO:=ae hO;clear hR hf0 h2 hO
    go_wp2_with fail
    (with_reducible refine hfl.mono ?_)
    rintro e w2 ⟨rfl,h3,d2⟩;clear hfl c6'
    go_wp2
    go_ret
    exact ⟨S,Ext.refl S,by rw [HO.out];rfl,by rw [HO.out];exact (h3.to (by ac_rfl:_=mp m (eR Z Z.length)*_)).right,d1.trans d2⟩
end Go.Nn
namespace Go.SL
open Go.RowKit
theorem Gi (t:Tg) (k:Nat):(oR t k).length=kL k:=by
 induction k with
 | zero=>rfl
 | succ k ih=>rw [kB,List.length_append,ih,aS,qK]
theorem Ew (t:Tg) (k:Nat) (hk:k<9):∃ rest,enc t=oR t k++(cZ (t.field k) (dJ k)++rest):=by
 obtain ⟨m,hm⟩:∃ m,9=k+1+m:=⟨8-k,by omega⟩
 unfold enc;rw [hm];clear hm
 induction m with
 | zero=>exact ⟨[],by rw [Nat.add_zero,kB,List.append_nil]⟩
 | succ m ih=>
  obtain ⟨r,hr⟩:=ih;exact ⟨r++cZ (t.field (k+1+m)) (dJ (k+1+m)),by rw [← Nat.add_assoc,kB,hr];simp only [List.append_assoc]⟩
theorem Mz (t:Tg) (b:List UInt8) (k:Nat) (hk:k<9):ia ((enc t++b).drop (kL k)) (dJ k)=t.field k%(256:Int) ^ dJ k:=by
 obtain ⟨r,hr⟩:=Ew t k hk;rw [hr,List.append_assoc,← Gi t k,List.drop_left,List.append_assoc,lo _ _ _ _ (Nat.le_refl _)]
theorem JC {t:Tg} (hf:t.Fit) (ho:t.ok=true) (b:List UInt8):iu (enc t++b) 9=t:=by
 have h:∀ k,k<9→iu (enc t++b) (k+1)=(iu (enc t++b) k).set (t.field k%(256:Int) ^ dJ k) k:=fun k hk=>by
  rw [iu,Mz t b k hk]
 rw [h 8 (by omega),h 7 (by omega),h 6 (by omega),h 5 (by omega),h 4 (by omega),h 3 (by omega),h 2 (by omega),h 1 (by omega),h 0 (by omega)];simp only [Tg.ok,Bool.and_eq_true,decide_eq_true_eq,and_assoc] at ho;obtain ⟨o1,o2,o3,o4,o5,o6,o7,o8,o9,o10,o11⟩:=ho;obtain ⟨f1,f2,f3,f4,f5,f6,f7,f8⟩:=hf;obtain ⟨ep,st,sq,fl,ix,ct,id⟩:=t;simp only at o1 o2 o3 o4 o5 o6 o7 o8 o9 o10 o11 f1 f2 f3 f4 f5 f6 f7 f8;simp only [iu,Tg.set,Tg.field,dJ,Ec,Tg.zero,wrap64];congr 1 <;> omega
theorem zN {t:Tg} (hf:t.Fit) (ho:t.ok=true) (b:List UInt8):cK (enc t++b)=some (t,b):=by
 have hd:=JC hf ho b;have e:(enc t++b).drop 32=b:=by rw [← dN t,List.drop_left]
 unfold cK;rw [hd,e,if_pos ⟨ho,rfl⟩]
structure ay.Calm (D:ay):Prop where
 down:D.down=false
 armed:D.armed=false
theorem ay.Calm.cV {D:ay} (h:D.Calm):D.cV=D:=by
 unfold ay.cV;rw [h.armed];simp
theorem ay.Calm.begun {D:ay} (h:D.Calm):D.begun=D:=by
 unfold ay.begun;rw [h.cV,h.down,h.armed];simp
theorem ay.Calm.cD {D:ay} (h:D.Calm):D.cD=0:=by
 unfold ay.cD;rw [h.cV,h.down];simp
theorem ay.Calm.read {D:ay} (h:D.Calm) {a:Int} (ha:D.has a):D.read a=(D.bT a,{ D with cr:=bU (D.cr+1) }):=by
 unfold ay.read;rw [if_pos ha,if_pos h.cD,h.begun]
theorem ay.Calm.write {D:ay} (h:D.Calm) {a:Int} (ha:D.has a) {l:List UInt8} (hl:l.length=512):D.write a l=(0,{ D with cw:=bU (D.cw+1),wait:=D.wait++[(a,l)] }):=by
 unfold ay.write;rw [if_pos ⟨ha,hl⟩,if_pos h.cD,h.begun]
theorem ay.Calm.flush {D:ay} (h:D.Calm):D.flush=(0,D.aE):=by
 unfold ay.flush;rw [if_pos h.cD,h.begun]
theorem pF (D:ay) (l:List (Int × List UInt8)):(D.bC l).down=D.down∧(D.bC l).armed=D.armed∧(D.bC l).cr=D.cr∧(D.bC l).cw=D.cw∧(D.bC l).cf=D.cf∧(D.bC l).left=D.left∧(D.bC l).aX=D.aX∧(D.bC l).wait=D.wait:=by
 unfold ay.bC
 induction l generalizing D with
 | nil=>exact ⟨rfl,rfl,rfl,rfl,rfl,rfl,rfl,rfl⟩
 | cons x l ih=>rw [List.foldl_cons];exact ih _
theorem A4 (a:Int):dQ [] a=none:=rfl
theorem iF (l:List (Int × List UInt8)) (x:Int × List UInt8) (a:Int):dQ (l++[x]) a=if x.1=a then some x.2 else dQ l a:=by
 unfold dQ;rw [List.reverse_append,List.reverse_cons,List.reverse_nil,List.nil_append,List.singleton_append,List.find?_cons]
 by_cases h:x.1=a
 ·rw [if_pos h];simp [h]
 ·rw [if_neg h]
  have:(x.1 == a)=false:=by simpa using h
  rw [this]
theorem zZ (l:List (Int × List UInt8)) (x:Int × List UInt8) (a:Int):dQ (x :: l) a=match dQ l a with|some y=>some y|none=>if x.1=a then some x.2 else none:=by
 unfold dQ;rw [List.reverse_cons,List.find?_append]
 cases h:l.reverse.find? (fun x=>x.1 == a) with
 | some y=>simp
 | none=>
  by_cases e:x.1=a
  ·simp [e]
  ·have:(x.1 == a)=false:=by simpa using e
   simp [e]
theorem iX {α:Type} (p:Int × α) (M:List (Int × α)) (y:Int):aH (p :: M) y=if p.1=y then some p.2 else aH M y:=by
 unfold aH;rw [List.find?_cons]
 by_cases h:p.1=y
 ·simp [h]
 ·have:(p.1 == y)=false:=by simpa using h
  rw [this,if_neg h]
theorem zD {α:Type} (M:List (Int × α)) (x y:Int):aH (del M x) y=if y=x then none else aH M y:=by
 induction M with
 | nil=>simp [del,aH]
 | cons p M ih=>
  have e:del (p :: M) x=if p.1=x then del M x else p :: del M x:=by
   unfold del;rw [List.filter_cons]
   by_cases h:p.1=x
   ·simp [h]
   ·have:(p.1 == x)=false:=by simpa using h
    simp [this,h]
  rw [e]
  by_cases h:p.1=x
  ·rw [if_pos h,ih,iX]
   by_cases h2:y=x
   ·rw [if_pos h2,if_pos h2]
   ·rw [if_neg h2,if_neg h2,if_neg (by rw [h];exact fun q=>h2 q.symm)]
  ·rw [if_neg h,iX,iX,ih]
   by_cases h2:p.1=y
   ·rw [if_pos h2,if_pos h2,if_neg (by rw [← h2];exact h)]
   ·rw [if_neg h2,if_neg h2]
theorem A9 (D:ay) (x:Int × List UInt8) (hx:D.has x.1) (hw:D.wait=[]) (a:Int) (ha:D.has a):(D.done x).bT a=if x.1=a then (0,bJ 512 x.2) else D.bT a:=by
 have hwd:=(D.kC x).2.1.trans hw;have ht:aH (D.done x).torn a=if a=x.1 then none else aH D.torn a:=zD D.torn x.1 a
 have hs:(D.done x).sec=D.sec.set x.1.toNat x.2:=rfl;unfold ay.bT;simp only [hwd,hw,A4,ht,hs];obtain ⟨a0,a1⟩:=ha;obtain ⟨x0,x1⟩:=hx;obtain ⟨k,rfl⟩:=Int.eq_ofNat_of_zero_le a0;obtain ⟨j,hj⟩:=Int.eq_ofNat_of_zero_le x0;rw [hj,Int.toNat_natCast,Int.toNat_natCast]
 by_cases e:j=k
 ·subst e
  rw [if_pos rfl,if_pos rfl];have:j<D.sec.length:=by omega
  simp [List.getD,List.getElem?_set,this]
 ·have e':¬ (k:Int)=(j:Int):=by omega
  have e'':¬ (j:Int)=(k:Int):=by omega
  rw [if_neg e',if_neg e''];have hset:(D.sec.set j x.2).getD k []=D.sec.getD k []:=by grind
  rw [hset]
theorem yG (D:ay) (x:Int × List UInt8) (a:Int):(D.done x).has a↔D.has a:=by unfold ay.has;rw [(D.kC x).1]
theorem uC (l:List (Int × List UInt8)):∀ (D:ay),D.wait=[]→(∀ x ∈ l,D.has x.1)→∀ a,D.has a→(D.bC l).bT a=match dQ l a with|some y=>(0,bJ 512 y)|none=>D.bT a:=by
 induction l with
 | nil=>intro D _ _ a _;rfl
 | cons x l ih=>
  intro D hw hl a ha;have h1:=ih (D.done x) ((D.kC x).2.1.trans hw) (fun y hy=>(yG D x _).2 (hl y (List.mem_cons_of_mem _ hy))) a ((yG D x a).2 ha);show (ay.bC (D.done x) l).bT a=_
  rw [h1,zZ]
  cases hn:dQ l a with
  | some y=>rfl
  | none=>
   simp only;rw [A9 D x (hl x List.mem_cons_self) hw a ha]
   split <;> rfl
theorem eX {D:ay} (hD:D.Ok) (a:Int) (ha:D.has a):D.aE.bT a=D.bT a:=by
 have h:=uC D.wait { D with cf:=bU (D.cf+1),wait:=[] } rfl (fun x hx=>hD.wait x hx) a ha
 have e:D.aE=({ D with cf:=bU (D.cf+1),wait:=[] }:ay).bC D.wait:=by
  have:∀ (l:List (Int × List UInt8)) (A B:ay),A.sec=B.sec→A.torn=B.torn→A.cr=B.cr→A.cw=B.cw→A.cf=B.cf→A.down=B.down→A.armed=B.armed→A.left=B.left→A.aX=B.aX→B.wait=[] →
    ({ l.foldl ay.done A with wait:=[] }:ay)=l.foldl ay.done B:=by
   intro l
   induction l with
   | nil=>
    intro A B h1 h2 h3 h4 h5 h6 h7 h8 h9 h10;obtain ⟨b1,b2,b3,b4,b5,b6,b7,b8,b9,b10⟩:=B;subst h1 h2 h3 h4 h5 h6 h7 h8 h9 h10
    rfl
   | cons x l ih=>
    intro A B h1 h2 h3 h4 h5 h6 h7 h8 h9 h10;exact ih _ _ (by simp [ay.done,h1]) (by simp [ay.done,h2]) h3 h4 h5 h6 h7 h8 h9 h10
  exact this _ _ _ rfl rfl rfl rfl rfl rfl rfl rfl rfl rfl
 rw [e,h];unfold ay.bT
 cases hn:dQ D.wait a with
 | some y=>rfl
 | none=>rfl
theorem gR {D:ay} (h:D.Calm):D.aE.Calm:=by
 have:=pF { D with cf:=bU (D.cf+1) } D.wait;exact ⟨this.1.trans h.down,this.2.1.trans h.armed⟩
theorem aU (D:ay):D.aE.cr=D.cr∧D.aE.cw=D.cw∧D.aE.cf=bU (D.cf+1)∧D.aE.sec.length=D.sec.length:=by
 have:=pF { D with cf:=bU (D.cf+1) } D.wait;exact ⟨this.2.2.1,this.2.2.2.1,this.2.2.2.2.1,(ay.rA _ _).1⟩
theorem rj (D:ay) (a:Int) (l:List UInt8) (n:Int) (b:Int):({ D with cw:=n,wait:=D.wait++[(a,l)] }:ay).bT b=if a=b then (0,bJ 512 l) else D.bT b:=by
 unfold ay.bT;simp only [iF]
 by_cases h:a=b
 ·simp [h]
 ·simp [h]
structure Tb.Km (T:Tb):Prop where
 pq:∀ id p,told T.ps id=some p→told T.os p=some id
 qp:∀ id p,told T.os p=some id→told T.ps id=some p
theorem jh {l:List Int} {i v:Int} (h:told l i=some v):0≤i∧i<l.length∧v ≠ -1:=by
 unfold told at h
 split at h
 ·rename_i hc
  injection h with h
  exact ⟨hc.1,hc.2.1,by rw [← h];exact hc.2.2⟩
 ·cases h
theorem told_none {l:List Int} {i:Int} (h:told l i=none) (h0:0≤i) (h1:i<l.length):l.getD i.toNat 0=-1:=by
 unfold told at h
 split at h
 ·cases h
 ·rename_i hc
  exact Classical.byContradiction fun q=>hc ⟨h0,h1,q⟩
theorem pz {l:List Int} {i:Int} (h0:0≤i) (h1:i<l.length) (v x:Int):told (l.set i.toNat v) x=if x=i then (if v=-1 then none else some v) else told l x:=by
 obtain ⟨k,rfl⟩:=Int.eq_ofNat_of_zero_le h0;have hk:k<l.length:=by omega
 unfold told;rw [List.length_set,Int.toNat_natCast]
 by_cases hx:x=(k:Int)
 ·subst hx
  rw [if_pos rfl,Int.toNat_natCast];have e:(l.set k v).getD k 0=v:=by simp [List.getD,List.getElem?_set,hk]
  rw [e]
  by_cases hv:v=-1
  ·rw [if_pos hv,if_neg (fun q=>q.2.2 hv)]
  ·rw [if_neg hv,if_pos ⟨by omega,h1,hv⟩]
 ·rw [if_neg hx]
  by_cases hr:0≤x
  ·obtain ⟨j,rfl⟩:=Int.eq_ofNat_of_zero_le hr
   rw [Int.toNat_natCast];have hj:k≠j:=by omega
   have e:(l.set k v).getD j 0=l.getD j 0:=by simp only [List.getD,List.getElem?_set];rw [if_neg hj]
   rw [e]
  ·rw [if_neg (fun q=>hr q.1),if_neg (fun q=>hr q.1)]
theorem Tb.yT (T:Tb) (id:Int):(T.drop id).2.ps.length=T.ps.length∧(T.drop id).2.os.length=T.os.length:=by
 unfold Tb.drop
 split <;> simp
section
variable {T:Tb}
theorem Tb.KR (h:T.Km) (id:Int) (x:Int):told (T.drop id).2.ps x=if x=id then none else told T.ps x:=by
 unfold Tb.drop
 cases hd:told T.ps id with
 | none=>
  simp only
  split
  ·rename_i e;rw [e,hd]
  ·rfl
 | some p=>
  have hr:=jh hd;rw [pz hr.1 hr.2.1];simp
theorem Tb.Ml (h:T.Km) (id:Int) (q:Int):told (T.drop id).2.os q=if told T.ps id=some q then none else told T.os q:=by
 unfold Tb.drop
 cases hd:told T.ps id with
 | none=>simp
 | some p=>
  have hr:=jh (h.pq _ _ hd);rw [pz hr.1 hr.2.1]
  by_cases e:q=p
  ·subst e;simp
  ·rw [if_neg e,if_neg (by intro q';injection q' with q';exact e q'.symm)]
theorem Tb.BP (h:T.Km) {id p:Int} (i0:0≤id) (i1:id<T.ps.length) (p0:0≤p) (p1:p<T.os.length) (hn:told T.os p=none) (x:Int) :
  told (T.put id p).2.ps x=if x=id then some p else told T.ps x:=by
 have hg:=told_none hn p0 p1;unfold Tb.put;rw [if_pos ⟨i0,i1,p0,p1,.inl hg⟩];rw [pz i0 (by rw [(Tb.yT T id).1];exact i1),T.KR h]
 by_cases e:x=id
 ·rw [if_pos e,if_pos e,if_neg (by omega)]
 ·rw [if_neg e,if_neg e,if_neg e]
theorem Tb.BM (h:T.Km) {id p:Int} (i0:0≤id) (i1:id<T.ps.length) (p0:0≤p) (p1:p<T.os.length) (hn:told T.os p=none) (q:Int) :
  told (T.put id p).2.os q=if q=p then some id else if told T.ps id=some q then none else told T.os q:=by
 have hg:=told_none hn p0 p1;unfold Tb.put;rw [if_pos ⟨i0,i1,p0,p1,.inl hg⟩];rw [pz p0 (by rw [(Tb.yT T id).2];exact p1),T.Ml h]
 by_cases e:q=p
 ·rw [if_pos e,if_pos e,if_neg (by omega)]
 ·rw [if_neg e,if_neg e]
theorem Tb.KY (h:T.Km) {id p:Int} (i0:0≤id) (i1:id<T.ps.length) (p0:0≤p) (p1:p<T.os.length) (hn:told T.os p=none):(T.put id p).2.Km:=by
 constructor
 ·intro x q hx
  rw [Tb.BP h i0 i1 p0 p1 hn] at hx;rw [Tb.BM h i0 i1 p0 p1 hn]
  by_cases e:x=id
  ·rw [if_pos e] at hx;injection hx with hx
   rw [if_pos hx.symm,e]
  ·rw [if_neg e] at hx
   have h1:=h.pq _ _ hx;have hqp:q≠p:=by rintro rfl;rw [hn] at h1;cases h1
   rw [if_neg hqp]
   have h2:told T.ps id≠some q:=by
    intro h3;have h4:=h.pq _ _ h3;rw [h1] at h4;injection h4 with h4;exact e h4
   rw [if_neg h2,h1]
 ·intro x q hx
  rw [Tb.BM h i0 i1 p0 p1 hn] at hx;rw [Tb.BP h i0 i1 p0 p1 hn]
  by_cases e:q=p
  ·rw [if_pos e] at hx;injection hx with hx
   rw [if_pos hx.symm,e]
  ·rw [if_neg e] at hx
   split at hx
   ·cases hx
   ·rename_i h1
    have h2:=h.qp _ _ hx;have:x≠id:=by rintro rfl;exact h1 h2
    rw [if_neg this,h2]
end
theorem Tb.ig (b p:Nat) (i:Int):told (Tb.fresh b p).ps i=none∧told (Tb.fresh b p).os i=none:=by
 constructor
 ·unfold told
  rw [if_neg];rintro ⟨h0,h1,h2⟩;apply h2;simp only [Tb.fresh,List.length_replicate] at h1;have:i.toNat<b:=by omega
  simp [Tb.fresh,List.getD,List.getElem?_replicate,this]
 ·unfold told
  rw [if_neg];rintro ⟨h0,h1,h2⟩;apply h2;simp only [Tb.fresh,List.length_replicate] at h1;have:i.toNat<p:=by omega
  simp [Tb.fresh,List.getD,List.getElem?_replicate,this]
theorem Tb.FI (b p:Nat):(Tb.fresh b p).Km:=
 ⟨fun i q h=>(by rw [(Tb.ig b p i).1] at h;cases h),fun i q h=>(by rw [(Tb.ig b p q).2] at h;cases h)⟩
theorem ld {a b P:Int} (h1:b<a) (h2:a<b+P):a%P≠b%P:=by
 intro h;have:=Int.emod_emod_of_dvd a (Int.dvd_refl P);have hs:=Int.emod_eq_emod_iff_emod_sub_eq_zero.1 h;rw [Int.emod_eq_of_lt (by omega) (by omega)] at hs;omega
structure PD (J:Jr) (L:Bl) (k:Nat):Prop where
 con:(J.fF L k).Km
 ps:∀ x,told (J.fF L k).ps x=match (L.take k).findIdx? (fun y=>y.1 == x) with|some i=>some ((J.hd+(i:Int))%(J.P:Int))|none=>told J.T.ps x
 os:∀ q x,told (J.fF L k).os q=some x→(∃ i:Nat,i<k∧q=(J.hd+(i:Int))%(J.P:Int)∧(L.getD i (0,[])).1=x)∨(told J.T.os q=some x∧x ∉ (L.take k).map Prod.fst)
theorem xo {α:Type} (l:List α) (a:α) (f:α→Bool):(l++[a]).findIdx? f=match l.findIdx? f with|some i=>some i|none=>if f a then some l.length else none:=by grind
theorem ir {L:Bl} {x:Int}:L.findIdx? (fun y=>y.1 == x)=none↔x ∉ L.map Prod.fst:=by grind
theorem FN {α:Type} (L:List α) (k:Nat) (d:α) (h:k<L.length):L.take (k+1)=L.take k++[L.getD k d]:=by simp_all
theorem PK (J:Jr) (hJ:J.Ok) (hc:J.T.Km) (L:Bl) (hid:∀ x ∈ L,0≤x.1∧x.1<J.n) (hnd:(L.map Prod.fst).Nodup) (hlen:(L.length:Int)≤J.P)
  (hfree:∀ i:Nat,i<L.length→told J.T.os ((J.hd+(i:Int))%(J.P:Int))=none):∀ k,k≤L.length→PD J L k:=by
 have hps:=hJ.ps;have hos:=hJ.os;intro k
 induction k with
 | zero=>
  intro _;exact ⟨hc,fun x=>rfl,fun q x h=>.inr ⟨h,by simp⟩⟩
 | succ k ih=>
  intro hk;obtain ⟨c1,c2,c3⟩:=ih (by omega);have hkl:k<L.length:=by omega
  have hm:L.getD k (0,[]) ∈ L:=by rw [List.getD,List.getElem?_eq_getElem hkl];exact List.getElem_mem _
  obtain ⟨i0,i1⟩:=hid _ hm;have hts:=FN L k (0,[]) hkl;have hst:J.fF L (k+1)=((J.fF L k).put (L.getD k (0,[])).1 ((J.hd+(k:Int))%(J.P:Int))).2:=rfl;have hlen1:=J.tU L k;have q0:0≤(J.hd+(k:Int))%(J.P:Int):=Int.emod_nonneg _ (by omega);have q1:(J.hd+(k:Int))%(J.P:Int)<(J.fF L k).os.length:=by rw [hlen1.2,hos];exact Int.emod_lt_of_pos _ (by omega)
  have hn:told (J.fF L k).os ((J.hd+(k:Int))%(J.P:Int))=none:=by
   cases h:told (J.fF L k).os ((J.hd+(k:Int))%(J.P:Int)) with
   | none=>rfl
   | some x=>
    rcases c3 _ _ h with ⟨i,hi,e,_⟩|⟨e,_⟩
    ·exact absurd e (ld (by omega) (by omega))
    ·rw [hfree k hkl] at e;cases e
  have j1:(L.getD k (0,[])).1<((J.fF L k).ps.length:Int):=by rw [hlen1.1,hps];exact i1
  have hnot:(L.getD k (0,[])).1 ∉ (L.take k).map Prod.fst:=by
   intro hx;have hnd2:((L.take (k+1)).map Prod.fst).Nodup:=hnd.sublist ((List.take_sublist _ _).map _);rw [hts,List.map_append,List.nodup_append] at hnd2;exact hnd2.2.2 _ hx _ (by simp) rfl
  have hpsK:=Tb.BP c1 i0 j1 q0 q1 hn;have hosK:=Tb.BM c1 i0 j1 q0 q1 hn;have hconK:=Tb.KY c1 i0 j1 q0 q1 hn;rw [← hst] at hpsK hosK hconK;refine ⟨hconK,fun x=>?_,fun q x hx=>?_⟩
  ·rw [hpsK,hts,xo,c2]
   have hlk:(L.take k).length=k:=by rw [List.length_take];omega
   by_cases e:x=(L.getD k (0,[])).1
   ·rw [if_pos e,e,ir.2 hnot]
    simp [hlk]
   ·rw [if_neg e]
    cases hf:(L.take k).findIdx? (fun y=>y.1 == x) with
    | some i=>rfl
    | none=>
     have:((L.getD k (0,[])).1 == x)=false:=by simp only [beq_eq_false_iff_ne,ne_eq];exact fun q=>e q.symm
     rw [this];rfl
  ·rw [hosK] at hx
   by_cases e:q=(J.hd+(k:Int))%(J.P:Int)
   ·rw [if_pos e] at hx
    injection hx with hx
    exact .inl ⟨k,by omega,e,hx⟩
   ·rw [if_neg e] at hx
    split at hx
    ·cases hx
    ·rename_i h1
     rcases c3 _ _ hx with ⟨i,hi,e',h'⟩|⟨h2,h3⟩
     ·exact .inl ⟨i,by omega,e',h'⟩
     ·refine .inr ⟨h2,?_⟩
      rw [hts,List.map_append,List.mem_append];rintro (h4|h4)
      ·exact h3 h4
      ·simp only [List.map_cons,List.map_nil,List.mem_singleton] at h4
       exact h1 (by rw [← h4];exact c1.qp _ _ hx)
end Go.SL
namespace Go.Nn
open Go.RowKit Go.SL
abbrev Has:=Int→Option (List UInt8)
structure fg (J:Jr) (D:ay) (has:Has):Prop where
 ok:J.Ok
 nums:J.Gd
 dok:D.Ok
 br:J.br=false
 calm:D.Calm
 sec:(J.P:Int)+1≤D.sec.length
 con:J.T.Km
 rm:J.us+J.fr≤J.P
 win:∀ p id,told J.T.os p=some id→∃ a:Int,J.hd-J.us≤a∧a<J.hd∧p=a%(J.P:Int)
 dat:∀ id p,told J.T.ps id=some p→∃ t b,has id=some b∧b.length=480∧D.bT (p+1)=(0,enc t++b)∧t.id=id∧t.ok=true∧t.Fit
 non:∀ id,told J.T.ps id=none→has id=none
theorem fg.place {J:Jr} {D:ay} {has:Has} (h:fg J D has) {id p:Int} (hp:told J.T.ps id=some p):0≤p∧p<J.P:=by
 have:=jh (h.con.pq _ _ hp);have e:=h.ok.os;exact ⟨this.1,by have:=this.2.1;omega⟩
theorem fg.yZ {J:Jr} {D:ay} {has:Has} (h:fg J D has) {id p:Int} (hp:told J.T.ps id=some p):D.has (p+1):=by
 have:=h.place hp;have:=h.sec;exact ⟨by omega,by omega⟩
theorem fg.dev {J:Jr} {D D':ay} {has:Has} (h:fg J D has) (hok:D'.Ok) (hc:D'.Calm) (hl:D'.sec.length=D.sec.length) (ht:∀ a,D.has a→D'.bT a=D.bT a):fg J D' has:=
 ⟨h.ok,h.nums,hok,h.br,hc,by rw [hl];exact h.sec,h.con,h.rm,h.win,fun id p hp=>by
  obtain ⟨t,b,h1,h2,h3,h4⟩:=h.dat id p hp;exact ⟨t,b,h1,h2,by rw [ht _ (h.yZ hp)];exact h3,h4⟩,h.non⟩
theorem Ia (D:ay) (r:Int) (a:Int):({ D with cr:=r }:ay).bT a=D.bT a:=rfl
theorem Dg {D:ay} (h:D.Calm) (r:Int):({ D with cr:=r }:ay).Calm:=⟨h.down,h.armed⟩
theorem Jp {D:ay} (h:D.Ok) (r:Int):({ D with cr:=r }:ay).Ok:=⟨h.n,h.wait,h.many,h.aX⟩
theorem fg.cr {J:Jr} {D:ay} {has:Has} (h:fg J D has) (r:Int):fg J { D with cr:=r } has:=
 h.dev (Jp h.dok r) (Dg h.calm r) rfl fun _ _=>rfl
theorem KX {J:Jr} {D D':ay} {id p:Int} {l b:List UInt8} {t:Tg} (hr:D.read (p%(J.P:Int)+1)=((0,l),D')) (hd:cK l=some (t,b)) (hi:t.id=id):J.load D id p=((0,b),J,D'):=by
 unfold Jr.load;simp only [hr,hd,hi,if_true]
theorem fg.load {J:Jr} {D:ay} {has:Has} (h:fg J D has) {id p:Int} (hp:told J.T.ps id=some p):J.load D id p=((0,(has id).getD (zs 480)),J,{ D with cr:=bU (D.cr+1) }):=by
 obtain ⟨t,b,h1,h2,h3,h4,h5,h6⟩:=h.dat id p hp;obtain ⟨p0,p1⟩:=h.place hp;have hm:=Int.emod_eq_of_lt p0 p1;have hr:=h.calm.read (h.yZ hp);rw [h3] at hr;rw [h1];exact KX (by rw [hm];exact hr) (zN h6 h5 b) h4
theorem fg.read {J:Jr} {D:ay} {has:Has} (h:fg J D has) {id:Int} (h0:0≤id) (h1:id<J.n) :
  J.read D id=((0,(has id).getD (zs 480)),J,if (told J.T.ps id).isSome then { D with cr:=bU (D.cr+1) } else D):=by
 unfold Jr.read;rw [if_neg (by omega),h.br,if_neg (by simp)]
 cases hp:told J.T.ps id with
 | none=>simp [h.non id hp]
 | some p=>simp only [Option.isSome_some,if_true];exact h.load hp
theorem fg.flush {J:Jr} {D:ay} {has:Has} (h:fg J D has):J.flush D=(0,J,D.aE):=by
 unfold Jr.flush;rw [h.br,if_neg (by simp),h.calm.flush];simp
theorem fg.aE {J:Jr} {D:ay} {has:Has} (h:fg J D has):fg J D.aE has:=by
 have hk:=ay.gx h.dok;rw [h.calm.flush] at hk;exact h.dev (hk.ok h.dok (by have:=h.dok.many;omega)) (gR h.calm) (aU D).2.2.2 fun a ha=>eX h.dok a ha
def gV (c:Int):Nat→Int
 | 0=>c
 | k+1=>bU (gV c k+1)
theorem JZ (c:Int) (k:Nat):gV (bU (c+1)) k=gV c (k+1):=by
 induction k with
 | zero=>rfl
 | succ k ih=>rw [gV,ih];rfl
def xP (has:Has) (own:KV) (X:List (Int × Int)):Bl:=(X.filter fun x => !(aH own x.1).isSome).map fun x=>(x.1,(has x.1).getD (zs 480))
theorem BD {J:Jr} {D:ay} {has:Has} (h:fg J D has) (own:KV) (X:List (Int × Int)) (hX:∀ x ∈ X,told J.T.ps x.1=some x.2) :
  J.bO D own X=((0,xP has own X),J,{ D with cr:=gV D.cr (xP has own X).length }):=by
 have:∀ (X:List (Int × Int)),(∀ x ∈ X,told J.T.ps x.1=some x.2)→∀ (acc:Bl) (r:Int),X.foldl (Jr.cI own) ((0,acc),J,{ D with cr:=r })=((0,acc++xP has own X),J,{ D with cr:=gV r (xP has own X).length }):=by
  intro X
  induction X with
  | nil=>intro _ acc r;simp [xP,gV]
  | cons x X ih=>
   intro hX acc r;rw [List.foldl_cons];have hx:=hX x List.mem_cons_self;have hX':=fun y hy=>hX y (List.mem_cons_of_mem _ hy)
   cases hk:aH own x.1 with
   | some v=>
    have e1:Jr.cI own ((0,acc),J,{ D with cr:=r }) x=((0,acc),J,{ D with cr:=r }):=by
     unfold Jr.cI;simp [hk]
    have e2:xP has own (x :: X)=xP has own X:=by simp [xP,hk]
    rw [e1,e2];exact ih hX' acc r
   | none=>
    have hl:=(h.cr r).load hx
    have e1:Jr.cI own ((0,acc),J,{ D with cr:=r }) x=((0,acc++[(x.1,(has x.1).getD (zs 480))]),J,{ D with cr:=bU (r+1) }):=by
     unfold Jr.cI;simp only [hk];rw [hl];simp
    have e2:xP has own (x :: X)=(x.1,(has x.1).getD (zs 480)) :: xP has own X:=by simp [xP,hk]
    rw [e1,e2,ih hX',JZ,List.length_cons];simp
 exact this X hX [] D.cr
theorem jK {T:Tb} {P first k:Nat} {x:Int × Int} (h:x ∈ bL T P first k):∃ i,i<k∧x.2=(((first+i)%P:Nat):Int)∧told T.os x.2=some x.1:=by
 obtain ⟨p,hp,hx⟩:=List.mem_filterMap.1 h;obtain ⟨i,hi,rfl⟩:=List.mem_map.1 hp
 cases ht:told T.os (((first+i)%P:Nat):Int) with
 | none=>rw [ht] at hx;cases hx
 | some id=>
  rw [ht] at hx;injection hx with hx
  rw [← hx];exact ⟨i,List.mem_range.1 hi,rfl,ht⟩
theorem y7 {T:Tb} {P first k i:Nat} {id:Int} (hi:i<k) (h:told T.os (((first+i)%P:Nat):Int)=some id):(id,(((first+i)%P:Nat):Int)) ∈ bL T P first k:=by
 refine List.mem_filterMap.2 ⟨(first+i)%P,List.mem_map.2 ⟨i,List.mem_range.2 hi,rfl⟩,?_⟩;rw [h];rfl
theorem jX {T:Tb} (hc:T.Km) {P first:Nat}:∀ k,k≤P→((bL T P first k).map Prod.fst).Nodup:=by
 intro k
 induction k with
 | zero=>intro _;simp [bL]
 | succ k ih=>
  intro hk;rw [pR]
  cases ht:told T.os (((first+k)%P:Nat):Int) with
  | none=>simp only [List.append_nil];exact ih (by omega)
  | some id=>
   simp only [List.map_append,List.map_cons,List.map_nil];rw [List.nodup_append];refine ⟨ih (by omega),by simp,?_⟩;intro a ha b hb;rw [List.mem_singleton.1 hb];rintro rfl;obtain ⟨x,hx,rfl⟩:=List.mem_map.1 ha;obtain ⟨i,hi,h1,h2⟩:=jK hx;have e1:=hc.qp _ _ h2;rw [hc.qp _ _ ht] at e1;injection e1 with e1
   rw [h1] at e1;have:=ld (a:=((first+k:Nat):Int)) (b:=((first+i:Nat):Int)) (P:=(P:Int)) (by omega) (by omega);exact this (by exact_mod_cast e1)
structure Ry (J:Jr) (D:ay) (Z:List Wr) (k:Nat) (D':ay):Prop where
 run:J.bp D Z k=(0,D')
 calm:D'.Calm
 sec:D'.sec.length=D.sec.length
 cr:D'.cr=D.cr
 cf:D'.cf=D.cf
 cw:D'.cw=gV D.cw k
 new:∀ i:Nat,i<k→D'.bT ((J.hd+(i:Int))%(J.P:Int)+1)=(0,enc (J.tag i Z.length (Z.getD i Wr.nil).1)++(Z.getD i Wr.nil).2.2)
 oz:∀ a,(∀ i:Nat,i<k→a≠(J.hd+(i:Int))%(J.P:Int)+1)→D'.bT a=D.bT a
theorem RB (J:Jr) (D:ay) (hP:0<J.P) (hc:D.Calm) (hs:(J.P:Int)+1≤D.sec.length) (Z:List Wr) (h480:∀ z ∈ Z,z.2.2.length=480) (hZ:(Z.length:Int)≤J.P):∀ k,k≤Z.length→∃ D',Ry J D Z k D':=by
  intro k
  induction k with
  | zero=>intro _;exact ⟨D,rfl,hc,rfl,rfl,rfl,rfl,fun i hi=>absurd hi (Nat.not_lt_zero i),fun _ _=>rfl⟩
  | succ k ih=>
    intro hk;obtain ⟨D',hr⟩:=ih (by omega);obtain ⟨r1,r2,r3,r4,r5,r6,r7,r8⟩:=hr;have hm:Z.getD k Wr.nil ∈ Z:=by rw [List.getD,List.getElem?_eq_getElem (by omega)];exact List.getElem_mem _
    have hlen:(enc (J.tag k Z.length (Z.getD k Wr.nil).1)++(Z.getD k Wr.nil).2.2).length=512:=by rw [List.length_append,dN,h480 _ hm]
    have hq0:0≤(J.hd+(k:Int))%(J.P:Int):=Int.emod_nonneg _ (by omega);have hq1:(J.hd+(k:Int))%(J.P:Int)<J.P:=Int.emod_lt_of_pos _ (by omega);have hhas:D'.has ((J.hd+(k:Int))%(J.P:Int)+1):=⟨by omega,by rw [r3];omega⟩
    have hw:=r2.write hhas hlen
    have hst:J.bp D Z (k+1)=if (J.bp D Z k).1=0 then
        (let R:=(J.bp D Z k).2.write ((J.hd+(k:Int))%(J.P:Int)+1) (enc (J.tag k Z.length (Z.getD k Wr.nil).1)++(Z.getD k Wr.nil).2.2)
         (if R.1=0 then 0 else 2,R.2)) else J.bp D Z k:=rfl
    rw [r1] at hst;rw [hw] at hst;refine ⟨_,hst,⟨r2.down,r2.armed⟩,r3,r4,r5,by show bU (D'.cw+1)=_;rw [r6];rfl,?_,?_⟩
    · intro i hi
      rw [rj];rcases Nat.lt_or_eq_of_le (Nat.lt_succ_iff.1 hi) with h1|h1
      · have hne:(J.hd+(k:Int))%(J.P:Int)≠(J.hd+(i:Int))%(J.P:Int):=ld (by omega) (by omega)
        rw [if_neg (by omega)];exact r7 i h1
      · subst h1
        rw [if_pos rfl,jv hlen]
    · intro a ha
      rw [rj,if_neg (fun e=>ha k (by omega) e.symm)];exact r8 a fun i hi=>ha i (by omega)
def lH (has:Has) (L:Bl):Has:=fun id=>(aH L id).or (has id)
structure Batch (n:Int) (L:Bl):Prop where
 n0:1≤L.length
 n1:L.length≤24
 id:∀ x ∈ L,0≤x.1∧x.1<n
 b480:∀ x ∈ L,x.2.length=480
 nd:(L.map Prod.fst).Nodup
def zA (L:Bl):KV:=eR (lf L) L.length
theorem Gj (L:Bl) (id:Int):(aH (zA L) id).isSome=decide (id ∈ L.map Prod.fst):=by
 have hl:(lf L).length=L.length:=by simp [lf]
 rw [zA,vy (by omega)];congr 1
 have:((lf L).take L.length).map Prod.fst=L.map Prod.fst:=by
  rw [← hl,List.take_length];unfold lf;rw [List.map_map];rfl
 rw [this]
def iD (J:Jr) (has:Has) (L:Bl):Bl:=xP has (zA L) (bL J.T J.P (Jr.tail J) (J.aN L.length).toNat)
theorem Aa {J:Jr} (hJ:J.Ok) (i:Nat):(((Jr.tail J+i)%J.P:Nat):Int)=(J.hd-J.us+(i:Int))%(J.P:Int):=by
 have hp:=hJ.p0;unfold Jr.tail;rw [Int.natCast_emod,Int.natCast_add,Int.toNat_of_nonneg (Int.emod_nonneg _ (by omega)),Int.emod_add_emod]
theorem JI {L:Bl} {x:Int} {i:Nat} (h:L.findIdx? (fun y=>y.1 == x)=some i):i<L.length∧(L.getD i (0,[])).1=x∧aH L x=some (L.getD i (0,[])).2:=by
 rw [List.findIdx?_eq_some_iff_getElem] at h;obtain ⟨h1,h2,h3⟩:=h;have e:L.getD i (0,[])=L[i]:=by rw [List.getD,List.getElem?_eq_getElem h1];rfl
 refine ⟨h1,by rw [e];simpa using h2,?_⟩;rw [e];have hf:L.find? (fun p=>p.1 == x)=some L[i]:=List.find?_eq_some_iff_getElem.2 ⟨h2,i,h1,rfl,fun j hj=>by simpa using h3 j hj⟩;unfold aH;rw [hf]
 rfl
theorem xS {α:Type} (A B:List (Int × α)) (x:Int):aH (A++B) x=(aH A x).or (aH B x):=by
 unfold aH;rw [List.find?_append];cases A.find? (fun p=>p.1 == x) <;> rfl
theorem Le {J:Jr} {D:ay} {has:Has} (h:fg J D has) (own:KV) (X:List (Int × Int)) (hX:∀ x ∈ X,told J.T.ps x.1=some x.2) (id:Int) (b:List UInt8) (hk:aH (xP has own X) id=some b):has id=some b:=by
 have hm:=lZ hk;obtain ⟨x,hx,e⟩:=List.mem_map.1 hm;have hx':=(List.mem_filter.1 hx).1;obtain ⟨t,c,h1,_⟩:=h.dat _ _ (hX x hx');injection e with e1 e2
 rw [← e1,h1];rw [h1] at e2;rw [← e2];rfl
theorem sS {J:Jr} {D:ay} {has:Has} (h:fg J D has) (own:KV) (X:List (Int × Int)) (hX:∀ x ∈ X,told J.T.ps x.1=some x.2):∀ x ∈ xP has own X,x.2.length=480∧0≤x.1∧x.1<J.n:=by
 intro y hy;obtain ⟨x,hx,rfl⟩:=List.mem_map.1 hy;have hx':=(List.mem_filter.1 hx).1;obtain ⟨t,c,h1,h2,_⟩:=h.dat _ _ (hX x hx');have hr:=jh (hX x hx');have:=h.ok.ps;exact ⟨by simp only [h1,Option.getD_some];exact h2,hr.1,by show x.1<J.n;omega⟩
theorem Db (has:Has) (L:Bl) (X:List (Int × Int)):(xP has (zA L) X).map Prod.fst=(X.map Prod.fst).filter fun id=>decide (id ∉ L.map Prod.fst):=by
 unfold xP;rw [List.map_map,List.filter_map];congr 1;congr 1;funext x;simp only [Function.comp,Gj];simp
structure Qy (J:Jr) (D:ay) (has:Has) (L:Bl) (D':ay):Prop where
 run:eu J D true L=(0,J.done (L++iD J has L) (J.aN L.length),D')
 inv:fg (J.done (L++iD J has L) (J.aN L.length)) D' (lH has L)
 cr:D'.cr=gV D.cr (iD J has L).length
 cw:D'.cw=gV D.cw (L.length+(iD J has L).length)
 cf:D'.cf=bU (D.cf+1)
theorem qg {J:Jr} {D:ay} {has:Has} (h:fg J D has) (k:Nat):∀ x ∈ bL J.T J.P (Jr.tail J) k,told J.T.ps x.1=some x.2:=by
 intro x hx;obtain ⟨_,_,_,h2⟩:=jK hx;exact h.con.qp _ _ h2
theorem Ap {J:Jr} {D:ay} {has:Has} (h:fg J D has) (L:Bl):eB J D L=((0,iD J has L),J,{ D with cr:=gV D.cr (iD J has L).length }):=
 BD h (zA L) _ (qg h _)
theorem zE (J:Jr) (has:Has) (L:Bl) (h0:0≤J.us):((iD J has L).length:Int)≤J.aN L.length:=by
 have h1:(iD J has L).length≤(J.aN L.length).toNat:=by
  unfold iD xP;rw [List.length_map];exact Nat.le_trans (List.length_filter_le _ _) (jG _ _ _ _)
 have:=(Jr.e7 h0 L.length).1;omega
theorem Am {J:Jr} {D:ay} {has:Has} (h:fg J D has) {L:Bl} (hb:Batch J.n L) (hsq:J.sq<281474976710655) (hf:¬ (J.P:Int)-J.us-J.fr<((L++iD J has L).length:Int)) :
  ∃ D',Qy J D has L D':=by
 have hm:=Ap h.aE L;have hfl:=h.aE;have hc:=Jr.e7 h.ok.us0 L.length;have hml:=zE J has L h.ok.us0;have hX:=qg h (J.aN L.length).toNat;have hmi:(iD J has L).map Prod.fst=((bL J.T J.P (Jr.tail J) (J.aN L.length).toNat).map Prod.fst).filter fun id=>decide (id ∉ L.map Prod.fst):=Db has L _;have hmh:∀ id b,aH (iD J has L) id=some b→has id=some b:=fun id b hk=>Le h (zA L) _ hX id b hk;have hm4:∀ x ∈ iD J has L,x.2.length=480∧0≤x.1∧x.1<J.n:=sS h (zA L) _ hX;have hus0:=h.ok.us0;have hus1:=h.ok.us1;have hfr0:=h.ok.fr0;have hp0:=h.ok.p0;have hn1:=hb.n1;generalize hM:iD J has L=M at *;obtain ⟨A,hA⟩:∃ A,A=L++M:=⟨_,rfl⟩
 have hAlen:A.length=L.length+M.length:=by rw [hA,List.length_append]
 rw [← hA] at hf
 have hA4:∀ x ∈ A,x.2.length=480∧0≤x.1∧x.1<J.n:=by
  intro x hx;rw [hA] at hx;rcases List.mem_append.1 hx with hx|hx
  ·exact ⟨hb.b480 x hx,hb.id x hx⟩
  ·exact hm4 x hx
 have hAnd:(A.map Prod.fst).Nodup:=by
  rw [hA,List.map_append,List.nodup_append];refine ⟨hb.nd,?_,?_⟩
  ·rw [hmi]
   exact (jX h.con _ (by omega)).filter _
  ·intro a ha b hb' e
   rw [hmi] at hb';have:=(List.mem_filter.1 hb').2;rw [← e] at this;simp only [decide_eq_true_eq] at this;exact this ha
 have hAl:(A.length:Int)≤J.P:=by omega
 have hAl2:(A.length:Int)+J.us≤J.P:=by omega
 have hfree:∀ i:Nat,i<A.length→told J.T.os ((J.hd+(i:Int))%(J.P:Int))=none:=by
  intro i hi
  cases ht:told J.T.os ((J.hd+(i:Int))%(J.P:Int)) with
  | none=>rfl
  | some id=>
   obtain ⟨a,a1,a2,a3⟩:=h.win _ _ ht;exact absurd a3 (ld (by omega) (by omega))
 have hpk:=PK J h.ok h.con A (fun x hx=>(hA4 x hx).2) hAnd hAl hfree A.length (Nat.le_refl _);obtain ⟨p1,p2,p3⟩:=hpk;rw [List.take_length] at p2;have hwl:(lf A).length=A.length:=by simp [lf]
 have hw480:∀ z ∈ lf A,z.2.2.length=480:=by
  intro z hz;obtain ⟨x,hx,rfl⟩:=List.mem_map.1 hz;exact (hA4 x hx).1
 have hsec2:(J.P:Int)+1≤D.aE.sec.length:=hfl.sec;obtain ⟨D',hwr⟩:=RB J { D.aE with cr:=gV D.aE.cr M.length } h.ok.p0 (Dg hfl.calm _) hsec2 (lf A) hw480 (by rw [hwl];exact hAl) A.length (by rw [hwl];exact Nat.le_refl _);have hwk:=Jr.ou J (Jp hfl.dok (gV D.aE.cr M.length)) (lf A) A.length (by show D.aE.wait.length+A.length≤1000000;have:D.aE.wait=[]:=rfl;rw [this];simp only [List.length_nil];have:=h.ok.p1;omega);obtain ⟨w1,w2,w3,w4,w5,w6,w7,w8⟩:=hwr;rw [w1] at hwk
 have hrun:eu J D true L=(0,J.done A (J.aN L.length),D'):=by
  unfold eu;rw [if_neg (by simp),if_neg (by omega),h.flush,if_neg (by simp)];unfold ue;rw [hm,← hA,if_neg (by simp),if_neg hf,w1,if_neg (by simp)]
 have hpl:=J.tU A A.length;have hposd:J.hd%(J.P:Int)=J.hd:=Int.emod_eq_of_lt h.ok.hd0 h.ok.hd1
 have hnew:∀ i:Nat,i<A.length→D'.bT ((J.hd+(i:Int))%(J.P:Int)+1)=(0,enc (J.tag i A.length (A.getD i (0,[])).1)++(A.getD i (0,[])).2):=by
  intro i hi;have:=w7 i hi;rw [hwl,(fJ _ _).1,(fJ _ _).2,nS] at this;exact this
 have hnum:=h.nums.numbers hsq
 have hq:∃ q:Int,(J.done A (J.aN L.length)).hd=J.hd+(A.length:Int)-(J.P:Int)*q:=⟨(J.hd+(A.length:Int))/(J.P:Int),by
  show (J.hd+(A.length:Int))%(J.P:Int)=_
  have:=Int.emod_add_mul_ediv (J.hd+(A.length:Int)) (J.P:Int);omega⟩
 obtain ⟨q,hq⟩:=hq
 have hinwin:∀ a:Int,J.hd-J.us+J.aN L.length≤a→a<J.hd+(A.length:Int)→∃ b:Int,(J.done A (J.aN L.length)).hd-(J.done A (J.aN L.length)).us≤b∧b<(J.done A (J.aN L.length)).hd∧a%(J.P:Int)=b%(J.P:Int):=by
  intro a a1 a2;have e:(J.done A (J.aN L.length)).us=J.us+((A.length:Int)-J.aN L.length):=rfl;refine ⟨a-(J.P:Int)*q,by rw [hq,e];omega,by rw [hq];omega,?_⟩;rw [Int.sub_mul_emod_self_left]
 refine ⟨D',by rw [hM,← hA];exact hrun,?_,?_,?_,?_⟩
 ·rw [hM,← hA]
  refine ⟨?_,?_,?_,h.br,w2,?_,p1,?_,?_,?_,?_⟩
  ·exact ⟨h.ok.p0,h.ok.p1,CY h.ok.T A A.length,by show ((J.fF A A.length).ps.length:Int)=J.n;rw [hpl.1];exact h.ok.ps,by show (J.fF A A.length).os.length=J.P;rw [hpl.2];exact h.ok.os,
    by show 0≤J.us+((A.length:Int)-J.aN L.length);omega,by show J.us+((A.length:Int)-J.aN L.length)≤(J.P:Int);omega,
    Int.emod_nonneg _ (by omega),Int.emod_lt_of_pos _ (by omega),by show 0≤J.aN L.length;omega,by show J.aN L.length≤48;omega⟩
  ·exact ⟨h.nums.ep0,h.nums.ep1,h.nums.st0,by show J.st≤J.sq+1+1;have:=h.nums.st1;omega,by show 0≤J.sq+1;have:=h.nums.sq0;omega,by show J.sq+1≤281474976710655;omega,h.nums.n1,Jr.Eu h.nums.own A A.length⟩
  ·exact hwk.ok (Jp hfl.dok _) (by show D.aE.wait.length+A.length≤1000000;have:D.aE.wait=[]:=rfl;rw [this];simp only [List.length_nil];have:=h.ok.p1;omega)
  ·rw [w3];exact hsec2
  ·show J.us+((A.length:Int)-J.aN L.length)+J.aN L.length≤(J.P:Int);omega
  ·intro p id hp
   rcases p3 p id hp with ⟨i,hi,e,_⟩|⟨h1,h2⟩
   ·rw [e];exact hinwin _ (by omega) (by omega)
   ·obtain ⟨a,a1,a2,a3⟩:=h.win p id h1
    rw [a3];refine hinwin a ?_ (by omega);refine Classical.byContradiction fun hlt=>?_;have hlt:a<J.hd-J.us+J.aN L.length:=by omega
    apply h2;rw [List.take_length];obtain ⟨i,hi⟩:∃ i:Nat,a=J.hd-J.us+(i:Int):=⟨(a-(J.hd-J.us)).toNat,by omega⟩
    have ht:told J.T.os (((Jr.tail J+i)%J.P:Nat):Int)=some id:=by rw [Aa h.ok,← hi,← a3];exact h1
    have hmem:=y7 (T:=J.T) (P:=J.P) (first:=Jr.tail J) (k:=(J.aN L.length).toNat) (i:=i) (by omega) ht;rw [hA,List.map_append,List.mem_append]
    by_cases hL:id ∈ L.map Prod.fst
    ·exact .inl hL
    ·right
     rw [hmi];exact List.mem_filter.2 ⟨List.mem_map.2 ⟨_,hmem,rfl⟩,by simpa using hL⟩
  ·intro id p hp
   have hp':told (J.fF A A.length).ps id=some p:=hp;rw [p2] at hp'
   have hupd:lH has L id=(aH A id).or (has id):=by
    rw [hA,xS];unfold lH
    cases hk:aH L id with
    | some b=>rfl
    | none=>
     cases hk2:aH M id with
     | none=>rfl
     | some b=>simp [hmh id b hk2]
   cases hf:A.findIdx? (fun y=>y.1 == id) with
   | some i=>
    rw [hf] at hp';injection hp' with hp'
    obtain ⟨i1,i2,i3⟩:=JI hf;have hmA:A.getD i (0,[]) ∈ A:=by rw [List.getD,List.getElem?_eq_getElem i1];exact List.getElem_mem _
    obtain ⟨b1,b2,b3⟩:=hA4 _ hmA;have hn3840:=h.nums.n1;refine ⟨J.tag i A.length (A.getD i (0,[])).1,(A.getD i (0,[])).2,by rw [hupd,i3];rfl,b1,by rw [← hp'];exact hnew i i1,by show (A.getD i (0,[])).1=id;exact i2,?_,Jr.CP hnum _ _ _⟩;exact Jr.Kt hnum i1 (by omega) b2 (by omega)
   | none=>
    rw [hf] at hp';simp only at hp';obtain ⟨t,b,t1,t2,t3,t4⟩:=hfl.dat id p hp';have hni:=ir.1 hf;refine ⟨t,b,by rw [hupd,fK.2 hni];exact t1,t2,?_,t4⟩;rw [w8 (p+1),Ia]
    ·exact t3
    ·intro i hi
     obtain ⟨a,a1,a2,a3⟩:=h.win p id (h.con.pq _ _ hp');have:(J.hd+(i:Int))%(J.P:Int)≠p:=by rw [a3];exact ld (by omega) (by omega)
     omega
  ·intro id hp
   have hp':told (J.fF A A.length).ps id=none:=hp;rw [p2] at hp'
   cases hf:A.findIdx? (fun y=>y.1 == id) with
   | some i=>rw [hf] at hp';cases hp'
   | none=>
    rw [hf] at hp';have hni:=ir.1 hf;rw [hA,List.map_append,List.mem_append] at hni;unfold lH;rw [fK.2 (fun q=>hni (.inl q)),h.non id hp']
    rfl
 ·rw [hM,w4]
  show gV D.aE.cr _=_
  rw [(aU D).1]
 ·rw [hM,w6,← hAlen]
  show gV D.aE.cw _=_
  rw [(aU D).2.1]
 ·rw [w5]
  exact (aU D).2.2.1
def lF (T:Tb) (P first k:Nat):Nat:=(bL T P first k).length
theorem qQ (T:Tb) (P first k:Nat):lF T P first (k+1)=lF T P first k+(if (told T.os (((first+k)%P:Nat):Int)).isSome then 1 else 0):=by
 unfold lF;rw [pR,List.length_append];cases told T.os (((first+k)%P:Nat):Int) <;> simp
theorem oq (T:Tb) (P first k:Nat):lF T P first k≤k:=jG _ _ _ _
def qh (J:Jr):Prop:=∀ k:Nat,(k:Int)≤J.us→2*J.us-(k:Int)+2*(lF J.T J.P (Jr.tail J) k:Int)≤5*J.n
theorem zR {l:List Int} {n:Nat} (h:l.Nodup) (hl:∀ x ∈ l,0≤x∧x<n):l.length≤n:=by
 have:=tM (m:=(List.range n).map fun i:Nat=>(i:Int)) h fun x hx=>by
  obtain ⟨h0,h1⟩:=hl x hx;exact List.mem_map.2 ⟨x.toNat,List.mem_range.2 (by omega),Int.toNat_of_nonneg h0⟩
 simpa using this
structure QW (J:Jr) (L A:Bl):Prop where
 b:∀ x ∈ A,x.2.length=480∧0≤x.1∧x.1<J.n
 nd:(A.map Prod.fst).Nodup
theorem Py {J:Jr} {D:ay} {has:Has} (h:fg J D has) {L:Bl} (hb:Batch J.n L):QW J L (L++iD J has L):=by
 have hc:=Jr.e7 h.ok.us0 L.length;have hX:=qg h (J.aN L.length).toNat;have hmi:(iD J has L).map Prod.fst=((bL J.T J.P (Jr.tail J) (J.aN L.length).toNat).map Prod.fst).filter fun id=>decide (id ∉ L.map Prod.fst):=Db has L _;have hm4:=sS h (zA L) _ hX;have hus1:=h.ok.us1;refine ⟨?_,?_⟩
 ·intro x hx
  rcases List.mem_append.1 hx with hx|hx
  ·exact ⟨hb.b480 x hx,hb.id x hx⟩
  ·exact hm4 x hx
 ·rw [List.map_append,List.nodup_append]
  refine ⟨hb.nd,?_,?_⟩
  ·rw [hmi]
   exact (jX h.con _ (by omega)).filter _
  ·intro a ha b hb' e
   rw [hmi] at hb';have:=(List.mem_filter.1 hb').2;rw [← e] at this;simp only [decide_eq_true_eq] at this;exact this ha
theorem y8 {J:Jr} {D:ay} {has:Has} (h:fg J D has) {L:Bl} (hb:Batch J.n L) (hf:¬ (J.P:Int)-J.us-J.fr<((L++iD J has L).length:Int)) :
  PD J (L++iD J has L) (L++iD J has L).length:=by
 have ha:=Py h hb;have hus0:=h.ok.us0;have hfr0:=h.ok.fr0;generalize L++iD J has L=A at ha hf ⊢;refine PK J h.ok h.con A (fun x hx=>(ha.b x hx).2) ha.nd (by omega) ?_ A.length (Nat.le_refl _);intro i hi
 cases ht:told J.T.os ((J.hd+(i:Int))%(J.P:Int)) with
 | none=>rfl
 | some id=>
  obtain ⟨a,a1,a2,a3⟩:=h.win _ _ ht;exact absurd a3 (ld (by omega) (by omega))
theorem IB (J:Jr) (has:Has) (L:Bl):(iD J has L).length≤lF J.T J.P (Jr.tail J) (J.aN L.length).toNat:=by
 unfold iD xP lF;rw [List.length_map];exact List.length_filter_le _ _
theorem B5 {J:Jr} {D:ay} {has:Has} (h:fg J D has) (hB:qh J) (hP:5*J.n+240≤2*(J.P:Int)) {L:Bl} (hb:Batch J.n L) :
  ¬ (J.P:Int)-J.us-J.fr<((L++iD J has L).length:Int):=by
 have hc:=Jr.e7 h.ok.us0 L.length;have hml:=zE J has L h.ok.us0;have hn1:=hb.n1;have hfr1:=h.ok.fr1;have h0:=hB 0 (by have:=h.ok.us0;omega);have e0:lF J.T J.P (Jr.tail J) 0=0:=by have:=oq J.T J.P (Jr.tail J) 0;omega
 rw [e0] at h0;rw [List.length_append];omega
theorem Gp {T T':Tb} {P f f' c:Nat}:∀ k:Nat,(∀ i,i<k→(told T'.os (((f'+i)%P:Nat):Int)).isSome=true→(told T.os (((f+(c+i))%P:Nat):Int)).isSome=true)→lF T' P f' k+lF T P f c≤lF T P f (c+k):=by
 intro k
 induction k with
 | zero=>intro _;have:=oq T' P f' 0;simp only [Nat.add_zero];omega
 | succ k ih=>
  intro h;have:=ih fun i hi=>h i (by omega);have hk:=h k (by omega);rw [← Nat.add_assoc,qQ,qQ];generalize (told T'.os (((f'+k)%P:Nat):Int)).isSome=b at hk ⊢
  cases b with
  | false=>simp only [Bool.false_eq_true,if_false];omega
  | true=>rw [hk rfl];omega
theorem F7 (T:Tb) (P f a:Nat):∀ x,lF T P f (a+x)≤lF T P f a+x:=by
 intro x
 induction x with
 | zero=>exact Nat.le_refl _
 | succ x ih=>rw [← Nat.add_assoc,qQ];split <;> omega
theorem Bt {J:Jr} {D:ay} {has:Has} (h:fg J D has) (hB:qh J) {L:Bl} (hb:Batch J.n L) (hf:¬ (J.P:Int)-J.us-J.fr<((L++iD J has L).length:Int)) :
  qh (J.done (L++iD J has L) (J.aN L.length)):=by
 have ha:=Py h hb;have hpk:=y8 h hb hf;have hc:=Jr.e7 h.ok.us0 L.length;have hmc:=IB J has L;have hfr0:=h.ok.fr0;have hps:=h.ok.ps;have hbk:=hb.n0;generalize hM:iD J has L=M at *;have hAl:(L++M).length=L.length+M.length:=List.length_append;generalize hA:L++M=A at *;obtain ⟨c,hcc⟩:∃ c:Nat,J.aN L.length=(c:Int):=⟨(J.aN L.length).toNat,by omega⟩
 have hcdef:(c:Int)=if J.us<2*(L.length:Int) then J.us else 2*(L.length:Int):=by rw [← hcc];rfl
 rw [hcc,Int.toNat_natCast] at hmc;rw [hcc] at hc ⊢;obtain ⟨s,hs⟩:∃ s:Nat,J.us=(c:Int)+(s:Int):=⟨(J.us-c).toNat,by omega⟩
 have hJ':(J.done A c).us=(s:Int)+(A.length:Int):=by show J.us+((A.length:Int)-c)=_;omega
 have hn':(J.done A c).n=J.n:=rfl;have hP':(J.done A c).P=J.P:=rfl;have hT':(J.done A c).T=J.fF A A.length:=rfl
 -- a place of the new ring,by the oz one
 have hpos:∀ i:Nat,(((Jr.tail (J.done A c)+i)%J.P:Nat):Int)=(J.hd-J.us+(c:Int)+(i:Int))%(J.P:Int):=by
  intro i;unfold Jr.tail;have hhd:(J.done A c).hd=(J.hd+(A.length:Int))%(J.P:Int):=rfl;rw [hJ',hP',hhd,Int.natCast_emod,Int.natCast_add,Int.toNat_of_nonneg (Int.emod_nonneg _ (by omega)),Int.emod_add_emod];have e1:=Int.emod_add_mul_ediv (J.hd+(A.length:Int)) (J.P:Int);generalize (J.hd+(A.length:Int))%(J.P:Int)=x at e1;generalize (J.hd+(A.length:Int))/(J.P:Int)=y at e1;rw [show x-((s:Int)+(A.length:Int))+(i:Int)=J.hd-J.us+(c:Int)+(i:Int)-(J.P:Int)*y by omega,Int.sub_mul_emod_self_left]
 have hold:∀ (i:Nat) (x:Int),i<s→told (J.fF A A.length).os (((Jr.tail (J.done A c)+i)%J.P:Nat):Int)=some x→told J.T.os (((Jr.tail J+(c+i))%J.P:Nat):Int)=some x∧x ∉ A.map Prod.fst:=by
  intro i x hi hx;rw [hpos] at hx;rw [Aa h.ok,Int.natCast_add,← Int.add_assoc];rcases hpk.os _ _ hx with ⟨k,hk,e,_⟩|⟨e1,e2⟩
  ·exact absurd e.symm (ld (by omega) (by omega))
  ·rw [List.take_length] at e2;exact ⟨e1,e2⟩
 have hmono:∀ k,k≤s→lF (J.fF A A.length) J.P (Jr.tail (J.done A c)) k+lF J.T J.P (Jr.tail J) c≤lF J.T J.P (Jr.tail J) (c+k):=fun k hk=>Gp k fun i hi hx=>by
  obtain ⟨x,hx⟩:=Option.isSome_iff_exists.1 hx;rw [(hold i x (by omega) hx).1];rfl
 -- those that are live,and the new ones,are blocks
 have hall:lF (J.fF A A.length) J.P (Jr.tail (J.done A c)) s+A.length≤J.T.ps.length:=by
  have hnd:(((bL (J.fF A A.length) J.P (Jr.tail (J.done A c)) s).map Prod.fst)++A.map Prod.fst).Nodup:=by
   rw [List.nodup_append];refine ⟨jX hpk.con s (by omega),ha.nd,?_⟩;intro a ha' b hb' e;obtain ⟨y,hy,rfl⟩:=List.mem_map.1 ha';obtain ⟨i,hi,y1,y2⟩:=jK hy;rw [y1] at y2;rw [e] at y2;exact (hold i _ hi y2).2 hb'
  have:=zR (n:=J.T.ps.length) hnd fun x hx=>by
   rcases List.mem_append.1 hx with hx|hx
   ·obtain ⟨y,hy,rfl⟩:=List.mem_map.1 hx
    obtain ⟨i,hi,y1,y2⟩:=jK hy;have:=jh (hpk.con.qp _ _ y2);have hl:=(J.tU A A.length).1;exact ⟨this.1,by have:=this.2.1;omega⟩
   ·obtain ⟨y,hy,rfl⟩:=List.mem_map.1 hx
    have:=(ha.b y hy).2;exact ⟨this.1,by have:=this.2;omega⟩
  rw [List.length_append,List.length_map,List.length_map] at this;exact this
 intro k hk;rw [hJ',hn',hP',hT'] at *;have hB0:=hB 0 (by omega);have e0:lF J.T J.P (Jr.tail J) 0=0:=by have:=oq J.T J.P (Jr.tail J) 0;omega
 rw [e0] at hB0
 by_cases hks:k≤s
 ·have hm1:=hmono k hks
  have hB1:=hB (c+k) (by omega);have hkl:=oq (J.fF A A.length) J.P (Jr.tail (J.done A c)) k
  split at hcdef <;> omega
 ·obtain ⟨x,hx⟩:∃ x,k=s+x:=⟨k-s,by omega⟩
  have hst:=F7 (J.fF A A.length) J.P (Jr.tail (J.done A c)) s x;rw [← hx] at hst;have hBc:=hB c (by omega)
  split at hcdef <;> omega
end Go.Nn

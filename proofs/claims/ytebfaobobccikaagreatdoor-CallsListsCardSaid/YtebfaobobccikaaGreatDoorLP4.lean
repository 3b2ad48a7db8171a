/- Steps. -/
import Derived.Test.YtebfaobobccikaaGreatDoorLP3
import Derived.Recover
import Derived.LaidEqlPtr
set_option linter.all false
set_option maxRecDepth 99999
set_option maxHeartbeats 0
open Go.SL
open Go.Value renaming int->U,slice->L,pointer->W,tuple->Z',bool->Q
open Go.IntKind renaming i64->O
open Go.Obj renaming cells->V
open Go.Ending renaming returned->K
open Go renaming World->R,Value->N
open Go.Proofs.Tryz renaming prog->X
open Option renaming some->Y,none->Z
open Bool renaming true->P,false->M
open Go.Proofs.Tryz
open Nat renaming le_trans->D0
namespace Go.Proofs.Ba
open RowKit SL
def Sy (m:Nat) (b:KV) (c:Int) (F:ai) (w:R) (e:Ending) (u:FrameMode) (a:R):Prop:=
 e = K (Z' #[])/\u = .returning/\ag a (mp m (del b c)*F)/\aj w a
theorem sN (w:R) (d e p q:Addr) (b m:Nat) (a:Int) (g:KV) (F:ai) (h:ag w (mp m g*F))
    (j:w.cell? d=Y (W (Y ⟨b,0,Z⟩))) (k:w.cell? e=Y (U O a)) (l:w.cell? ⟨b,6,Z⟩=Y (.map (Y m))) :
    CallsD X 267 #[W (Y d),W (Y e),W (Y p),W (Y q)] .returning w (Sy m g a F w):=by
  obtain ⟨y,x,n,r,c⟩:=ag.delete (P:=X) underlying100 underlying3 0 3 (w:=w.drew) h a;have t:=(c.1 _).trans j;have u:=(c.1 _).trans k;have v:=(c.1 _).trans l;refine callsD_of_wpS func267 rfl fun i s o=>?_;apply wpS_seq;refine wpS_of_wp ?_
  simp only [ntmps267,List.size_toArray,List.length_cons,List.length_nil,Nat.reduceAdd,Nat.reduceSub,Array.replicate_succ,
     Array.replicate_zero,List.push_toArray,List.append_toArray,List.nil_append,List.cons_append]
  go_region_held3 (fun f=>f.cell? d=Y (W (Y ⟨b,0,Z⟩))/\f.cell? e=Y (U O a)/\f.cell? ⟨b,6,Z⟩=Y (.map (Y m))) (go_keep) (fail)
  apply wpS_seq;apply wpS_region;simp [wpOpsS,go_sem,recoverD,o,Exit.thenS];refine wpS_cond (t:=M) (by simp [Act.eval]) ?_;refine wpS_of_wp (wp_skip ?_);cases i
  simp_all [bodyPostS,results,Tryz.results267]
  exact ⟨rfl,rfl,n,(aj.refl w).drew.trans r⟩
def oq (A:Int × List UInt8) (c F:ai) (w:R) (e:Ending) (b:R):Prop:=
 ∃ a,e = K (Z' #[a,U O A.1])/\ag b (pN 5 A a*(c*F))/\aj w b
def Q7 (b:Nat) (rd:N) (g:Int) (x:Bx) (A:Int × List UInt8) (f F:ai) (w:R) (e:Ending) (d:R):Prop:=
 ∃ c a,e = K (Z' #[c,U O A.1])/\aj w d /\
  ag d (pt b (V (({ x with av:=a }:Bx).cells rd g) 176 (0,0))*(fy a*(pN 5 A c*(f*F))))
theorem Lt (w:R) (b:Nat) (T:TypeId) (g:N) (o:FuncId) (S c:Int) (x:Bx) (A:Int × List UInt8) (s t F:ai) (m:Nat) (q:x.av = .map (Y m))
  (rr:N) (j:R->Prop) (hM:∀ (F:ai) (w:R),ag w (s*F)->j w) (c0:∀ (F:ai) (w:R),ag w (t*F)->j w)
  (hm:∀ (g0:Nat) (w:R),j w->(method (g0+1) T g "Read").run X w = .ok (o,rr) w)
  (mT:∀ (args:Array N) (w:R),(callFunc o args).run X w = .ok (.enter o args) w)
  (hR:∀ (F:ai) (w:R),ag w (s*F)->Calls X o #[rr,U O c] w (oq A t F w))
  (h:ag w (pt b (V (x.cells (.iface T g) S) 176 (0,0))*(mp m []*(s*F)))) :
  Calls X 243 #[W (Y ⟨b,0,Z⟩),U O c] w (Q7 b (.iface T g) S x A t F w):=by
 have j0:w.cell? ⟨b,0,Z⟩=Y (.iface T g):=h.cell 0;have k0:b<w.heap.size:=h.lt;have n2:b<w.heap.size+1+1:=by omega
 have HR:=ae hR;have HM:=ae hM;have r:=ae c0;clear hR hM c0
 go_enter_defers func243,ntmps243
 go_wp2
 have e:=(((h.alloc (V #[W (Y ⟨b,0,Z⟩)] 70 (0,0))).alloc (V #[U O c] 3 (0,0))).alloc (V #[L Z 0 0] 22 (0,0))).alloc (V #[U O 0] 28 (0,0));simp only [World.size_alloc] at e;have J:=((((aj.refl w).alloc (V #[W (Y ⟨b,0,Z⟩)] 70 (0,0))).alloc (V #[U O c] 3 (0,0))).alloc (V #[L Z 0 0] 22 (0,0))).alloc (V #[U O 0] 28 (0,0));generalize ((((w.alloc (V #[W (Y ⟨b,0,Z⟩)] 70 (0,0))).alloc (V #[U O c] 3 (0,0))).alloc (V #[L Z 0 0] 22 (0,0))).alloc (V #[U O 0] 28 (0,0)))=w4 at e J ⊢;clear j0 h n2;generalize w.heap.size=n at e k0 ⊢
 have v:=e.aD.cell 0;have y:=e.aw.cell 0;have u:=(e.aM.cell 6).trans (congrArg Y q);obtain ⟨o0,m0,d0,_⟩:=e.dI.mY
 have hl:∀ a,a.heap[m]?=Y o0->(Instr.lookup 100 (.map (Y m)) (U O c) P).run X a = .ok (Z' #[.agg #[],Q M]) a:=fun a hw=>
  iB (P:=X) underlying100 underlying3 (by kernel_rfl) hw m0 c P
 go_region_held3 (fun a=>a.cell? ⟨n,0,Z⟩=Y (W (Y ⟨b,0,Z⟩))/\a.cell? ⟨n+1,0,Z⟩=Y (U O c)/\a.cell? ⟨b,6,Z⟩=Y (.map (Y m))/\a.heap[m]?=Y o0)
  (refine ⟨?_,?_,?_,?_⟩ <;> first|exact d0|exact Ga d0 _|go_keep) (fail)
 all_goals
  have f:=(e.alloc (V #[] 202 (0,0))).right;have l:=J.alloc (V #[] 202 (0,0));generalize f0:(w4.alloc (V #[] 202 (0,0))).drew=H;replace f:ag H _:=f0▸f.drew;replace l:aj w H:=f0▸l.drew;have v:=f.aD.cell 0;have y:=f.aw.cell 0;have u:=(f.aM.cell 6).trans (congrArg Y q);have l0:=fun w=>run_eql_map_nil (P:=X) w 100 3 202 (Y m) underlying100
  go_wp2
  clear l0;obtain ⟨I,n0,i,z,k⟩:=ag.mapUpdate (P:=X) underlying100 underlying3 (w:=H.drew) f.dI c (.agg #[]);have e2:=(k.1 _).trans v;have e3:=(k.1 _).trans y;have e6:=(k.1 _).trans u;clear k
  go_region_held3 (fun a=>a.cell? ⟨n,0,Z⟩=Y (W (Y ⟨b,0,Z⟩))/\a.cell? ⟨n+1,0,Z⟩=Y (U O c)/\a.cell? ⟨b,6,Z⟩=Y (.map (Y m)))
   (go_keep) (fail)
  replace z:aj w I:=(l.drew).trans z;clear n0 f l v y u e6;have e0:I.cell? ⟨b,0,Z⟩=Y (.iface T g):=i.dI.cell 0;replace i:=i.JQ
  go_wp2
  have q5:¬ (n+1+1=n):=by omega
  have q6:¬ (n+1+1+1=n):=by omega
  have q7:¬ (n+1+1=b):=by omega
  have q8:¬ (n+1+1+1=b):=by omega
  go_region_held3 (fun a=>a.cell? ⟨n,0,Z⟩=Y (W (Y ⟨b,0,Z⟩))/\a.cell? ⟨n+1,0,Z⟩=Y (U O c)/\a.cell? ⟨b,0,Z⟩=Y (.iface T g)/\j a)
   (refine ⟨?_,?_,?_,?_⟩ <;> first|exact HM.out _ _ i.bZ|exact r.out _ _ d.ah|exact r.out _ _ (d.aD.setCell 0 _).sK.ah|exact r.out _ _ ((d.aD.setCell 0 _).sK.aw.setCell 0 _).yn.ah|go_keep) ((refine (HR.out _ I.drew i.bZ).mono ?_;rintro h0 w7 ⟨dv,rfl,d,d7⟩;have G:=ag.AX d;obtain ⟨B,D,C,G⟩:=G;subst G;have g2:=d.dI.cell 0;have g3:=d.aM.cell 0;have gb:=d.bZ.cell 0;have gd:=d.aD.cell 0;have ge:=d.aw.cell 0;have fd:=d.aD.frozen 0;have fe:=d.aw.frozen 0;simp [Bx.cells] at g2 g3 gb gd ge))
  go_wp2
  have p:=((d.aD.setCell 0 (L B D C)).sK.aw.setCell 0 (U O A.1)).yn;refine leaves_cons (f:=267) (args:=#[W (Y ⟨n,0,Z⟩),W (Y ⟨n+1,0,Z⟩),W (Y ⟨n+1+1,0,Z⟩),W (Y ⟨n+1+1+1,0,Z⟩)]) (by simp) (by simp [go_sem]) ?_;refine (sN _ ⟨n,0,Z⟩ ⟨n+1,0,Z⟩ _ _ b m c _ _ p.eu (p.dI.cell 0) (p.aM.cell 0) ((p.bZ.cell 6).trans (congrArg Y q))).mono ?_;rintro h0 p0 w9 ⟨rfl,rfl,E,d9⟩;have b0:=E.Qj;have r4:=b0.aD.cell 0;have r5:=b0.aw.cell 0;refine ⟨Z' #[L B D C,U O A.1],?_,?_⟩
  .simp [results,Tryz.results243,go_sem,r4,r5]
  .refine ⟨L B D C,.map (Y m),rfl,(z.drew.trans d7).trans (((aj.refl w7).setCell _ _).setCell _ _ |>.trans d9),?_⟩
   have hx:({ x with av:=Value.map (Y m) }:Bx)=x:=by rw [<- q]
   rw [hx];have hd:del (fw ([]:KV) c (.agg #[])) c=[]:=by simp [del,fw,aP]
   rw [hd] at E;have i0:=E.fp (Q:=fy (.map (Y m))) fun g0 hk=>.inr ⟨m,rfl,hk⟩;exact i0.kD.kD.kD.kD.aD
theorem L7 (w:R) (b:Nat) (T:TypeId) (i:N) (C:FuncId) (b0 a:Int) (x:Bx) (A:Int × List UInt8) (G H F:ai) (h0:x.av = .map Z)
  (rr:N) (t:R->Prop) (hM:∀ (F:ai) (w:R),ag w (G*F)->t w) (g0:∀ (F:ai) (w:R),ag w (H*F)->t w)
  (hm:∀ (i0:Nat) (w:R),t w->(method (i0+1) T i "Read").run X w = .ok (C,rr) w)
  (mT:∀ (args:Array N) (w:R),(callFunc C args).run X w = .ok (.enter C args) w)
  (hR:∀ (F:ai) (w:R),ag w (G*F)->Calls X C #[rr,U O a] w (oq A H F w))
  (h:ag w (pt b (V (x.cells (.iface T i) b0) 176 (0,0))*(G*F))) :
  Calls X 243 #[W (Y ⟨b,0,Z⟩),U O a] w (Q7 b (.iface T i) b0 x A H F w):=by
 have s0:=nr X;have m0:w.cell? ⟨b,0,Z⟩=Y (.iface T i):=h.cell 0;have o0:b<w.heap.size:=h.lt;have n1:b<w.heap.size+1:=by omega
 have n2:b<w.heap.size+1+1:=by omega
 have n3:b<w.heap.size+1+1+1:=by omega
 have HR:=ae hR;have HM:=ae hM;have E:=ae g0;clear hR hM g0
 go_enter_defers func243,ntmps243
 go_wp2
 have g:=(((h.alloc (V #[W (Y ⟨b,0,Z⟩)] 70 (0,0))).alloc (V #[U O a] 3 (0,0))).alloc (V #[L Z 0 0] 22 (0,0))).alloc (V #[U O 0] 28 (0,0));simp only [World.size_alloc] at g;have I:=((((aj.refl w).alloc (V #[W (Y ⟨b,0,Z⟩)] 70 (0,0))).alloc (V #[U O a] 3 (0,0))).alloc (V #[L Z 0 0] 22 (0,0))).alloc (V #[U O 0] 28 (0,0));generalize ((((w.alloc (V #[W (Y ⟨b,0,Z⟩)] 70 (0,0))).alloc (V #[U O a] 3 (0,0))).alloc (V #[L Z 0 0] 22 (0,0))).alloc (V #[U O 0] 28 (0,0)))=r at g I ⊢;clear m0 h n1 n2 n3;generalize w.heap.size=n at g o0 ⊢
 have k:r.cell? ⟨n,0,Z⟩=Y (W (Y ⟨b,0,Z⟩)):=g.aD.cell 0;have l:r.cell? ⟨n+1,0,Z⟩=Y (U O a):=g.aw.cell 0;have j:r.cell? ⟨b,6,Z⟩=Y (.map Z):=(g.aM.cell 6).trans (congrArg Y h0)
 have hl:∀ d,(Instr.lookup 100 (.map Z) (U O a) P).run X d = .ok (Z' #[.agg #[],Q M]) d:=fun d=>
  kg (P:=X) underlying100 underlying3 (by kernel_rfl) a P
 go_region_held3 (fun d=>d.cell? ⟨n,0,Z⟩=Y (W (Y ⟨b,0,Z⟩))/\d.cell? ⟨n+1,0,Z⟩=Y (U O a)/\d.cell? ⟨b,6,Z⟩=Y (.map Z))
  (go_keep) (fail)
 all_goals
  have c:=(g.alloc (V #[] 202 (0,0))).right;have v:=I.alloc (V #[] 202 (0,0));change Exit.then _ _ _ _ (r.alloc (V #[] 202 (0,0))).drew
  generalize d0:(r.alloc (V #[] 202 (0,0))).drew=f;replace c:ag f _:=d0▸c.drew;replace v:aj w f:=d0▸v.drew;clear d0 hl k l j g I;have k:f.cell? ⟨n,0,Z⟩=Y (W (Y ⟨b,0,Z⟩)):=c.aD.cell 0;have l:f.cell? ⟨n+1,0,Z⟩=Y (U O a):=c.aw.cell 0;have j:f.cell? ⟨b,6,Z⟩=Y (.map Z):=(c.aM.cell 6).trans (congrArg Y h0);have q0:=fun w=>run_eql_map_nil (P:=X) w 100 3 202 Z underlying100;have n0:f.frozen? ⟨b,6,Z⟩=M:=c.aM.frozen 6;have p0:=@run_makeMap X;have l0:b<f.heap.size:=c.aM.lt
  go_wp2
  clear q0 p0 n0;have p:=(c.aM.setCell 6 (.map (Y f.heap.size))).alloc (.map #[] 0);rw [World.size_setCell] at p;have J:=(v.setCell ⟨b,6,Z⟩ (.map (Y f.heap.size))).alloc (.map #[] 0);generalize (f.setCell ⟨b,6,Z⟩ (.map (Y f.heap.size))).alloc (.map #[] 0)=s at p J ⊢;generalize f.heap.size=m at p ⊢;clear c v k l j l0
  have c:=(p.tD isMap_empty).JQ.yh;clear p;change ag s (pt (n+1+1+1) _*(pt (n+1+1) _*(pt (n+1) _*(pt n _*(pt b (V (({ x with av:=.map (Y m) }:Bx).cells (.iface T i) b0) 176 (0,0))*_))))) at c;have k:s.cell? ⟨n,0,Z⟩=Y (W (Y ⟨b,0,Z⟩)):=c.aD.cell 0;have l:s.cell? ⟨n+1,0,Z⟩=Y (U O a):=c.aw.cell 0;have j:s.cell? ⟨b,6,Z⟩=Y (.map (Y m)):=c.aM.cell 6;obtain ⟨o,r0,q,S,u⟩:=ag.mapUpdate (P:=X) underlying100 underlying3 (w:=s.drew) c.dI a (.agg #[]);have e2:o.cell? ⟨n,0,Z⟩=Y (W (Y ⟨b,0,Z⟩)):=(u.1 _).trans k;have e3:o.cell? ⟨n+1,0,Z⟩=Y (U O a):=(u.1 _).trans l;have e6:o.cell? ⟨b,6,Z⟩=Y (.map (Y m)):=(u.1 _).trans j;clear u
  go_region_held3 (fun d=>d.cell? ⟨n,0,Z⟩=Y (W (Y ⟨b,0,Z⟩))/\d.cell? ⟨n+1,0,Z⟩=Y (U O a)/\d.cell? ⟨b,6,Z⟩=Y (.map (Y m)))
   (go_keep) (fail)
  replace S:aj w o:=(J.drew).trans S;clear r0 c J k l j e6;have e0:o.cell? ⟨b,0,Z⟩=Y (.iface T i):=q.dI.cell 0;replace q:=q.JQ
  go_wp2
  have q1:¬ (n=n+1+1):=by omega
  have q2:¬ (n=n+1+1+1):=by omega
  have q3:¬ (b=n+1+1):=by omega
  have q4:¬ (b=n+1+1+1):=by omega
  have q5:¬ (n+1+1=n):=by omega
  have q6:¬ (n+1+1+1=n):=by omega
  have q7:¬ (n+1+1=b):=by omega
  have q8:¬ (n+1+1+1=b):=by omega
  go_region_held3 (fun d=>d.cell? ⟨n,0,Z⟩=Y (W (Y ⟨b,0,Z⟩))/\d.cell? ⟨n+1,0,Z⟩=Y (U O a)/\d.cell? ⟨b,0,Z⟩=Y (.iface T i)/\t d)
   (refine ⟨?_,?_,?_,?_⟩ <;> first|exact HM.out _ _ q.bZ|exact E.out _ _ e.ah|exact E.out _ _ (e.aD.setCell 0 _).sK.ah|exact E.out _ _ ((e.aD.setCell 0 _).sK.aw.setCell 0 _).yn.ah|go_keep) ((refine (HR.out _ o.drew q.bZ).mono ?_;rintro j0 w7 ⟨dv,rfl,e,d7⟩;have c0:=ag.AX e;obtain ⟨y,B,z,c0⟩:=c0;subst c0;have g2:=e.dI.cell 0;have g3:=e.aM.cell 0;have gb:=e.bZ.cell 0;have gd:=e.aD.cell 0;have ge:=e.aw.cell 0;have fd:=e.aD.frozen 0;have fe:=e.aw.frozen 0;simp [Bx.cells] at g2 g3 gb gd ge))
  clear g2 g3 gb gd ge fd fe e0 e2 e3
  go_wp2
  have D:=((e.aD.setCell 0 (L y B z)).sK.aw.setCell 0 (U O A.1)).yn;refine leaves_cons (f:=267) (args:=#[W (Y ⟨n,0,Z⟩),W (Y ⟨n+1,0,Z⟩),W (Y ⟨n+1+1,0,Z⟩),W (Y ⟨n+1+1+1,0,Z⟩)]) (by simp) (by simp [go_sem]) ?_;refine (sN _ ⟨n,0,Z⟩ ⟨n+1,0,Z⟩ _ _ b m a _ _ D.eu (D.dI.cell 0) (D.aM.cell 0) (D.bZ.cell 6)).mono ?_;rintro j0 u0 w9 ⟨rfl,rfl,h9,d9⟩;have f0:=h9.Qj;have r4:w9.cell? ⟨n+1+1,0,Z⟩=Y (L y B z):=f0.aD.cell 0;have r5:w9.cell? ⟨n+1+1+1,0,Z⟩=Y (U O A.1):=f0.aw.cell 0;refine ⟨Z' #[L y B z,U O A.1],?_,?_⟩
  .simp [results,Tryz.results243,go_sem,r4,r5]
  .refine ⟨L y B z,.map (Y m),rfl,(S.drew.trans d7).trans (((aj.refl w7).setCell _ _).setCell _ _ |>.trans d9),?_⟩
   have hd:del (fw ([]:KV) a (.agg #[])) a=[]:=by simp [del,fw,aP]
   rw [hd] at h9;have k0:=h9.fp (Q:=fy (.map (Y m))) fun i0 hk=>.inr ⟨m,rfl,hk⟩;exact k0.kD.kD.kD.kD.aD
theorem Fq (w:R) (b:Nat) (T:TypeId) (l:N) (f:FuncId) (n o:Int) (x:Bx) (A:Int × List UInt8) (i j F:ai)
  (r:N) (g:R->Prop) (y:∀ (F:ai) (w:R),ag w (i*F)->g w) (z:∀ (F:ai) (w:R),ag w (j*F)->g w)
  (C:∀ (k:Nat) (w:R),g w->(method (k+1) T l "Read").run X w = .ok (f,r) w)
  (D:∀ (t:Array N) (w:R),(callFunc f t).run X w = .ok (.enter f t) w)
  (B:∀ (F:ai) (w:R),ag w (i*F)->Calls X f #[r,U O o] w (oq A j F w))
  (h:ag w (pt b (V (x.cells (.iface T l) n) 176 (0,0))*(fy x.av*(i*F)))) :
  Calls X 243 #[W (Y ⟨b,0,Z⟩),U O o] w (Q7 b (.iface T l) n x A j F w):=by
 obtain ⟨k,a,u,J,p,⟨G,v,I,q,E,rfl⟩,d,rfl⟩:=h;rcases I with ⟨s,rfl⟩|⟨m,s,H⟩
 .refine L7 w b T l f n o x A i j F s r g y z C D B ⟨_,a,u,v,p,q,?_,?_⟩
  .intro c;rcases d c with e|e
   .exact .inl e
   .right;simpa [join] using e
  .funext c;simp [join]
 .exact Lt w b T l f n o x A i j F m s r g y z C D B ⟨_,a,u,_,p,⟨G,v,H,q,E,rfl⟩,d,rfl⟩
def ny (b:Nat) (S:Hp) (rd:N) (A:Int × List UInt8) (g:Int) (f D:CB) (F:ai) (w:R) (e:Ending) (d:R):Prop:=
 ∃ a c,Ext S a/\e = K (Z' #[c,U O A.1])/\ag d (pN 5 A c*(aB 176 5 a b rd g f D*(aq a*F)))/\aj w d
theorem fX (w:R):(zeroValue 22).run X w = .ok (L Z 0 0) w:=by kernel_rfl
theorem Ma (w:R) (S:Hp) (b:Nat) (rd:N) (a:Int) (c D:CB) (f:Int) (F:ai)
  (h:ag w (aB 176 5 S b rd a c D*(aq S*F))) (d:a≠0) :
  Calls X 204 #[W (Y ⟨b,0,Z⟩),U O f] w (ny b S rd (a,[]) a c D F w):=by
 obtain ⟨x,e⟩:=h.eh;have i:w.cell? ⟨b,1,Z⟩=Y (U O a):=e.cell 1;have j:(a != 0)=P:=by simpa using d
 go_enter func204,ntmps204
 go_wp2
 go_region_held3 (fun g=>g.cell? ⟨b,1,Z⟩=Y (U O a)) (go_keep) (fail)
 go_wp2
 go_ret2
 exact ⟨S,_,Ext.refl S,rfl,ag.jv h.drew d,(aj.refl w).drew⟩
theorem QD (w:R) (S:Hp) (b:Nat) (rd:N) (a D:CB) (f:Int) (l:List UInt8) (F:ai)
  (h:ag w (aB 176 5 S b rd 0 a D*(aq S*F))) (c:aP a f=Y l) :
  Calls X 204 #[W (Y ⟨b,0,Z⟩),U O f] w (ny b S rd (0,l) 0 a D F w):=by
 obtain ⟨x,d⟩:=h.eh;have s:w.cell? ⟨b,1,Z⟩=Y (U O 0):=d.cell 1;have t:w.cell? ⟨b,2,Z⟩=Y x.wv:=d.cell 2;have r:((0:Int) != 0)=M:=by decide
 obtain ⟨q,u,i⟩:=((d.to (by ac_rfl:_=aQ 5 S x.wv x.ws a*(aq S*(pt b (V (x.cells rd 0) 176 (0,0))*(aQ 5 S x.tv x.ts D*(fy x.av*F)))))).j5 (P:=X) underlying172 underlying3 (fX w) f).2 l c;have g:=i.rd (h.to (aG _ _ _));have p:=ae c;have j:=ae g;have k:Hid (l.length<=1000000000):=D0 i.1 (by decide);clear c g
 go_enter func204,ntmps204
 go_wp2_with (go_at_call 188;refine (jN _ _ l j.out k).mono ?_;rintro e v ⟨n,rfl,m,o⟩)
 go_ret2
 exact ⟨S,n,Ext.refl S,rfl,(m.under h).te,o⟩
theorem QW (w:R) (S:Hp) (b:Nat) (rd:N) (a D:CB) (d:Int) (l:List UInt8) (F:ai)
  (h:ag w (aB 176 5 S b rd 0 a D*(aq S*F))) (g:aP a d=Z) (f:aP D d=Y l) :
  Calls X 204 #[W (Y ⟨b,0,Z⟩),U O d] w (ny b S rd (0,l) 0 a D F w):=by
 obtain ⟨x,c⟩:=h.eh;have t:w.cell? ⟨b,1,Z⟩=Y (U O 0):=c.cell 1;have u:w.cell? ⟨b,2,Z⟩=Y x.wv:=c.cell 2;have v:w.cell? ⟨b,4,Z⟩=Y x.tv:=c.cell 4;have s:((0:Int) != 0)=M:=by decide
 have y:=((c.to (by ac_rfl:_=aQ 5 S x.wv x.ws a*(aq S*(pt b (V (x.cells rd 0) 176 (0,0))*(aQ 5 S x.tv x.ts D*(fy x.av*F)))))).j5 (P:=X) underlying172 underlying3 (fX w) d).1 g;obtain ⟨r,z,j⟩:=((c.to (by ac_rfl:_=aQ 5 S x.tv x.ts D*(aq S*(pt b (V (x.cells rd 0) 176 (0,0))*(aQ 5 S x.wv x.ws a*(fy x.av*F)))))).j5 (P:=X) underlying172 underlying3 (fX w) d).2 l f;have i:=j.rd (h.to (aG _ _ _));have q:=ae f;have k:=ae i;have m:Hid (l.length<=1000000000):=D0 j.1 (by decide);clear f i g
 go_enter func204,ntmps204
 go_wp2_with (go_at_call 188;refine (jN _ _ l k.out m).mono ?_;rintro e A ⟨o,rfl,n,p⟩)
 go_ret2
 exact ⟨S,o,Ext.refl S,rfl,(n.under h).te,p⟩
theorem Pk (w:R) (S:Hp) (b:Nat) (T:TypeId) (d:N) (k:FuncId) (c D:CB) (a:Int) (l:List UInt8) (f g F:ai)
  (q:N) (o:R->Prop) (t:∀ (F:ai) (w:R),ag w (f*F)->o w) (u:∀ (F:ai) (w:R),ag w (g*F)->o w)
  (z:∀ (n0:Nat) (w:R),o w->(method (n0+1) T d "Read").run X w = .ok (k,q) w)
  (H:∀ (s:Array N) (w:R),(callFunc k s).run X w = .ok (.enter k s) w)
  (v:∀ (F:ai) (w:R),ag w (f*F)->Calls X k #[q,U O a] w (oq (0,l) g F w))
  (c0:ag w (aB 176 5 S b (.iface T d) 0 c D*(aq S*(f*F)))) (A:aP c a=Z) (B:aP D a=Z) (E:small l) :
  Calls X 204 #[W (Y ⟨b,0,Z⟩),U O a] w (ny b S (.iface T d) (0,l) 0 c (SL.fw D a l) (g*F) w):=by
 obtain ⟨x,j⟩:=c0.eh;have d0:w.cell? ⟨b,1,Z⟩=Y (U O 0):=j.cell 1;have e0:w.cell? ⟨b,2,Z⟩=Y x.wv:=j.cell 2;have f0:w.cell? ⟨b,4,Z⟩=Y x.tv:=j.cell 4;have o0:((0:Int) != 0)=M:=by decide
 have g0:=((j.to (by ac_rfl:_=aQ 5 S x.wv x.ws c*(aq S*(pt b (V (x.cells (.iface T d) 0) 176 (0,0))*(aQ 5 S x.tv x.ts D*(fy x.av*(f*F))))))).j5 (P:=X) underlying172 underlying3 (fX w) a).1 A;have i0:=((j.to (by ac_rfl:_=aQ 5 S x.tv x.ts D*(aq S*(pt b (V (x.cells (.iface T d) 0) 176 (0,0))*(aQ 5 S x.wv x.ws c*(fy x.av*(f*F))))))).j5 (P:=X) underlying172 underlying3 (fX w) a).1 B;have y:Hid (l.length<=1000000000):=D0 E (by decide);have h0:ag w (pt b (V (x.cells (.iface T d) 0) 176 (0,0))*(fy x.av*(f*(aQ 5 S x.wv x.ws c*(aQ 5 S x.tv x.ts D*(aq S*F)))))):=j.to (by ac_rfl);have HR:=ae v;have Hm:=ae z;have b0:=ae H;have I:=ae t;have J:=ae u;clear A B v z H t u
 go_enter func204,ntmps204
 go_wp2_with (go_at_call 243;refine (Fq w b T d k 0 a x (0,l) f g _ q o I.out J.out Hm.out b0.out HR.out h0).mono ?_;rintro e n ⟨p,h,rfl,d1,h1⟩)
 clear d0 e0 f0 g0 i0
 have G:ag n (pt b (V (({ x with av:=h }:Bx).cells (.iface T d) 0) 176 (0,0))*(aQ 5 S x.wv x.ws c*(aQ 5 S x.tv x.ts D*(fy h*(aq S*(bs 5 p l*(g*F))))))):=
  (h1.aw.uz).to (by ac_rfl)
 have j0:Hid (Rd n p l):=(G.dI).ss
 go_region_held3 (fun _=>True) (trivial)
  (first
   | (go_at_call 188;refine (jN n.drew _ l (oG.drew j0.out) y).mono ?_;rintro e w2 ⟨v2,rfl,l0,d2⟩)
   | (go_at_call 216;obtain ⟨i,hE,hV,_,hS⟩:=ag.M9 (w:=n.drew) (x:={ x with av:=h }) G l0 E;refine (eZ _ i b 4 _ _ _ D a v2 l (aQ 5 i x.wv x.ws c*(fy h*(bs 5 p l*(g*F)))) hS rfl rfl hV).mono ?_;rintro e r ⟨m,rfl,C,d3⟩))
 have k0:Hid (Rd r p l):=(C.dI).ss
 go_wp2_with (go_at_call 188;refine (jN r _ l k0.out y).mono ?_;rintro e w4 ⟨v4,rfl,m0,d4⟩)
 go_ret2
 refine ⟨i,v4,hE,rfl,?_,(((d1.trans (aj.refl n).drew).trans d2).trans d3).trans d4⟩;have h5:=(C.dI).right;have h6:ag r (pt b (V ((({ x with av:=h,tv:=.map (Y m),ts:=M }:Bx)).cells (.iface T d) 0) 176 (0,0))*(aQ 5 i x.wv x.ws c*(aQ 5 i (.map (Y m)) M (SL.fw D a l)*(fy h*(aq i*(g*F)))))):=h5.to (by ac_rfl);exact (m0.under (ag.ie { x with av:=h,tv:=.map (Y m),ts:=M } h6)).te
theorem yM (w:R) (S:Hp) (b:Nat) (T:TypeId) (a:N) (j:FuncId) (e D:CB) (f:Int) (c:Int) (l:List UInt8) (d i F:ai)
  (p:N) (k:R->Prop) (s:∀ (F:ai) (w:R),ag w (d*F)->k w) (t:∀ (F:ai) (w:R),ag w (i*F)->k w)
  (v:∀ (g0:Nat) (w:R),k w->(method (g0+1) T a "Read").run X w = .ok (j,p) w)
  (A:∀ (r:Array N) (w:R),(callFunc j r).run X w = .ok (.enter j r) w)
  (u:∀ (F:ai) (w:R),ag w (d*F)->Calls X j #[p,U O f] w (oq (c,l) i F w)) (o:c≠0)
  (h:ag w (aB 176 5 S b (.iface T a) 0 e D*(aq S*(d*F)))) (y:aP e f=Z) (z:aP D f=Z) :
  Calls X 204 #[W (Y ⟨b,0,Z⟩),U O f] w (ny b S (.iface T a) (c,l) c e D (i*F) w):=by
 obtain ⟨x,g⟩:=h.eh;have b0:w.cell? ⟨b,1,Z⟩=Y (U O 0):=g.cell 1;have c0:w.cell? ⟨b,2,Z⟩=Y x.wv:=g.cell 2;have d0:w.cell? ⟨b,4,Z⟩=Y x.tv:=g.cell 4;have j0:((0:Int) != 0)=M:=by decide
 have k0:(c != 0)=P:=by simpa using o
 have e0:=((g.to (by ac_rfl:_=aQ 5 S x.wv x.ws e*(aq S*(pt b (V (x.cells (.iface T a) 0) 176 (0,0))*(aQ 5 S x.tv x.ts D*(fy x.av*(d*F))))))).j5 (P:=X) underlying172 underlying3 (fX w) f).1 y;have f0:=((g.to (by ac_rfl:_=aQ 5 S x.tv x.ts D*(aq S*(pt b (V (x.cells (.iface T a) 0) 176 (0,0))*(aQ 5 S x.wv x.ws e*(fy x.av*(d*F))))))).j5 (P:=X) underlying172 underlying3 (fX w) f).1 z;have h0:ag w (pt b (V (x.cells (.iface T a) 0) 176 (0,0))*(fy x.av*(d*(aQ 5 S x.wv x.ws e*(aQ 5 S x.tv x.ts D*(aq S*F)))))):=g.to (by ac_rfl);have G:=ae u;have I:=ae v;have H:=ae A;have q:=ae o;have C:=ae s;have E:=ae t;clear y z u v A o s t
 go_enter func204,ntmps204
 go_wp2_with (go_at_call 243;refine (Fq w b T a j 0 f x (c,l) d i _ p k C.out E.out I.out H.out G.out h0).mono ?_;rintro i0 B ⟨dv,m,rfl,J,n⟩;clear b0 c0 d0 e0 f0;have g1:B.cell? ⟨b,1,Z⟩=Y (U O 0):=n.cell 1;have f1:=n.frozen 1)
 go_ret2
 obtain ⟨rfl,h2⟩:=n.aw.Cz q.out;refine ⟨S,_,Ext.refl S,rfl,?_,J.setCell _ _⟩;have h3:=h2.setCell 1 (U O c);have h4:ag (B.setCell ⟨b,1,Z⟩ (U O c)) (pt b (V ((({ x with av:=m }:Bx)).cells (.iface T a) c) 176 (0,0))*(aQ 5 S x.wv x.ws e*(aQ 5 S x.tv x.ts D*(fy m*(aq S*(i*F)))))):=h3.to (by ac_rfl);exact (ag.ie { x with av:=m } h4).jv q.out
def QQ (rd:N) (w:R) (e:Ending) (a:R):Prop:=∃ b,e = K (W (Y ⟨b,0,Z⟩))/\(∀ S,ag a (aB 176 5 S b rd 0 [] []*whole w))/\aj w a
theorem CA {w:R} {b:Nat} {rd:N} {F:ai} (h:ag w (pt b (V #[rd,U O 0,.map Z,Q M,.map Z,Q M,.map Z] 176 (0,0))*F)) (S:Hp) :
  ag w (aB 176 5 S b rd 0 [] []*F):=by
 have c:∀ {w:R} {F:ai} (v:Bool),ag w F->ag w (aQ 5 S (.map Z) v []*F):=fun v h=>(h.to (di _).symm).fp fun k a=>by rw [a];exact Jd _ _ _
 have d:∀ {w:R} {F:ai},ag w F->ag w (fy (.map Z)*F):=fun h=>(h.to (di _).symm).fp fun k a=>.inl ⟨rfl,a⟩;exact ag.ie ⟨.map Z,M,.map Z,M,.map Z⟩ ((c M (c M (d h))).to (by ac_rfl))
theorem zf (w:R) (T:TypeId) (a:N) :
  Calls X 74 #[.iface T a] w (QQ (.iface T a) w):=by
 go_enter func74,ntmps74
 go_wp2
 go_ret
 exact ⟨w.heap.size,rfl,fun S=>CA ((ag.whole w).alloc _) S,(aj.refl w).alloc _⟩
def QX (b o:Nat) (d:Array N) (c:N) (G:ai) (w:R) (e:Ending) (a:R):Prop:=
 e = K (.agg #[c,Q P])/\ag a (pt b (V (d.setIfInBounds (o+1) (Q P)) 176 (0,0))*G)/\aj w a
theorem oa (w:R) (b o:Nat) (a:Array N) (r:Option Nat) (sh:Bool) (G:ai) (h:ag w (pt b (V a 176 (0,0))*G)) (c:a[o]?=Y (.map r)) (d:a[o+1]?=Y (Q sh)) :
  Calls X 193 #[W (Y ⟨b,o,Z⟩)] w (QX b o a (.map r) G w):=by
 have g:w.cell? ⟨b,o,Z⟩=Y (.map r):=(h.cell o).trans c;have i:w.cell? ⟨b,o+1,Z⟩=Y (Q sh):=(h.cell (o+1)).trans d;have j:∀ o,w.frozen? ⟨b,o,Z⟩=M:=h.frozen;have k:b<w.heap.size:=h.lt;have l:¬ (w.heap.size=b):=by omega
 have m:¬ (b=w.heap.size):=by omega
 have n:¬ (o=o+1):=by omega
 have e:=ae c;have f:=ae d;clear c d
 go_enter func193,ntmps193
 go_wp2
 refine bodyPost_ret (v:=.agg #[.map r,Q P]) (by simp [results,Tryz.results193,go_sem]) rfl ?_;exact ⟨rfl,((h.setCell (o+1) (Q P)).alloc _).right,((aj.refl w).setCell _ _).alloc _⟩
def Ua (b:Nat) (S:Hp) (rd:N) (d:Int) (c D:CB) (F:ai) (w:R) (e:Ending) (g:R):Prop:=
 ∃ a f,Ext S a/\e = K (W (Y ⟨f,0,Z⟩))/\ag g (aB 176 5 a f rd d c D*(aB 176 5 a b rd d c D*(aq a*F)))/\aj w g
theorem nQ (w:R) (S:Hp) (b:Nat) (rd:N) (a:Int) (g D:CB) (F:ai)
  (h:ag w (aB 176 5 S b rd a g D*(aq S*F))) (H:∃ T v,rd = .iface T v) :
  Calls X 142 #[W (Y ⟨b,0,Z⟩)] w (Ua b S rd a g D F w):=by
 obtain ⟨T,d,rfl⟩:=H;obtain ⟨b0,i⟩:=h.eh;obtain ⟨rw,o⟩:=i.ah.tS;obtain ⟨c,n⟩:=i.aw.tS;obtain ⟨wv,r,tv,p,j⟩:=b0;simp only at o n;subst o n;have c0:w.cell? ⟨b,0,Z⟩=Y (.iface T d):=i.cell 0;have d0:w.cell? ⟨b,1,Z⟩=Y (U O a):=i.cell 1
 go_enter func142,ntmps142
 go_wp2
 go_region_held3 (fun q=>q.cell? ⟨b,0,Z⟩=Y (.iface T d)/\q.cell? ⟨b,1,Z⟩=Y (U O a)) (go_keep)
  (first
   | (go_at_call_of 193 (Value.pointer (Y ⟨b,2,Z⟩));refine (oa w.drew b 2 _ rw r _ i rfl rfl).mono ?_;rintro e w1 ⟨rfl,k,s⟩;have x:=k.cell 0;have y:=k.cell 1;simp [Bx.cells] at x y)
   | (go_at_call_of 193 (Value.pointer (Y ⟨b,4,Z⟩));refine (oa w1 b 4 _ c p _ k rfl rfl).mono ?_;rintro e m ⟨rfl,l,t⟩;have I:=l.cell 0;have J:=l.cell 1;simp [Bx.cells] at I J))
 go_wp2
 go_ret
 have z:=l.alloc (V #[.iface T d,U O a,.map rw,Q P,.map c,Q P,.map Z] 176 (0,0))
 obtain ⟨f,E,A⟩:=ag.BG (T:=5) (S:=S) (v:=.map rw) (sh:=r) (C:=g) (v':=.map c) (sh':=p) (C':=D) (F:=pt m.heap.size (V #[.iface T d,U O a,.map rw,Q P,.map c,Q P,.map Z] 176 (0,0))*(pt b (V #[.iface T d,U O a,.map rw,Q P,.map c,Q P,j] 176 (0,0))*(fy j*F))) (z.to (by
  show _*(pt b (V #[.iface T d,U O a,.map rw,Q P,.map c,Q P,j] 176 (0,0))*_)=_
  ac_rfl))
 refine ⟨f,_,E,rfl,?_,(((aj.refl w).drew.trans s).trans t).alloc _⟩;have u:∀ {w:R} {F:ai},ag w F->ag w (fy (.map Z)*F):=fun h=>(h.to (di _).symm).fp fun e0 G=>.inl ⟨rfl,G⟩;have B:=u A;refine ag.ie ⟨.map rw,P,.map c,P,.map Z⟩ ?_
 have C:ag (m.alloc (V #[.iface T d,U O a,.map rw,Q P,.map c,Q P,.map Z] 176 (0,0))) (aB 176 5 f b (.iface T d) a g D*(pt m.heap.size (V #[.iface T d,U O a,.map rw,Q P,.map c,Q P,.map Z] 176 (0,0))*(aQ 5 f (.map rw) P g*(aQ 5 f (.map c) P D*(fy (.map Z)*(aq f*F)))))):=
  ag.ie ⟨.map rw,P,.map c,P,j⟩ (B.to (by simp only [Bx.cells];ac_rfl))
 exact C.to (by simp only [Bx.cells];ac_rfl)
def Ue (b f:Nat) (S:Hp) (rd:N) (d:Int) (c D:CB) (F:ai) (w:R) (e:Ending) (g:R):Prop:=
 ∃ a,Ext S a/\e = K (Z' #[])/\ag g (aB 176 5 a b rd d c D*(aB 176 5 a f rd d c D*(aq a*F)))/\aj w g
theorem ir (w:R) (S:Hp) (b f:Nat) (rd r:N) (a q:Int) (i D W' D':CB) (F:ai)
  (h:ag w (aB 176 5 S b r q W' D'*(aB 176 5 S f rd a i D*(aq S*F)))) (h0:∃ T v,rd = .iface T v) :
  Calls X 144 #[W (Y ⟨b,0,Z⟩),W (Y ⟨f,0,Z⟩)] w (Ue b f S rd a i D F w):=by
 obtain ⟨T,g,rfl⟩:=h0;obtain ⟨y,B⟩:=h.eh
 have C:ag w (aB 176 5 S f (.iface T g) a i D*(pt b (V (y.cells r q) 176 (0,0))*(fy y.av*(aq S*F)))):=
  (B.iC.iC).to (by ac_rfl)
 obtain ⟨i0,c⟩:=C.eh;obtain ⟨rw,A⟩:=c.ah.tS;obtain ⟨d,z⟩:=c.aw.tS;obtain ⟨wv,J,tv,H,l⟩:=i0;simp only at A z;subst A z;obtain ⟨yw,n0,yt,m0,j⟩:=y;clear h B C;have p:f≠b:=ag.ne (c.aM.ah);have j0:¬ (f=b):=p;have k0:¬ (b=f):=fun e=>p e.symm;have e0:w.cell? ⟨f,0,Z⟩=Y (.iface T g):=c.cell 0;have f0:w.cell? ⟨f,1,Z⟩=Y (U O a):=c.cell 1;have b0:w.cell? ⟨b,0,Z⟩=Y r:=c.aM.cell 0;have c0:w.cell? ⟨b,1,Z⟩=Y (U O q):=c.aM.cell 1;have d0:∀ o,w.frozen? ⟨b,o,Z⟩=M:=c.aM.frozen;obtain ⟨l0,u,x⟩:=Option.map_eq_some_iff.1 (show (prog.info? 176).map (·.size)=Y 7 by kernel_rfl)
 have g0:(binOp .eql 70 (W (Y ⟨f,0,Z⟩)) (W (Y ⟨b,0,Z⟩))).run X w = .ok (Q M) w:=
  run_eql_ptr_other w underlying70 u (by rw [x];decide) (by simp [p]) c.heap c.aM.heap
 clear p u x;have h1:=((c.aM.setCell 0 (.iface T g)).setCell 1 (U O a)).yh
 go_enter func144,ntmps144
 go_wp2_with fail
 refine (oa _ f 2 _ rw J _ h1 rfl rfl).mono ?_;rintro e w1 ⟨rfl,m,d1⟩;clear e0 f0 b0 c0 d0 g0;have E:=m.aM.cell 2;have k3:=m.aM.cell 3;have G:∀ o,w1.frozen? ⟨b,o,Z⟩=M:=m.aM.frozen;simp [Bx.cells] at E k3
 go_wp2_with fail
 have h3:=((m.aM.setCell 2 (.map rw)).setCell 3 (Q P)).yh;refine (oa _ f 4 _ d H _ h3 rfl rfl).mono ?_;rintro e I ⟨rfl,n,d2⟩;clear E k3 G;have k4:=n.aM.cell 4;have k5:=n.aM.cell 5;have G:∀ o,I.frozen? ⟨b,o,Z⟩=M:=n.aM.frozen;simp [Bx.cells] at k4 k5
 go_wp2
 go_end0
 have s:=((n.aM.setCell 4 (.map d)).setCell 5 (Q P)).yh;change ag _ (pt f (V #[.iface T g,U O a,.map rw,Q P,.map d,Q P,l] 176 (0,0))*(_*(_*(_*(pt b (V #[.iface T g,U O a,.map rw,Q P,.map d,Q P,j] 176 (0,0))*_))))) at s
 obtain ⟨k,hE,t⟩:=ag.BG (T:=5) (S:=S) (v:=.map rw) (sh:=J) (C:=i) (v':=.map d) (sh':=H) (C':=D)
  (F:=pt f (V #[.iface T g,U O a,.map rw,Q P,.map d,Q P,l] 176 (0,0))*(pt b (V #[.iface T g,U O a,.map rw,Q P,.map d,Q P,j] 176 (0,0))*(fy l*(fy j*F)))) (s.to (by ac_rfl))
 refine ⟨k,hE,rfl,?_,(((((((aj.refl w).setCell _ _).setCell _ _).trans d1).setCell _ _).setCell _ _).trans d2).setCell _ _ |>.setCell _ _⟩;refine ag.ie ⟨.map rw,P,.map d,P,j⟩ ?_;generalize ((I.setCell _ _).setCell _ _)=w3 at t ⊢
 have h7:ag w3 (aB 176 5 k f (.iface T g) a i D*(pt b (V #[.iface T g,U O a,.map rw,Q P,.map d,Q P,j] 176 (0,0))*(aQ 5 k (.map rw) P i*(aQ 5 k (.map d) P D*(fy j*(aq k*F)))))):=
  ag.ie ⟨.map rw,P,.map d,P,l⟩ (t.to (by simp only [Bx.cells];ac_rfl))
 exact h7.to (by simp only [Bx.cells];ac_rfl)
end Go.Proofs.Ba

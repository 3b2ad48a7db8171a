/- Steps. -/
import Derived.Test.YtdickhgiahcnaaaGreatDoorNP3
import Derived.Recover
import Derived.LaidEqlPtr
set_option linter.all false
set_option maxRecDepth 99999
set_option maxHeartbeats 0
open Go.SL
open Go.Value renaming int->U,slice->L,pointer->W,tuple->Z',bool->P
open Go.IntKind renaming i64->Q
open Go.Obj renaming cells->V
open Go.Ending renaming returned->K
open Go renaming World->R,Value->N
open Go.Proofs.Tryz renaming prog->X
open Option renaming some->Y,none->Z
open Bool renaming true->O,false->M
open Go.Proofs.Tryz
open Nat renaming le_trans->A3
namespace Go.Proofs.Ba
open RowKit SL
def Uv (m:Nat) (b:KV) (c:Int) (F:ai) (w:R) (e:Ending) (u:FrameMode) (a:R):Prop:=
 e = K (Z' #[])/\u = .returning/\ag a (mp m (del b c)*F)/\aj w a
def tV (w:R) (d e q r:Addr) (b m:Nat) (a:Int) (g:KV) (F:ai) (h:ag w (mp m g*F))
    (k:w.cell? d=Y (W (Y ⟨b,0,Z⟩))) (l:w.cell? e=Y (U Q a)) (n:w.cell? ⟨b,6,Z⟩=Y (.map (Y m))) :
    CallsD X 266 #[W (Y d),W (Y e),W (Y q),W (Y r)] .returning w (Uv m g a F w):=by
  obtain ⟨y,x,o,i,c⟩:=ag.delete (P:=X) underlying87 underlying3 0 3 (w:=w.drew) h a;have t:=(c.1 _).trans k;have u:=(c.1 _).trans l;have v:=(c.1 _).trans n;refine callsD_of_wpS func266 rfl fun j s p=>?_;apply wpS_seq;refine wpS_of_wp ?_
  simp only [ntmps266,List.size_toArray,List.length_cons,List.length_nil,Nat.reduceAdd,Nat.reduceSub,Array.replicate_succ,
     Array.replicate_zero,List.push_toArray,List.append_toArray,List.nil_append,List.cons_append]
  go_region_held3 (fun f=>f.cell? d=Y (W (Y ⟨b,0,Z⟩))/\f.cell? e=Y (U Q a)/\f.cell? ⟨b,6,Z⟩=Y (.map (Y m))) (go_keep) (fail)
  apply wpS_seq;apply wpS_region;simp [wpOpsS,go_sem,recoverD,p,Exit.thenS];refine wpS_cond (t:=M) (by simp [Act.eval]) ?_;refine wpS_of_wp (wp_skip ?_);cases j
  simp_all [bodyPostS,results,Tryz.results266]
  exact ⟨rfl,rfl,o,(aj.refl w).drew.trans i⟩
def pj (A:Int × List UInt8) (c F:ai) (w:R) (e:Ending) (b:R):Prop:=
 ∃ a,e = K (Z' #[a,U Q A.1])/\ag b (pS 5 A a*(c*F))/\aj w b
def TD (b:Nat) (rd:N) (g:Int) (x:Bx) (A:Int × List UInt8) (f F:ai) (w:R) (e:Ending) (d:R):Prop:=
 ∃ c a,e = K (Z' #[c,U Q A.1])/\aj w d /\
  ag d (pt b (V (({ x with av:=a }:Bx).cells rd g) 177 (0,0))*(fB a*(pS 5 A c*(f*F))))
def LP (w:R) (b:Nat) (T:TypeId) (e:N) (k:FuncId) (I c:Int) (x:Bx) (A:Int × List UInt8) (q r F:ai) (m:Nat) (o:x.av = .map (Y m))
  (rr:N) (g:R->Prop) (S:∀ (F:ai) (w:R),ag w (q*F)->g w) (b0:∀ (F:ai) (w:R),ag w (r*F)->g w)
  (hm:∀ (f0:Nat) (w:R),g w->(method (f0+1) T e "Read").run X w = .ok (k,rr) w)
  (jD:∀ (args:Array N) (w:R),(callFunc k args).run X w = .ok (.enter k args) w)
  (hR:∀ (F:ai) (w:R),ag w (q*F)->Calls X k #[rr,U Q c] w (pj A r F w))
  (h:ag w (pt b (V (x.cells (.iface T e) I) 177 (0,0))*(mp m []*(q*F)))) :
  Calls X 239 #[W (Y ⟨b,0,Z⟩),U Q c] w (TD b (.iface T e) I x A r F w):=by
 have i0:w.cell? ⟨b,0,Z⟩=Y (.iface T e):=h.cell 0;have j0:b<w.heap.size:=h.lt;have n2:b<w.heap.size+1+1:=Om0
 have HR:=ae hR;have HM:=ae S;have p:=ae b0;clear hR S b0
 go_enter_defers func239,ntmps239
 go_wp2
 have h4:=(((h.alloc (V #[W (Y ⟨b,0,Z⟩)] 74 (0,0))).alloc (V #[U Q c] 3 (0,0))).alloc (V #[L Z 0 0] 23 (0,0))).alloc (V #[U Q 0] 31 (0,0));simp only [World.size_alloc] at h4;have H:=((((aj.refl w).alloc (V #[W (Y ⟨b,0,Z⟩)] 74 (0,0))).alloc (V #[U Q c] 3 (0,0))).alloc (V #[L Z 0 0] 23 (0,0))).alloc (V #[U Q 0] 31 (0,0));generalize ((((w.alloc (V #[W (Y ⟨b,0,Z⟩)] 74 (0,0))).alloc (V #[U Q c] 3 (0,0))).alloc (V #[L Z 0 0] 23 (0,0))).alloc (V #[U Q 0] 31 (0,0)))=w4 at h4 H ⊢;clear i0 h n2;generalize w.heap.size=n at h4 j0 ⊢
 have t:=h4.aA.cell 0;have u:=h4.au.cell 0;have s:=(h4.aJ.cell 6).trans (congrArg Y o);obtain ⟨o0,l0,c0,_⟩:=h4.eu.n9
 have hl:∀ a,a.heap[m]?=Y o0->(Instr.lookup 87 (.map (Y m)) (U Q c) O).run X a = .ok (Z' #[.agg #[],P M]) a:=fun a hw=>
  iC (P:=X) underlying87 underlying3 Kr0 hw l0 c O
 go_region_held3 (fun a=>a.cell? ⟨n,0,Z⟩=Y (W (Y ⟨b,0,Z⟩))/\a.cell? ⟨n+1,0,Z⟩=Y (U Q c)/\a.cell? ⟨b,6,Z⟩=Y (.map (Y m))/\a.heap[m]?=Y o0)
  (refine ⟨?_,?_,?_,?_⟩ <;> first|exact c0|exact GM c0 _|go_keep) (fail)
 all_goals
  have h5:=(h4.alloc (V #[] 214 (0,0))).right;have j:=H.alloc (V #[] 214 (0,0));generalize d0:(w4.alloc (V #[] 214 (0,0))).drew=E;replace h5:ag E _:=d0▸h5.drew;replace j:aj w E:=d0▸j.drew;have t:=h5.aA.cell 0;have u:=h5.au.cell 0;have s:=(h5.aJ.cell 6).trans (congrArg Y o);have k0:=fun w=>run_eql_map_nil (P:=X) w 87 3 214 (Y m) underlying87
  go_wp2
  clear k0;obtain ⟨G,m0,f,v,i⟩:=ag.mapUpdate (P:=X) underlying87 underlying3 (w:=E.drew) h5.eu c (.agg #[]);have e2:=(i.1 _).trans t;have e3:=(i.1 _).trans u;have e6:=(i.1 _).trans s;clear i
  go_region_held3 (fun a=>a.cell? ⟨n,0,Z⟩=Y (W (Y ⟨b,0,Z⟩))/\a.cell? ⟨n+1,0,Z⟩=Y (U Q c)/\a.cell? ⟨b,6,Z⟩=Y (.map (Y m)))
   (go_keep) (fail)
  replace v:aj w G:=(j.drew).trans v;clear m0 h5 j t u s e6;have e0:G.cell? ⟨b,0,Z⟩=Y (.iface T e):=f.eu.cell 0;replace f:=f.M0
  go_wp2
  have q5:¬ (n+1+1=n):=Om0
  have q6:¬ (n+1+1+1=n):=Om0
  have q7:¬ (n+1+1=b):=Om0
  have q8:¬ (n+1+1+1=b):=Om0
  go_region_held3 (fun a=>a.cell? ⟨n,0,Z⟩=Y (W (Y ⟨b,0,Z⟩))/\a.cell? ⟨n+1,0,Z⟩=Y (U Q c)/\a.cell? ⟨b,0,Z⟩=Y (.iface T e)/\g a)
   (refine ⟨?_,?_,?_,?_⟩ <;> first|exact HM.o _ _ f.fh|exact p.o _ _ d.ah|exact p.o _ _ (d.aA.setCell 0 _).tG.ah|exact p.o _ _ ((d.aA.setCell 0 _).tG.au.setCell 0 _).yW.ah|go_keep) ((apply (HR.o _ G.drew f.fh).mono;rintro g0 w7 ⟨dv,rfl,d,d7⟩;have D:=ag.AU d;obtain ⟨y,B,z,D⟩:=D;subst D;have g2:=d.eu.cell 0;have g3:=d.aJ.cell 0;have gb:=d.fh.cell 0;have gd:=d.aA.cell 0;have ge:=d.au.cell 0;have fd:=d.aA.frozen 0;have fe:=d.au.frozen 0;simp [Bx.cells] at g2 g3 gb gd ge))
  go_wp2
  have l:=((d.aA.setCell 0 (L y B z)).tG.au.setCell 0 (U Q A.1)).yW;refine leaves_cons (f:=266) (args:=#[W (Y ⟨n,0,Z⟩),W (Y ⟨n+1,0,Z⟩),W (Y ⟨n+1+1,0,Z⟩),W (Y ⟨n+1+1+1,0,Z⟩)]) Si0 (by simp [go_sem]) ?_;apply (tV _ ⟨n,0,Z⟩ ⟨n+1,0,Z⟩ _ _ b m c _ _ l.mX (l.eu.cell 0) (l.aJ.cell 0) ((l.fh.cell 6).trans (congrArg Y o))).mono;rintro g0 n0 w9 ⟨rfl,rfl,C,d9⟩;have J:=C.Rl;have r4:=J.aA.cell 0;have r5:=J.au.cell 0;refine ⟨Z' #[L y B z,U Q A.1],?_,?_⟩
  .simp [results,Tryz.results239,go_sem,r4,r5]
  .refine ⟨L y B z,.map (Y m),rfl,(v.drew.trans d7).trans (((aj.refl w7).setCell _ _).setCell _ _ |>.trans d9),?_⟩
   have hx:({ x with av:=Value.map (Y m) }:Bx)=x:=by rw [<- o]
   rw [hx];have hd:del (fC ([]:KV) c (.agg #[])) c=[]:=by simp [del,fC,aM]
   rw [hd] at C;have h0:=C.gZ (Q:=fB (.map (Y m))) fun f0 hk=>.inr ⟨m,rfl,hk⟩;exact h0.kQ.kQ.kQ.kQ.aA
def LR (w:R) (b:Nat) (T:TypeId) (f:N) (z:FuncId) (J a:Int) (x:Bx) (A:Int × List UInt8) (D E F:ai) (g0:x.av = .map Z)
  (rr:N) (r:R->Prop) (hM:∀ (F:ai) (w:R),ag w (D*F)->r w) (f0:∀ (F:ai) (w:R),ag w (E*F)->r w)
  (hm:∀ (h0:Nat) (w:R),r w->(method (h0+1) T f "Read").run X w = .ok (z,rr) w)
  (jD:∀ (args:Array N) (w:R),(callFunc z args).run X w = .ok (.enter z args) w)
  (hR:∀ (F:ai) (w:R),ag w (D*F)->Calls X z #[rr,U Q a] w (pj A E F w))
  (h:ag w (pt b (V (x.cells (.iface T f) J) 177 (0,0))*(D*F))) :
  Calls X 239 #[W (Y ⟨b,0,Z⟩),U Q a] w (TD b (.iface T f) J x A E F w):=by
 have r0:=nH X;have l0:w.cell? ⟨b,0,Z⟩=Y (.iface T f):=h.cell 0;have n0:b<w.heap.size:=h.lt;have n1:b<w.heap.size+1:=Om0
 have n2:b<w.heap.size+1+1:=Om0
 have n3:b<w.heap.size+1+1+1:=Om0
 have HR:=ae hR;have HM:=ae hM;have C:=ae f0;clear hR hM f0
 go_enter_defers func239,ntmps239
 go_wp2
 have h4:=(((h.alloc (V #[W (Y ⟨b,0,Z⟩)] 74 (0,0))).alloc (V #[U Q a] 3 (0,0))).alloc (V #[L Z 0 0] 23 (0,0))).alloc (V #[U Q 0] 31 (0,0));simp only [World.size_alloc] at h4;have G:=((((aj.refl w).alloc (V #[W (Y ⟨b,0,Z⟩)] 74 (0,0))).alloc (V #[U Q a] 3 (0,0))).alloc (V #[L Z 0 0] 23 (0,0))).alloc (V #[U Q 0] 31 (0,0));generalize ((((w.alloc (V #[W (Y ⟨b,0,Z⟩)] 74 (0,0))).alloc (V #[U Q a] 3 (0,0))).alloc (V #[L Z 0 0] 23 (0,0))).alloc (V #[U Q 0] 31 (0,0)))=p at h4 G ⊢;clear l0 h n1 n2 n3;generalize w.heap.size=n at h4 n0 ⊢
 have i:p.cell? ⟨n,0,Z⟩=Y (W (Y ⟨b,0,Z⟩)):=h4.aA.cell 0;have j:p.cell? ⟨n+1,0,Z⟩=Y (U Q a):=h4.au.cell 0;have g:p.cell? ⟨b,6,Z⟩=Y (.map Z):=(h4.aJ.cell 6).trans (congrArg Y g0)
 have hl:∀ c,(Instr.lookup 87 (.map Z) (U Q a) O).run X c = .ok (Z' #[.agg #[],P M]) c:=fun c=>
  kh (P:=X) underlying87 underlying3 Kr0 a O
 go_region_held3 (fun c=>c.cell? ⟨n,0,Z⟩=Y (W (Y ⟨b,0,Z⟩))/\c.cell? ⟨n+1,0,Z⟩=Y (U Q a)/\c.cell? ⟨b,6,Z⟩=Y (.map Z))
  (go_keep) (fail)
 all_goals
  have h5:=(h4.alloc (V #[] 214 (0,0))).right;have t:=G.alloc (V #[] 214 (0,0));change Exit.then _ _ _ _ (p.alloc (V #[] 214 (0,0))).drew
  generalize c0:(p.alloc (V #[] 214 (0,0))).drew=e;replace h5:ag e _:=c0▸h5.drew;replace t:aj w e:=c0▸t.drew;clear c0 hl i j g h4 G;have i:e.cell? ⟨n,0,Z⟩=Y (W (Y ⟨b,0,Z⟩)):=h5.aA.cell 0;have j:e.cell? ⟨n+1,0,Z⟩=Y (U Q a):=h5.au.cell 0;have g:e.cell? ⟨b,6,Z⟩=Y (.map Z):=(h5.aJ.cell 6).trans (congrArg Y g0);have p0:=fun w=>run_eql_map_nil (P:=X) w 87 3 214 Z underlying87;have m0:e.frozen? ⟨b,6,Z⟩=M:=h5.aJ.frozen 6;have o0:=@run_makeMap X;have k0:b<e.heap.size:=h5.aJ.lt
  go_wp2
  clear p0 o0 m0;have l:=(h5.aJ.setCell 6 (.map (Y e.heap.size))).alloc (.map #[] 0);rw [World.size_setCell] at l;have H:=(t.setCell ⟨b,6,Z⟩ (.map (Y e.heap.size))).alloc (.map #[] 0);generalize (e.setCell ⟨b,6,Z⟩ (.map (Y e.heap.size))).alloc (.map #[] 0)=q at l H ⊢;generalize e.heap.size=m at l ⊢;clear h5 t i j g k0
  have h5:=(l.ui isMap_empty).M0.yY;clear l;change ag q (pt (n+1+1+1) _*(pt (n+1+1) _*(pt (n+1) _*(pt n _*(pt b (V (({ x with av:=.map (Y m) }:Bx).cells (.iface T f) J) 177 (0,0))*_))))) at h5;have i:q.cell? ⟨n,0,Z⟩=Y (W (Y ⟨b,0,Z⟩)):=h5.aA.cell 0;have j:q.cell? ⟨n+1,0,Z⟩=Y (U Q a):=h5.au.cell 0;have g:q.cell? ⟨b,6,Z⟩=Y (.map (Y m)):=h5.aJ.cell 6;obtain ⟨k,q0,o,I,s⟩:=ag.mapUpdate (P:=X) underlying87 underlying3 (w:=q.drew) h5.eu a (.agg #[]);have e2:k.cell? ⟨n,0,Z⟩=Y (W (Y ⟨b,0,Z⟩)):=(s.1 _).trans i;have e3:k.cell? ⟨n+1,0,Z⟩=Y (U Q a):=(s.1 _).trans j;have e6:k.cell? ⟨b,6,Z⟩=Y (.map (Y m)):=(s.1 _).trans g;clear s
  go_region_held3 (fun c=>c.cell? ⟨n,0,Z⟩=Y (W (Y ⟨b,0,Z⟩))/\c.cell? ⟨n+1,0,Z⟩=Y (U Q a)/\c.cell? ⟨b,6,Z⟩=Y (.map (Y m)))
   (go_keep) (fail)
  replace I:aj w k:=(H.drew).trans I;clear q0 h5 H i j g e6;have e0:k.cell? ⟨b,0,Z⟩=Y (.iface T f):=o.eu.cell 0;replace o:=o.M0
  go_wp2
  have q1:¬ (n=n+1+1):=Om0
  have q2:¬ (n=n+1+1+1):=Om0
  have q3:¬ (b=n+1+1):=Om0
  have q4:¬ (b=n+1+1+1):=Om0
  have q5:¬ (n+1+1=n):=Om0
  have q6:¬ (n+1+1+1=n):=Om0
  have q7:¬ (n+1+1=b):=Om0
  have q8:¬ (n+1+1+1=b):=Om0
  go_region_held3 (fun c=>c.cell? ⟨n,0,Z⟩=Y (W (Y ⟨b,0,Z⟩))/\c.cell? ⟨n+1,0,Z⟩=Y (U Q a)/\c.cell? ⟨b,0,Z⟩=Y (.iface T f)/\r c)
   (refine ⟨?_,?_,?_,?_⟩ <;> first|exact HM.o _ _ o.fh|exact C.o _ _ d.ah|exact C.o _ _ (d.aA.setCell 0 _).tG.ah|exact C.o _ _ ((d.aA.setCell 0 _).tG.au.setCell 0 _).yW.ah|go_keep) ((apply (HR.o _ k.drew o.fh).mono;rintro i0 w7 ⟨dv,rfl,d,d7⟩;have b0:=ag.AU d;obtain ⟨u,y,v,b0⟩:=b0;subst b0;have g2:=d.eu.cell 0;have g3:=d.aJ.cell 0;have gb:=d.fh.cell 0;have gd:=d.aA.cell 0;have ge:=d.au.cell 0;have fd:=d.aA.frozen 0;have fe:=d.au.frozen 0;simp [Bx.cells] at g2 g3 gb gd ge))
  clear g2 g3 gb gd ge fd fe e0 e2 e3
  go_wp2
  have B:=((d.aA.setCell 0 (L u y v)).tG.au.setCell 0 (U Q A.1)).yW;refine leaves_cons (f:=266) (args:=#[W (Y ⟨n,0,Z⟩),W (Y ⟨n+1,0,Z⟩),W (Y ⟨n+1+1,0,Z⟩),W (Y ⟨n+1+1+1,0,Z⟩)]) Si0 (by simp [go_sem]) ?_;apply (tV _ ⟨n,0,Z⟩ ⟨n+1,0,Z⟩ _ _ b m a _ _ B.mX (B.eu.cell 0) (B.aJ.cell 0) (B.fh.cell 6)).mono;rintro i0 s0 w9 ⟨rfl,rfl,S,d9⟩;have d0:=S.Rl;have r4:w9.cell? ⟨n+1+1,0,Z⟩=Y (L u y v):=d0.aA.cell 0;have r5:w9.cell? ⟨n+1+1+1,0,Z⟩=Y (U Q A.1):=d0.au.cell 0;refine ⟨Z' #[L u y v,U Q A.1],?_,?_⟩
  .simp [results,Tryz.results239,go_sem,r4,r5]
  .refine ⟨L u y v,.map (Y m),rfl,(I.drew.trans d7).trans (((aj.refl w7).setCell _ _).setCell _ _ |>.trans d9),?_⟩
   have hd:del (fC ([]:KV) a (.agg #[])) a=[]:=by simp [del,fC,aM]
   rw [hd] at S;have j0:=S.gZ (Q:=fB (.map (Y m))) fun h0 hk=>.inr ⟨m,rfl,hk⟩;exact j0.kQ.kQ.kQ.kQ.aA
def FV (w:R) (b:Nat) (T:TypeId) (l:N) (f:FuncId) (n o:Int) (x:Bx) (A:Int × List UInt8) (i j F:ai)
  (r:N) (g:R->Prop) (v:∀ (F:ai) (w:R),ag w (i*F)->g w) (y:∀ (F:ai) (w:R),ag w (j*F)->g w)
  (B:∀ (k:Nat) (w:R),g w->(method (k+1) T l "Read").run X w = .ok (f,r) w)
  (C:∀ (t:Array N) (w:R),(callFunc f t).run X w = .ok (.enter f t) w)
  (z:∀ (F:ai) (w:R),ag w (i*F)->Calls X f #[r,U Q o] w (pj A j F w))
  (h:ag w (pt b (V (x.cells (.iface T l) n) 177 (0,0))*(fB x.av*(i*F)))) :
  Calls X 239 #[W (Y ⟨b,0,Z⟩),U Q o] w (TD b (.iface T l) n x A j F w):=by
 obtain ⟨k,a,u,I,p,⟨E,h4,H,q,D,rfl⟩,d,rfl⟩:=h;rcases H with ⟨s,rfl⟩|⟨m,s,G⟩
 .refine LR w b T l f n o x A i j F s r g v y B C z ⟨_,a,u,h4,p,q,?_,?_⟩
  .intro c;rcases d c with e|e
   .exact .inl e
   .right;simpa [join] using e
  .funext c;simp [join]
 .exact LP w b T l f n o x A i j F m s r g v y B C z ⟨_,a,u,_,p,⟨E,h4,G,q,D,rfl⟩,d,rfl⟩
def nL (b:Nat) (S:Hp) (rd:N) (A:Int × List UInt8) (g:Int) (f D:CB) (F:ai) (w:R) (e:Ending) (d:R):Prop:=
 ∃ a c,Ext S a/\e = K (Z' #[c,U Q A.1])/\ag d (pS 5 A c*(aU 177 5 a b rd g f D*(al a*F)))/\aj w d
def fV (w:R):(zeroValue 23).run X w = .ok (L Z 0 0) w:=Kr0
def Nb (w:R) (S:Hp) (b:Nat) (rd:N) (a:Int) (c D:CB) (f:Int) (F:ai)
  (h:ag w (aU 177 5 S b rd a c D*(al S*F))) (d:a≠0) :
  Calls X 195 #[W (Y ⟨b,0,Z⟩),U Q f] w (nL b S rd (a,[]) a c D F w):=by
 obtain ⟨x,e⟩:=h.et;have i:w.cell? ⟨b,1,Z⟩=Y (U Q a):=e.cell 1;have j:(a != 0)=O:=by simpa using d
 go_in
 go_wp2
 go_region_held3 (fun g=>g.cell? ⟨b,1,Z⟩=Y (U Q a)) (go_keep) (fail)
 go_wp2
 go_ret2
 exact ⟨S,_,Ext.refl S,rfl,ag.jC h.drew d,(aj.refl w).drew⟩
def RG (w:R) (S:Hp) (b:Nat) (rd:N) (a D:CB) (f:Int) (l:List UInt8) (F:ai)
  (h:ag w (aU 177 5 S b rd 0 a D*(al S*F))) (c:aM a f=Y l) :
  Calls X 195 #[W (Y ⟨b,0,Z⟩),U Q f] w (nL b S rd (0,l) 0 a D F w):=by
 obtain ⟨x,d⟩:=h.et;have r:w.cell? ⟨b,1,Z⟩=Y (U Q 0):=d.cell 1;have s:w.cell? ⟨b,2,Z⟩=Y x.wv:=d.cell 2;have q:((0:Int) != 0)=M:=De0
 obtain ⟨p,t,hv⟩:=((d.t00 (aQ 5 S x.wv x.ws a*(al S*(pt b (V (x.cells rd 0) 177 (0,0))*(aQ 5 S x.tv x.ts D*(fB x.av*F)))))).kL (P:=X) underlying173 underlying3 (fV w) f).2 l c;have g:=hv.rd (h.to (aD _ _ _));have o:=ae c;have j:=ae g;have k:Hid (l.length<=1000000000):=A3 hv.1 De0;clear c g
 go_in
 go_wp2_with (go_at_call 185;apply (j3 _ _ l j.o k).mono;rintro e u ⟨n,rfl,m,i⟩)
 go_ret2
 exact ⟨S,n,Ext.refl S,rfl,(m.under h).tN,i⟩
def RH (w:R) (S:Hp) (b:Nat) (rd:N) (a D:CB) (d:Int) (l:List UInt8) (F:ai)
  (h:ag w (aU 177 5 S b rd 0 a D*(al S*F))) (g:aM a d=Z) (f:aM D d=Y l) :
  Calls X 195 #[W (Y ⟨b,0,Z⟩),U Q d] w (nL b S rd (0,l) 0 a D F w):=by
 obtain ⟨x,c⟩:=h.et;have s:w.cell? ⟨b,1,Z⟩=Y (U Q 0):=c.cell 1;have t:w.cell? ⟨b,2,Z⟩=Y x.wv:=c.cell 2;have u:w.cell? ⟨b,4,Z⟩=Y x.tv:=c.cell 4;have r:((0:Int) != 0)=M:=De0
 have v:=((c.t00 (aQ 5 S x.wv x.ws a*(al S*(pt b (V (x.cells rd 0) 177 (0,0))*(aQ 5 S x.tv x.ts D*(fB x.av*F)))))).kL (P:=X) underlying173 underlying3 (fV w) d).1 g;obtain ⟨q,y,hv⟩:=((c.t00 (aQ 5 S x.tv x.ts D*(al S*(pt b (V (x.cells rd 0) 177 (0,0))*(aQ 5 S x.wv x.ws a*(fB x.av*F)))))).kL (P:=X) underlying173 underlying3 (fV w) d).2 l f;have i:=hv.rd (h.to (aD _ _ _));have p:=ae f;have k:=ae i;have m:Hid (l.length<=1000000000):=A3 hv.1 De0;clear f i g
 go_in
 go_wp2_with (go_at_call 185;apply (j3 _ _ l k.o m).mono;rintro e z ⟨o,rfl,n,j⟩)
 go_ret2
 exact ⟨S,o,Ext.refl S,rfl,(n.under h).tN,j⟩
def Py (w:R) (S:Hp) (b:Nat) (T:TypeId) (d:N) (k:FuncId) (c D:CB) (a:Int) (l:List UInt8) (f g F:ai)
  (q:N) (o:R->Prop) (t:∀ (F:ai) (w:R),ag w (f*F)->o w) (u:∀ (F:ai) (w:R),ag w (g*F)->o w)
  (z:∀ (n0:Nat) (w:R),o w->(method (n0+1) T d "Read").run X w = .ok (k,q) w)
  (H:∀ (s:Array N) (w:R),(callFunc k s).run X w = .ok (.enter k s) w)
  (v:∀ (F:ai) (w:R),ag w (f*F)->Calls X k #[q,U Q a] w (pj (0,l) g F w))
  (c0:ag w (aU 177 5 S b (.iface T d) 0 c D*(al S*(f*F)))) (A:aM c a=Z) (B:aM D a=Z) (E:small l) :
  Calls X 195 #[W (Y ⟨b,0,Z⟩),U Q a] w (nL b S (.iface T d) (0,l) 0 c (SL.fC D a l) (g*F) w):=by
 obtain ⟨x,j⟩:=c0.et;have d0:w.cell? ⟨b,1,Z⟩=Y (U Q 0):=j.cell 1;have e0:w.cell? ⟨b,2,Z⟩=Y x.wv:=j.cell 2;have f0:w.cell? ⟨b,4,Z⟩=Y x.tv:=j.cell 4;have o0:((0:Int) != 0)=M:=De0
 have g0:=((j.t00 (aQ 5 S x.wv x.ws c*(al S*(pt b (V (x.cells (.iface T d) 0) 177 (0,0))*(aQ 5 S x.tv x.ts D*(fB x.av*(f*F))))))).kL (P:=X) underlying173 underlying3 (fV w) a).1 A;have i0:=((j.t00 (aQ 5 S x.tv x.ts D*(al S*(pt b (V (x.cells (.iface T d) 0) 177 (0,0))*(aQ 5 S x.wv x.ws c*(fB x.av*(f*F))))))).kL (P:=X) underlying173 underlying3 (fV w) a).1 B;have y:Hid (l.length<=1000000000):=A3 E De0;have h0:ag w (pt b (V (x.cells (.iface T d) 0) 177 (0,0))*(fB x.av*(f*(aQ 5 S x.wv x.ws c*(aQ 5 S x.tv x.ts D*(al S*F)))))):=j.u00;have HR:=ae v;have Hm:=ae z;have b0:=ae H;have I:=ae t;have J:=ae u;clear A B v z H t u
 go_in
 go_wp2_with (go_at_call 239;apply (FV w b T d k 0 a x (0,l) f g _ q o I.o J.o Hm.o b0.o HR.o h0).mono;rintro e n ⟨p,h,rfl,d1,h1⟩)
 clear d0 e0 f0 g0 i0
 have G:ag n (pt b (V (({ x with av:=h }:Bx).cells (.iface T d) 0) 177 (0,0))*(aQ 5 S x.wv x.ws c*(aQ 5 S x.tv x.ts D*(fB h*(al S*(bs 5 p l*(g*F))))))):=
  (h1.au.uY).u00
 have j0:Hid (Rd n p l):=(G.eu).pA
 go_region_held3 (fun _=>True) (trivial)
  (first
   | (go_at_call 185;apply (j3 n.drew _ l (pC.drew j0.o) y).mono;rintro e w2 ⟨v2,rfl,l0,d2⟩)
   | (go_at_call 210;obtain ⟨i,hE,hV,_,hS⟩:=ag.MK (w:=n.drew) (x:={ x with av:=h }) G l0 E;refine (fp _ i b 4 _ _ _ D a v2 l (aQ 5 i x.wv x.ws c*(fB h*(bs 5 p l*(g*F)))) hS rfl rfl hV).mono ?_;rintro e r ⟨m,rfl,C,d3⟩))
 have k0:Hid (Rd r p l):=(C.eu).pA
 go_wp2_with (go_at_call 185;apply (j3 r _ l k0.o y).mono;rintro e w4 ⟨v4,rfl,m0,d4⟩)
 go_ret2
 refine ⟨i,v4,hE,rfl,?_,(((d1.trans (aj.refl n).drew).trans d2).trans d3).trans d4⟩;have h5:=(C.eu).right;have h6:ag r (pt b (V ((({ x with av:=h,tv:=.map (Y m),ts:=M }:Bx)).cells (.iface T d) 0) 177 (0,0))*(aQ 5 i x.wv x.ws c*(aQ 5 i (.map (Y m)) M (SL.fC D a l)*(fB h*(al i*(g*F)))))):=h5.u00;exact (m0.under (ag.ic { x with av:=h,tv:=.map (Y m),ts:=M } h6)).tN
def y5 (w:R) (S:Hp) (b:Nat) (T:TypeId) (a:N) (j:FuncId) (e D:CB) (f:Int) (c:Int) (l:List UInt8) (d i F:ai)
  (p:N) (k:R->Prop) (s:∀ (F:ai) (w:R),ag w (d*F)->k w) (t:∀ (F:ai) (w:R),ag w (i*F)->k w)
  (v:∀ (g0:Nat) (w:R),k w->(method (g0+1) T a "Read").run X w = .ok (j,p) w)
  (A:∀ (r:Array N) (w:R),(callFunc j r).run X w = .ok (.enter j r) w)
  (u:∀ (F:ai) (w:R),ag w (d*F)->Calls X j #[p,U Q f] w (pj (c,l) i F w)) (o:c≠0)
  (h:ag w (aU 177 5 S b (.iface T a) 0 e D*(al S*(d*F)))) (y:aM e f=Z) (z:aM D f=Z) :
  Calls X 195 #[W (Y ⟨b,0,Z⟩),U Q f] w (nL b S (.iface T a) (c,l) c e D (i*F) w):=by
 obtain ⟨x,g⟩:=h.et;have b0:w.cell? ⟨b,1,Z⟩=Y (U Q 0):=g.cell 1;have c0:w.cell? ⟨b,2,Z⟩=Y x.wv:=g.cell 2;have d0:w.cell? ⟨b,4,Z⟩=Y x.tv:=g.cell 4;have j0:((0:Int) != 0)=M:=De0
 have k0:(c != 0)=O:=by simpa using o
 have e0:=((g.t00 (aQ 5 S x.wv x.ws e*(al S*(pt b (V (x.cells (.iface T a) 0) 177 (0,0))*(aQ 5 S x.tv x.ts D*(fB x.av*(d*F))))))).kL (P:=X) underlying173 underlying3 (fV w) f).1 y;have f0:=((g.t00 (aQ 5 S x.tv x.ts D*(al S*(pt b (V (x.cells (.iface T a) 0) 177 (0,0))*(aQ 5 S x.wv x.ws e*(fB x.av*(d*F))))))).kL (P:=X) underlying173 underlying3 (fV w) f).1 z;have h0:ag w (pt b (V (x.cells (.iface T a) 0) 177 (0,0))*(fB x.av*(d*(aQ 5 S x.wv x.ws e*(aQ 5 S x.tv x.ts D*(al S*F)))))):=g.u00;have G:=ae u;have I:=ae v;have H:=ae A;have q:=ae o;have C:=ae s;have E:=ae t;clear y z u v A o s t
 go_in
 go_wp2_with (go_at_call 239;apply (FV w b T a j 0 f x (c,l) d i _ p k C.o E.o I.o H.o G.o h0).mono;rintro i0 B ⟨dv,m,rfl,J,n⟩;clear b0 c0 d0 e0 f0;have g1:B.cell? ⟨b,1,Z⟩=Y (U Q 0):=n.cell 1;have f1:=n.frozen 1)
 go_ret2
 obtain ⟨rfl,h2⟩:=n.au.Cv q.o;refine ⟨S,_,Ext.refl S,rfl,?_,J.setCell _ _⟩;have h3:=h2.setCell 1 (U Q c);have h4:ag (B.setCell ⟨b,1,Z⟩ (U Q c)) (pt b (V ((({ x with av:=m }:Bx)).cells (.iface T a) c) 177 (0,0))*(aQ 5 S x.wv x.ws e*(aQ 5 S x.tv x.ts D*(fB m*(al S*(i*F)))))):=h3.u00;exact (ag.ic { x with av:=m } h4).jC q.o
def RA (rd:N) (w:R) (e:Ending) (a:R):Prop:=∃ b,e = K (W (Y ⟨b,0,Z⟩))/\(∀ S,ag a (aU 177 5 S b rd 0 [] []*whole w))/\aj w a
def B0 {w:R} {b:Nat} {rd:N} {F:ai} (h:ag w (pt b (V #[rd,U Q 0,.map Z,P M,.map Z,P M,.map Z] 177 (0,0))*F)) (S:Hp) :
  ag w (aU 177 5 S b rd 0 [] []*F):=by
 have c:∀ {w:R} {F:ai} (v:Bool),ag w F->ag w (aQ 5 S (.map Z) v []*F):=fun v h=>(h.to (cl _).symm).gZ fun k a=>by rw [a];exact IZ _ _ _
 have d:∀ {w:R} {F:ai},ag w F->ag w (fB (.map Z)*F):=fun h=>(h.to (cl _).symm).gZ fun k a=>.inl ⟨rfl,a⟩;exact ag.ic ⟨.map Z,M,.map Z,M,.map Z⟩ ((c M (c M (d h))).u00)
def zi (w:R) (T:TypeId) (a:N) :
  Calls X 69 #[.iface T a] w (RA (.iface T a) w):=by
 go_in
 go_wp2
 go_ret
 exact ⟨w.heap.size,rfl,fun S=>B0 ((ag.whole w).alloc _) S,(aj.refl w).alloc _⟩
def Th (b o:Nat) (d:Array N) (c:N) (G:ai) (w:R) (e:Ending) (a:R):Prop:=
 e = K (.agg #[c,P O])/\ag a (pt b (V (d.setIfInBounds (o+1) (P O)) 177 (0,0))*G)/\aj w a
def oS (w:R) (b o:Nat) (a:Array N) (r:Option Nat) (sh:Bool) (G:ai) (h:ag w (pt b (V a 177 (0,0))*G)) (c:a[o]?=Y (.map r)) (d:a[o+1]?=Y (P sh)) :
  Calls X 196 #[W (Y ⟨b,o,Z⟩)] w (Th b o a (.map r) G w):=by
 have g:w.cell? ⟨b,o,Z⟩=Y (.map r):=(h.cell o).trans c;have i:w.cell? ⟨b,o+1,Z⟩=Y (P sh):=(h.cell (o+1)).trans d;have j:∀ o,w.frozen? ⟨b,o,Z⟩=M:=h.frozen;have k:b<w.heap.size:=h.lt;have l:¬ (w.heap.size=b):=Om0
 have m:¬ (b=w.heap.size):=Om0
 have n:¬ (o=o+1):=Om0
 have e:=ae c;have f:=ae d;clear c d
 go_in
 go_wp2
 refine bodyPost_ret (v:=.agg #[.map r,P O]) (by simp [results,Tryz.results196,go_sem]) rfl ?_;exact ⟨rfl,((h.setCell (o+1) (P O)).alloc _).right,((aj.refl w).setCell _ _).alloc _⟩
def Uw (b:Nat) (S:Hp) (rd:N) (d:Int) (c D:CB) (F:ai) (w:R) (e:Ending) (g:R):Prop:=
 ∃ a f,Ext S a/\e = K (W (Y ⟨f,0,Z⟩))/\ag g (aU 177 5 a f rd d c D*(aU 177 5 a b rd d c D*(al a*F)))/\aj w g
def BS (w:R) (S:Hp) (b:Nat) (rd:N) (a:Int) (g D:CB) (F:ai)
  (h:ag w (aU 177 5 S b rd a g D*(al S*F))) (G:∃ T v,rd = .iface T v) :
  Calls X 146 #[W (Y ⟨b,0,Z⟩)] w (Uw b S rd a g D F w):=by
 obtain ⟨T,d,rfl⟩:=G;obtain ⟨x,i⟩:=h.et;obtain ⟨rw,o⟩:=i.ah.uC;obtain ⟨c,n⟩:=i.au.uC;obtain ⟨wv,r,tv,p,j⟩:=x;simp only at o n;subst o n;have b0:w.cell? ⟨b,0,Z⟩=Y (.iface T d):=i.cell 0;have c0:w.cell? ⟨b,1,Z⟩=Y (U Q a):=i.cell 1
 go_in
 go_wp2
 go_region_held3 (fun q=>q.cell? ⟨b,0,Z⟩=Y (.iface T d)/\q.cell? ⟨b,1,Z⟩=Y (U Q a)) (go_keep)
  (first
   | (go_at_call_of 196 (Value.pointer (Y ⟨b,2,Z⟩));apply (oS w.drew b 2 _ rw r _ i rfl rfl).mono;rintro e J ⟨rfl,k,s⟩;have y:=k.cell 0;have z:=k.cell 1;simp [Bx.cells] at y z)
   | (go_at_call_of 196 (Value.pointer (Y ⟨b,4,Z⟩));apply (oS J b 4 _ c p _ k rfl rfl).mono;rintro e m ⟨rfl,l,t⟩;have H:=l.cell 0;have I:=l.cell 1;simp [Bx.cells] at H I))
 go_wp2
 go_ret
 have A:=l.alloc (V #[.iface T d,U Q a,.map rw,P O,.map c,P O,.map Z] 177 (0,0))
 obtain ⟨f,C,h4⟩:=ag.AR (T:=5) (S:=S) (v:=.map rw) (sh:=r) (C:=g) (v':=.map c) (sh':=p) (C':=D) (F:=pt m.heap.size (V #[.iface T d,U Q a,.map rw,P O,.map c,P O,.map Z] 177 (0,0))*(pt b (V #[.iface T d,U Q a,.map rw,P O,.map c,P O,j] 177 (0,0))*(fB j*F))) (A.to (by
  show _*(pt b (V #[.iface T d,U Q a,.map rw,P O,.map c,P O,j] 177 (0,0))*_)=_
  ac_rfl))
 refine ⟨f,_,C,rfl,?_,(((aj.refl w).drew.trans s).trans t).alloc _⟩;have u:∀ {w:R} {F:ai},ag w F->ag w (fB (.map Z)*F):=fun h=>(h.to (cl _).symm).gZ fun d0 E=>.inl ⟨rfl,E⟩;have h5:=u h4;refine ag.ic ⟨.map rw,O,.map c,O,.map Z⟩ ?_
 have B:ag (m.alloc (V #[.iface T d,U Q a,.map rw,P O,.map c,P O,.map Z] 177 (0,0))) (aU 177 5 f b (.iface T d) a g D*(pt m.heap.size (V #[.iface T d,U Q a,.map rw,P O,.map c,P O,.map Z] 177 (0,0))*(aQ 5 f (.map rw) O g*(aQ 5 f (.map c) O D*(fB (.map Z)*(al f*F)))))):=
  ag.ic ⟨.map rw,O,.map c,O,j⟩ (h5.to (by simp only [Bx.cells];ac_rfl))
 exact B.to (by simp only [Bx.cells];ac_rfl)
def Vl (b f:Nat) (S:Hp) (rd:N) (d:Int) (c D:CB) (F:ai) (w:R) (e:Ending) (g:R):Prop:=
 ∃ a,Ext S a/\e = K (Z' #[])/\ag g (aU 177 5 a b rd d c D*(aU 177 5 a f rd d c D*(al a*F)))/\aj w g
def Ce (w:R) (S:Hp) (b f:Nat) (rd q:N) (a p:Int) (i D J I:CB) (F:ai)
  (h:ag w (aU 177 5 S b q p J I*(aU 177 5 S f rd a i D*(al S*F)))) (h0:∃ T v,rd = .iface T v) :
  Calls X 147 #[W (Y ⟨b,0,Z⟩),W (Y ⟨f,0,Z⟩)] w (Vl b f S rd a i D F w):=by
 obtain ⟨T,g,rfl⟩:=h0;obtain ⟨y,hy⟩:=h.et
 have A:ag w (aU 177 5 S f (.iface T g) a i D*(pt b (V (y.cells q p) 177 (0,0))*(fB y.av*(al S*F)))):=
  (hy.iD.iD).u00
 obtain ⟨x,c⟩:=A.et;obtain ⟨rw,z⟩:=c.ah.uC;obtain ⟨d,u⟩:=c.au.uC;obtain ⟨wv,H,tv,E,l⟩:=x;simp only at z u;subst z u;obtain ⟨yw,m0,yt,l0,j⟩:=y;clear h hy A;have n:f≠b:=ag.ne (c.aJ.ah);have i0:¬ (f=b):=n;have j0:¬ (b=f):=fun e=>n e.symm;have e0:w.cell? ⟨f,0,Z⟩=Y (.iface T g):=c.cell 0;have f0:w.cell? ⟨f,1,Z⟩=Y (U Q a):=c.cell 1;have b0:w.cell? ⟨b,0,Z⟩=Y q:=c.aJ.cell 0;have c0:w.cell? ⟨b,1,Z⟩=Y (U Q p):=c.aJ.cell 1;have d0:∀ o,w.frozen? ⟨b,o,Z⟩=M:=c.aJ.frozen;obtain ⟨k0,s,t⟩:=Option.map_eq_some_iff.1 (show (prog.info? 177).map (·.size)=Y 7 by kernel_rfl)
 have g0:(binOp .eql 74 (W (Y ⟨f,0,Z⟩)) (W (Y ⟨b,0,Z⟩))).run X w = .ok (P M) w:=
  run_eql_ptr_other w underlying74 s (by rw [t];decide) (by simp [n]) c.heap c.aJ.heap
 clear n s t;have h1:=((c.aJ.setCell 0 (.iface T g)).setCell 1 (U Q a)).yY
 go_in
 go_wp2_with fail
 apply (oS _ f 2 _ rw H _ h1 rfl rfl).mono;rintro e w1 ⟨rfl,m,d1⟩;clear e0 f0 b0 c0 d0 g0;have B:=m.aJ.cell 2;have k3:=m.aJ.cell 3;have C:∀ o,w1.frozen? ⟨b,o,Z⟩=M:=m.aJ.frozen;simp [Bx.cells] at B k3
 go_wp2_with fail
 have h3:=((m.aJ.setCell 2 (.map rw)).setCell 3 (P O)).yY;apply (oS _ f 4 _ d E _ h3 rfl rfl).mono;rintro e G ⟨rfl,h4,d2⟩;clear B k3 C;have k4:=h4.aJ.cell 4;have k5:=h4.aJ.cell 5;have C:∀ o,G.frozen? ⟨b,o,Z⟩=M:=h4.aJ.frozen;simp [Bx.cells] at k4 k5
 go_wp2
 go_end0
 have h5:=((h4.aJ.setCell 4 (.map d)).setCell 5 (P O)).yY;change ag _ (pt f (V #[.iface T g,U Q a,.map rw,P O,.map d,P O,l] 177 (0,0))*(_*(_*(_*(pt b (V #[.iface T g,U Q a,.map rw,P O,.map d,P O,j] 177 (0,0))*_))))) at h5
 obtain ⟨k,hE,r⟩:=ag.AR (T:=5) (S:=S) (v:=.map rw) (sh:=H) (C:=i) (v':=.map d) (sh':=E) (C':=D)
  (F:=pt f (V #[.iface T g,U Q a,.map rw,P O,.map d,P O,l] 177 (0,0))*(pt b (V #[.iface T g,U Q a,.map rw,P O,.map d,P O,j] 177 (0,0))*(fB l*(fB j*F)))) (h5.u00)
 refine ⟨k,hE,rfl,?_,(((((((aj.refl w).setCell _ _).setCell _ _).trans d1).setCell _ _).setCell _ _).trans d2).setCell _ _ |>.setCell _ _⟩;refine ag.ic ⟨.map rw,O,.map d,O,j⟩ ?_;generalize ((G.setCell _ _).setCell _ _)=w3 at r ⊢
 have h7:ag w3 (aU 177 5 k f (.iface T g) a i D*(pt b (V #[.iface T g,U Q a,.map rw,P O,.map d,P O,j] 177 (0,0))*(aQ 5 k (.map rw) O i*(aQ 5 k (.map d) O D*(fB j*(al k*F)))))):=
  ag.ic ⟨.map rw,O,.map d,O,l⟩ (r.to (by simp only [Bx.cells];ac_rfl))
 exact h7.to (by simp only [Bx.cells];ac_rfl)
end Go.Proofs.Ba

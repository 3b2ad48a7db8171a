/- Steps. -/
import Derived.Test.YtebfaobobccikaaGreatDoorLP38
import Derived.Test.YtebfaobobccikaaGreatDoorLP30
set_option linter.all false
set_option maxRecDepth 99999
set_option maxHeartbeats 0
open Go.SL
open Go.Value renaming int->Z,slice->R,string->L,tuple->Z'
open Go.Obj renaming cells->Y
open Go.Ending renaming returned->Q
open Go renaming World->U,Value->N
open Go.Proofs.Tryz renaming prog->W
open Option renaming some->X,none->V
open Bool renaming true->K
open Go.Proofs.Tryz
open Prod renaming fst->A1
open List renaming length_map->B1,setIfInBounds_toArray->E1,set_cons_zero->K1,set_cons_succ->M1,getElem?_eq_getElem->O1
open Go.World renaming size_alloc->L1
open Option renaming isSome_map->N1
namespace Go.Proofs.Cl
open RowKit SL Proofs.Nn Proofs.Ba Proofs.Su Proofs.Fs
theorem zQ (s j k:Nat) (w:U) (h:w.cell? ⟨s,0,V⟩=X (az j)):(method (k+1) 86 (az s) "Read").run W w = .ok (316,az j) w:=by
 have e:(method (k+1) 86 (az s) "Read").run W w=(do let v <- loadVar 122 ⟨s,0,V⟩; pure (316,v):Sem (FuncId×N)).run W w:=by kernel_rfl
 rw [e];simp [go_sem,h]
theorem Ef (e:Array N) (w:U):(callFunc 316 e).run W w = .ok (.enter 316 e) w:=by kernel_rfl
structure Pl where
 f:Nat
 s:Nat
 j:Nat
 d:Nat
 n:Nat
 P:Nat
def zM (t:Pl) (Sd:Hp):Cx (Jr × aC):=⟨86,az t.s,316,az t.j,fun w=>w.cell? ⟨t.s,0,V⟩=X (az t.j),Qm,Oc t.s t.j t.d t.n t.P Sd⟩
section
variable {w w':U} {s j d n P:Nat} {Sd:Hp} {x:Jr × aC} {F:ai}
theorem nF (h:ag w (Oc s j d n P Sd x*F)):(x.1.Ok/\x.2.Ok)/\ag w (eH s j d n P x.1*(aS Sd d x.2*(aq Sd*F))):=by
 obtain ⟨e,g⟩:=ag.au.1 (h.to (ay _ _ _));exact ⟨e,g.to (by ac_rfl)⟩
theorem Ck (e:x.1.Ok) (g:x.2.Ok) (h:ag w (eH s j d n P x.1*(aS Sd d x.2*(aq Sd*F)))):ag w (Oc s j d n P Sd x*F):=
 (ag.au.2 ⟨⟨e,g⟩,h.to (by ac_rfl:_=(eH s j d n P x.1*(aS Sd d x.2*aq Sd))*F)⟩:ag w (fact _*_)).to (ay _ _ _).symm
theorem rE {J:Jr} (h:ag w (eH s j d n P J*F)):w.cell? ⟨s,0,V⟩=X (az j):=by
 have e:ag w (pt s (Y #[az j,Z .i64 (n:Int),Z .i64 (P:Int)] 124 (0,0))*(pH j d J*F)):=h.to (by unfold eH;ac_rfl);exact e.cell 0
end
theorem Kz (t:Pl) (Sd:Hp):(zM t Sd).Ok:=by
 refine ⟨fun x F w h=>?_,fun k w h=>zQ t.s t.j k w h,fun y w=>Ef y w,fun x id F w h=>?_,fun x id _=>?_⟩
 .exact rE (nF (F:=F) h).2
 .obtain ⟨J,D⟩:=x
  obtain ⟨⟨g,i⟩,E⟩:=nF (F:=F) h;have g:=g;have i:=i;have:=F8 w Sd t.j t.d J D id (pt t.s (Y #[az t.j,Z .i64 (t.n:Int),Z .i64 (t.P:Int)] 124 (0,0))*F) (E.to (by unfold eH;ac_rfl)) g i;refine this.mono ?_;rintro e w' ⟨u,rfl,h4,C⟩;obtain ⟨H,I⟩:=Lw g i id;refine ⟨u,rfl,?_,C⟩;have G:ag w' (eH t.s t.j t.d t.n t.P (J.read D id).2.1*(aS Sd t.d (J.read D id).2.2*(aq Sd*(pN 5 (J.read D id).1 u*F)))):=h4.to (by unfold eH;ac_rfl);exact (Ck (x:=((J.read D id).2.1,(J.read D id).2.2)) H I G).to (by ac_rfl:_=pN 5 (J.read D id).1 u*(Oc t.s t.j t.d t.n t.P Sd ((J.read D id).2.1,(J.read D id).2.2)*F))
 .show (Jr.read x.1 x.2 id).1.2.length<=1000000
  have:=qF x.1 x.2 id;omega
abbrev wQ:Hp:=fun _=>V
def im (t:Pl) (e:N):Obj:=Y #[az t.s,e] 91 (0,0)
theorem wF {P:Program} {w:U} {t h e:TypeId} (g:P.underlying t=X (.map h e)) (ty:TypeId) :
  (Builtin.len_ #[t] ty #[.map V]).run P w = .ok (Z .i64 0) w:=by
 simp [Builtin.len_,run_underlying g,goInt]
theorem tq {w:U} {S:Hp} {b:Nat} {rd:N} {i:Int} {g D:CB} {F:ai} (h:ag w (aB 176 5 S b rd i g D*(aq S*F))):(g.map A1).Nodup:=by
 obtain ⟨x,y⟩:=h.eh;obtain ⟨u,E,C,_⟩:=(y.to (by ac_rfl:_=aQ 5 S x.wv x.ws g*(aq S*(pt b (Y (x.cells rd i) 176 (0,0))*(aQ 5 S x.tv x.ts D*(fy x.av*F)))))).lv;have e:(g.map A1).Perm (u.map A1):=by grind
 exact e.nodup_iff.2 C
theorem NN (w:U) (S:Hp) (b:Nat) (rd:N) (y:Int) (g D:CB) (F:ai)
  (h:ag w (aB 176 5 S b rd y g D*(aq S*F))) :
  Calls W 76 #[.pointer (X ⟨b,0,V⟩)] w fun e w'=>e = Q (Z .i64 g.length)/\w=w':=by
 obtain ⟨x,E⟩:=h.eh;have b0:w.cell? ⟨b,2,V⟩=X x.wv:=E.cell 2
 have c0:(Builtin.len_ #[172] 3 #[x.wv]).run W w = .ok (Z .i64 g.length) w:=by
  obtain ⟨u,z1,z2,z3,I,_⟩:=(E.to (by ac_rfl:_=aQ 5 S x.wv x.ws g*(aq S*(pt b (Y (x.cells rd y) 176 (0,0))*(aQ 5 S x.tv x.ts D*(fy x.av*F)))))).lv;have C:g.length=u.length:=by have:=z1.length_eq;simpa using this.symm
  rcases I with ⟨i,M⟩|⟨m,o,i,G,H⟩
  .have:u=[]:=by simpa using M
   rw [C,i,this,wF underlying172];rfl
  .rw [C,i,CC G H underlying172];simp
 go_enter func76,ntmps76
 go_wp2
 go_ret
 exact ⟨rfl,rfl⟩
theorem Ae {P:Program} {i:Func} {C:Ending->U->Prop} {t G:Array N} (he:∀ w,(results i t).run P w=(results i G).run P w):∀ (g:List Deferred) (u:FrameMode) (w:U),Leaves P i t C g u w->Leaves P i G C g u w:=by
 intro g
 induction g with
 | nil=>
  intro u w h
  cases u with
  | run=>exact h
  | returning=>
   obtain ⟨v,hr,S⟩:=h;exact ⟨v,(he w).symm.trans hr,S⟩
  | panicking c=>exact h
 | cons d g E=>
  intro u w h;obtain ⟨d0,M,I,f,H,e0,c0,b0⟩:=h;refine ⟨d0,M,I,f,H,e0,c0,b0.mono fun e u' w' y=>?_⟩
  cases e with
  | returned v=>exact E _ _ y
  | panicked c=>exact E _ _ y
  | outgrown=>exact y
theorem Pe {e:Ending->U->Prop} {c:List PanicEntry} {a:Act} {w:U} {k:Nat} {v:N} (g:k≠4) (h:bodyPostD W Tryz.f29 e (.panic c) (a.put (X k) v) w):bodyPostD W Tryz.f29 e (.panic c) a w:=by
 refine Ae (fun w=>?_) _ _ _ h;simp [results,Tryz.results29,Act.put,Array.getElem?_setIfInBounds,g]
theorem DV {e:Array Oper} {C:Region.Mode} {S:U->Prop} {u:Exit->Act->U->Prop} (i:Nat) {g:Oper} {v:N} {E:Nat} {y:Array Bool} {a:Act} {w:U} {q:Prop} (h:q)
  (hi:e[i]?=X g:=by rfl) (hs:Region.noSelect e=K:=by kernel_rfl) (M:Region.free C e y i=K:=by kernel_rfl) (hr:(Region.ready C e y).contains i=K:=by kernel_rfl)
  (G:∀ c a w,u (.panic c) (a.put g.dst v) w->u (.panic c) a w:=by exact fun _ _ _ h=>Pe (by decide) h) (hw:Region.wanted g (yielded e a.tmps)=K:=by kernel_rfl)
  (hv:∀ w,S w->(execOp a.eval g).run W w = .ok (.value v) w:=by intro w I;(try dsimp only at I);go_simp;try with_reducible rfl) (H:S w:=by assumption)
  (hk:q->wpAnyH W C e u S E (y.setIfInBounds i K) (a.put g.dst v) w:=by intro hx;(try simp only [Go.SL.tz,Go.Act.put]);exact hx):wpAnyH W C e u S (E+1) y a w:=
 wpAnyH_take hi hs M hr G (.inl ⟨hw,hv⟩) H (hk h)
theorem IY {n:Int} {e:List Wr} (h:Batch n (cq e)):GA n e:=by
 have E:(cq e).length=e.length:=by unfold cq;rw [B1]
 refine ⟨by rw [<- E];exact h.n0,by rw [<- E];exact h.n1,fun k y=>?_⟩;have C:k<(cq e).length:=by omega
 have G:=List.getElem_mem C;have g:(e.getD k Wr.nil).1=(cq e)[k].1:=by rw [List.getD,O1 y];simp [cq]
 have M:(e.getD k Wr.nil).2.2=(cq e)[k].2:=by rw [List.getD,O1 y];simp [cq]
 have u:=h.id _ G;refine ⟨by rw [g];exact u.1,by rw [g];exact u.2,by rw [M];exact h.QZ _ G,?_⟩;rw [g];intro hx;obtain ⟨z,I,b0⟩:=List.mem_map.1 hx;rw [List.mem_take_iff_getElem] at I;obtain ⟨i,hi,rfl⟩:=I;have S:(e[i]'(by omega)).1=((cq e)[i]'(by omega)).1:=by simp [cq]
 have H:=h.nd;rw [List.Nodup,List.pairwise_iff_getElem] at H;have:=H i k (by rw [B1];omega) (by rw [B1];exact C) (by omega);apply this;rw [List.getElem_map,List.getElem_map,<- b0,S]
def UU (t:Pl) (J:Jr) (D:aC) (H:ai) (w:U) (e:Ending) (w':U):Prop:=
 ∃ S,e = Q (Z .i64 0)/\aj w w'/\ag w' (eH t.s t.j t.d t.n t.P J*(aS S t.d D*(aq S*H)))
theorem Bb (t:Pl) (w:U) (S g:Hp) (v:N) (h:CB) (J u:Jr) (D i:aC) (has:Has) (H:ai) (C:fK J D has) (I:Batch J.n h) (d0:eM J D K h=(0,u,i))
  (c0:ag w (gI 188 5 g v h*(eH t.s t.j t.d t.n t.P J*(aS S t.d D*(aq S*(aq g*H)))))) :
  Calls W 77 #[az t.j,v] w (UU t u i H w):=by
 obtain ⟨e,E,hV,h1⟩:=c0.lQ;have G:e.length=h.length:=by rw [<- E,B1]
 obtain ⟨h2,e1,e2⟩:=ag.AE (h1.to (by ac_rfl:_=aq S*(aq g*(aS S t.d D*(eH t.s t.j t.d t.n t.P J*(sl 188 2 v h.length (qM e)*H))))));have h3:=(h2.to (by ac_rfl:_=aS S t.d D*(aq (join S g)*(eH t.s t.j t.d t.n t.P J*(sl 188 2 v h.length (qM e)*H))))).fp (xP e1)
 have h4:ag w (pH t.j t.d J*(aS (join S g) t.d D*(aq (join S g)*(sl 188 2 v e.length (bR e)*(pt t.s (Y #[az t.j,Z .i64 (t.n:Int),Z .i64 (t.P:Int)] 124 (0,0))*H))))):=by
  rw [G];exact h3.to (by unfold eH;show _*(_*(_*(sl _ 2 v _ (qM e)*H)))=_*(_*(_*(sl _ 2 v _ (qM e)*_)));ac_rfl)
 have M:cq e=h:=E
 have hr:Reads (join S g) v e (sl 188 2 v e.length (bR e)*(pt t.s (Y #[az t.j,Z .i64 (t.n:Int),Z .i64 (t.P:Int)] 124 (0,0))*H)):=by
  intro S' b0 w' hE hs;refine ⟨xo (hs.to (by ac_rfl:_=sl 188 2 v e.length (bR e)*(b0*(aq S'*(pt t.s (Y #[az t.j,Z .i64 (t.n:Int),Z .i64 (t.P:Int)] 124 (0,0))*H))))),fun z hz=>?_⟩;exact ((hV z hz).mono (e2.trans hE)).rd hs.ah
 have:=BP w (join S g) t.j t.d J D _ v e h4 C.ok C.nums C.Jg (by rw [G];have:=I.n1;omega) hr K ⟨fun _=>IY (by rw [M];exact I),fun _=>rfl⟩;rw [M,d0] at this;refine this.mono ?_;rintro e0 w' ⟨y,-,rfl,h5,d5⟩;refine ⟨y,rfl,d5,?_⟩;exact (h5.to (by unfold eH;ac_rfl:_=sl 188 2 v e.length (bR e)*(eH t.s t.j t.d t.n t.P u*(aS y t.d i*(aq y*H))))).right
def Uk (n P:Nat) (w:U) (e:Ending) (w':U):Prop:=e = Q (.agg #[Z .i64 (n:Int),Z .i64 (P:Int)])/\ag w' (whole w)/\aj w w'
def U5 (t:Pl) (S:Hp) (u:N) (v b:Nat) (i:Int->ik (Jr × aC)->ai->Prop) (H:ai) (y:U) (e:Ending) (w':U):Prop:=
 ∃ c h M g,i c M g/\((c=0/\e = Q (Z' #[]))\/(c≠0/\e = .panicked (nt c)))/\aj y w' /\
  ag w' (pt t.f (im t u)*(pt v (bT b t.n)*(cH (zM t S) h b M*(aq h*(g*H)))))
def RN (t:Pl) (S:Hp) (g:N) (J:Jr) (D:aC) (u:FuncId) (i:Array N) (G:ai) (h:Int->ik (Jr × aC)->ai->Prop):Prop:=
 ∀ (v b:Nat) (e:U) (H:ai),ag e (pt t.f (im t g)*(pt v (bT b t.n)*(cH (zM t S) wQ b ⟨0,[],[],(J,D)⟩*(aq wQ*(G*H)))))->Calls W u (#[az v]++i) e (U5 t S g v b h H e)
def VM (t:Pl) (i:Int->ik (Jr × aC)->ai->Prop):Prop:=
 ∀ c M g,i c M g->c=0->(M.W.map A1).Nodup->M.W≠[]->∃ has h e,fK M.s.1 M.s.2 has/\M.s.1.n=(t.n:Int)/\Batch (t.n:Int) (iq M.W)/\eM M.s.1 M.s.2 K (iq M.W)=(0,h,e)
def Vs (t:Pl) (C:N) (y:Int->ik (Jr × aC)->ai->Prop) (F:ai) (w:U) (e:Ending) (w':U):Prop:=
 ∃ c M i u h g,y c M i/\(M.W.map A1).Nodup/\e = Q (Z .i64 c)/\aj w w' /\
  ag w' (pt t.f (im t C)*(eH t.s t.j t.d t.n t.P h*(aS u t.d g*(aq u*(i*F))))) /\
  (c=0->M.W≠[]->eM M.s.1 M.s.2 K (iq M.W)=(0,h,g))/\((c≠0\/M.W=[])->M.s=(h,g))
theorem Db (t:Pl) (w:U) (S:Hp) (J:Jr) (D:aC) (g:N) (jf:FuncId) (F0:Array N) (e0 F:ai) (Pj:Int->ik (Jr × aC)->ai->Prop) (hJ:J.Ok) (hD:D.Ok)
  (mT:∀ (D0:Array N) (w:U),(callFunc jf D0).run W w = .ok (.enter jf D0) w) (hj:RN t S g J D jf F0 e0 Pj) (hm:VM t Pj)
  (h:ag w (pt t.f (im t g)*(eH t.s t.j t.d t.n t.P J*(aS S t.d D*(aq S*(e0*F)))))) :
  Calls W 29 #[az t.f,.func (.func jf) #[] F0] w (Vs t g Pj F w):=by
 refine aJ fun i1 HQ=>?_;have Hj:=ae hj;have Hm:=ae hm;have HJ:=ae hJ;have HD:=ae hD;have cf:w.cell? ⟨t.f,0,V⟩=X (az t.s):=h.cell 0;have e1:t.f<w.heap.size:=h.lt;clear hj hm hJ hD
 go_enter_defers func29,ntmps29
 have H1:=h.alloc (Y #[Z .i64 0] 28 (0,0));have D1:=(aj.refl w).alloc (Y #[Z .i64 0] 28 (0,0))
 go_wp2_with fail
 generalize w.alloc (Y #[Z .i64 0] 28 (0,0))=w3 at *;generalize w.heap.size=u at *;obtain ⟨m0,h0⟩:∃ M,M=pt u (Y #[Z .i64 0] 28 (0,0))*(pt t.f (im t g)*(eH t.s t.j t.d t.n t.P J*(aS S t.d D*(aq S*(e0*F))))):=⟨_,rfl⟩
 have hF:∀ w' M,ag w' (M*m0)->w'.cell? ⟨t.f,0,V⟩=X (az t.s):=fun w' M hx=>by
  rw [h0] at hx;exact hx.aw.cell 0
 have hG:∀ w' M,ag w' (M*m0)->Calls W 75 #[az t.s] w' (Uk t.n t.P w'):=fun w' M hx=>by
  rw [h0] at hx;exact LI w' t.s t.j t.d t.n t.P J _ (hx.to (by ac_rfl:_=eH t.s t.j t.d t.n t.P J*(M*(pt u (Y #[Z .i64 0] 28 (0,0))*(pt t.f (im t g)*(aS S t.d D*(aq S*(e0*F))))))))
 rw [<- h0] at H1;have c0:=hF w3 emp (H1.to (di _).symm);have HF:=ae hF;have HG:=ae hG;have l1:∀ w,(Instr.field 118 (.agg #[Z .i64 (t.n:Int),Z .i64 (t.P:Int)]) 0).run W w = .ok (Z .i64 (t.n:Int)) w:=fun w=>by kernel_rfl
 have H3:=ae H1;have D3:=ae D1;have HB:=ae h0;clear H1 D1 hF hG h0 cf h e1
 go_cut [5] from 17 to 33 (fun u5 wx=>∃ v b,u5=az v/\ag wx (pt v (bT b t.n)*(aB 176 5 wQ b (.iface 86 (az t.s)) 0 [] []*m0))/\aj w wx)
 case first=>
  refine wp_region_held_drew (S:=(fun w'=>w'.cell? ⟨t.f,0,V⟩=X (az t.s))) (by kernel_rfl) ?_ (fun i0=>?_)
  .first|exact c0|exact c1|exact c2|exact bN _ _ _ _ c1|exact bN _ _ _ _ c2
  refine DV 0 ?_;refine DV 1 ?_;refine DV 2 ?_;refine DV 3 ?_;refine DV 4 ?_;refine DV 5 ?_;refine DV 7 ?_;refine DV 8 ?_;refine DV 9 ?_;refine DV 10 ?_;refine DV 11 ?_;refine wpAnyH_ready (rs:=[6]) (by kernel_rfl) (by simp) ?_;refine AllReadyH.cons rfl (fun g0 hK=>?_) AllReadyH.nil
  go_simp
  go_wp2_with (go_at_call 74;go_loud ((with_reducible refine (Ba.zf _ 86 (az t.s)).mono ?_);rintro b0 I ⟨b,rfl,h4,d4⟩;have hn:=(h4 wQ).under H3.out.drew;have c1:I.cell? ⟨t.f,0,V⟩=X (az t.s):=HF.out I _ hn))
  refine hK.out _ _ ?_ (fun i0=>?_)
  .first|exact c0|exact c1|exact c2|exact bN _ _ _ _ c1|exact bN _ _ _ _ c2
  clear hK g0;refine wpAnyH_ready (rs:=[12]) (by kernel_rfl) (by simp) ?_;refine AllReadyH.cons rfl (fun g0 hK=>?_) AllReadyH.nil
  go_simp
  go_wp2_with (go_at_call 75;go_loud ((with_reducible refine (HG.out I _ hn).mono ?_);rintro b0 w5 ⟨rfl,h5,d5⟩;have hg:=((h5.to (di _).symm).under hn).right;have c2:w5.cell? ⟨t.f,0,V⟩=X (az t.s):=HF.out w5 _ hg))
  refine hK.out _ _ ?_ (fun i0=>?_)
  .first|exact c0|exact c1|exact c2|exact bN _ _ _ _ c1|exact bN _ _ _ _ c2
  clear hK g0;refine DV 13 ?_;refine DV 14 ?_;refine DV 15 ?_;refine wpAnyH_ready (rs:=[16]) (by kernel_rfl) (by simp) ?_;refine AllReadyH.cons rfl (fun g0 hK=>?_) AllReadyH.nil
  go_simp
  refine hK.out _ _ ?_ (fun i0=>?_)
  .first|exact c0|exact c1|exact c2|exact bN _ _ _ _ c1|exact bN _ _ _ _ c2
  clear hK g0;refine DV 17 ?_;refine wpAnyH_done (by kernel_rfl) ?_ _
  go_wp2_with fail
  go_meet
  exact ⟨_,b,rfl,(hg.alloc (bT b t.n)).to (by ac_rfl),((D3.out.drew.trans d4).trans d5).alloc _⟩
 case rest=>
  clear c0 HF HG H3 D3;obtain ⟨v,b,rfl,N0,f1⟩:=hcut;rw [HB.out] at N0
  have a1:ag wc (pt t.f (im t g)*(pt v (bT b t.n)*(cH (zM t S) wQ b ⟨0,[],[],(J,D)⟩*(aq wQ*(e0*(pt u (Y #[Z .i64 0] 28 (0,0))*F)))))):=by
   have h6:ag wc (fact (J.Ok/\D.Ok)*_):=ag.au.2 ⟨⟨HJ.out,HD.out⟩,ag.zH N0⟩;have b0:cH (zM t S) wQ b ⟨0,[],[],(J,D)⟩=aB 176 5 wQ b (.iface 86 (az t.s)) 0 [] []*(fact (J.Ok/\D.Ok)*(eH t.s t.j t.d t.n t.P J*(aS S t.d D*aq S))):=rfl;rw [b0];exact h6.to (by show fact _*(aq wQ*_)=_;ac_rfl)
  have H0:=ae (Hj.out v b wc _ a1);have x0:=ae f1
  go_wp2_with fail
  refine H0.out.mono ?_;clear H0;rintro b0 I ⟨c,i,o0,H,hP,he,d4,h4⟩;have HP:=ae hP;have D4:=ae (x0.out.trans d4);clear hP d4 x0;rcases he with ⟨rfl,rfl⟩|⟨hc,rfl⟩
  .obtain ⟨E,e,y,C,G⟩:=o0
   have d0:ag I (aB 176 5 i b (.iface 86 (az t.s)) E e y*(aq i*(Oc t.s t.j t.d t.n t.P S (C,G)*(pt t.f (im t g)*(pt v (bT b t.n)*(H*(pt u (Y #[Z .i64 0] 28 (0,0))*F))))))):=h4.to (by unfold cH zM Cx.rd;ac_rfl);have l0:=tq d0;have j0:=ae (NN I i b _ E e y _ d0);have c1:I.cell? ⟨v,0,V⟩=X (az b):=h4.ah.cell 0;obtain ⟨⟨q0,p0⟩,h5⟩:=nF (d0.to (by ac_rfl:_=Oc t.s t.j t.d t.n t.P S (C,G)*(aB 176 5 i b (.iface 86 (az t.s)) E e y*(aq i*(pt t.f (im t g)*(pt v (bT b t.n)*(H*(pt u (Y #[Z .i64 0] 28 (0,0))*F))))))));dsimp only at h5 q0 p0;have H5:=ae h5;have n0:=ae l0;clear h4 d0 h5 l0
   by_cases hw:e=[]
   .subst hw
    have h1:=ae q0;have g1:=ae p0;clear Hm q0 p0 mT;have h6:=H5.out.to (by ac_rfl:_=pt u (Y #[Z .i64 0] 28 (0,0))*((aB 176 5 i b (.iface 86 (az t.s)) E [] y*(aq i*pt v (bT b t.n)))*(pt t.f (im t g)*(eH t.s t.j t.d t.n t.P C*(aS S t.d G*(aq S*(H*F)))))));have z0:=h6.cell 0;have f0:I.frozen? ⟨u,0,V⟩=false:=h6.frozen 0;have h7:=h6.setCell 0 (Z .i64 0);have W0:=ae (h7.cell 0);have H7:=ae h7.right.right;have D7:=ae (D4.out.setCell ⟨u,0,V⟩ (Z .i64 0));clear h6 h7 H5
    go_wp2_with fail
    refine j0.out.mono ?_;rintro b0 w5 ⟨rfl,rfl⟩;clear j0
    go_wp2_with fail
    refine yr rfl W0.out (HQ.out _ _ ⟨0,⟨E,[],y,C,G⟩,H,S,C,G,HP.out,n0.out,rfl,D7.out,H7.out,fun _ h=>absurd rfl h,fun _=>rfl⟩)
   .obtain ⟨has,J2,D2,hI,L0,G0,K0⟩:=Hm.out 0 _ _ HP.out rfl n0.out hw
    dsimp only at hI L0 G0 K0;have m1:(0:Int)<(e.length:Int):=by have:=List.length_pos_iff.2 hw;omega
    have HI:=ae hI;have r0:=ae G0;have s0:=ae K0;have T0:=ae L0;have Hw:=ae hw;have hX:=H5.out.to (by ac_rfl:_=aB 176 5 i b (.iface 86 (az t.s)) E e y*(aq i*(eH t.s t.j t.d t.n t.P C*(aS S t.d G*(aq S*(pt t.f (im t g)*(pt v (bT b t.n)*(H*(pt u (Y #[Z .i64 0] 28 (0,0))*F)))))))));have Y0:e.length<=1000000:=by have:=r0.out.n1;rw [zy] at this;omega
    have d1:=fun w' h=>JI w' i b (.iface 86 (az t.s)) E e y (eH t.s t.j t.d t.n t.P C*(aS S t.d G*(aq S*(pt t.f (im t g)*(pt v (bT b t.n)*(H*(pt u (Y #[Z .i64 0] 28 (0,0))*F))))))) Y0 h;have k0:I.cell? ⟨t.f,0,V⟩=X (az t.s)/\I.cell? ⟨t.s,0,V⟩=X (az t.j)/\I.cell? ⟨v,0,V⟩=X (az b):=⟨(hX.dI).cell 0,rE (hX.aw),c1⟩
    have HX:=ae hX;have V0:=ae d1;have b1:∀ (w':U) (M:ai) (J3:Jr) ,ag w' (pt t.f (im t g)*(eH t.s t.j t.d t.n t.P J3*(pt v (bT b t.n)*M)))->w'.cell? ⟨t.f,0,V⟩=X (az t.s)/\w'.cell? ⟨t.s,0,V⟩=X (az t.j)/\w'.cell? ⟨v,0,V⟩=X (az b):=fun w' M J3 h=>⟨h.cell 0,rE h.ah,h.aw.cell 0⟩
    have u0:=ae b1;have Z0:=fun w' S2 vL h=>Bb t w' S S2 vL (iq e) C J2 G D2 has (aB 176 5 S2 b (.iface 86 (az t.s)) E e y*(pt t.f (im t g)*(pt v (bT b t.n)*(H*(pt u (Y #[Z .i64 0] 28 (0,0))*F))))) HI.out (by rw [T0.out];exact r0.out) s0.out h;have S0:=ae Z0;have R0:=ae fun w=>dm w
    go_wp2_with fail
    refine j0.out.mono ?_;rintro b0 w5 ⟨rfl,rfl⟩;clear j0
    go_wp2_with fail
    go_region_held3 (fun w'=>w'.cell? ⟨t.f,0,V⟩=X (az t.s)/\w'.cell? ⟨t.s,0,V⟩=X (az t.j)/\w'.cell? ⟨v,0,V⟩=X (az b))
     (first|exact k0|exact k1|exact k2|exact k3|go_keep)
     (first
      | (go_at_call 78;refine (V0.out _ HX.out.drew).mono ?_;rintro b0 w6 ⟨S2,vL,j1,rfl,hL,dL⟩;have k1:=u0.out w6 _ C (hL.to (by ac_rfl:_=pt t.f (im t g)*(eH t.s t.j t.d t.n t.P C*(pt v (bT b t.n)*(gI 188 5 S2 vL (iq e)*(aB 176 5 S2 b (.iface 86 (az t.s)) E e y*(aq S2*(aS S t.d G*(aq S*(H*(pt u (Y #[Z .i64 0] 28 (0,0))*F))))))))))))
      | (go_at_call 77;refine (S0.out _ S2 vL (hL.to (by ac_rfl))).mono ?_;rintro b0 w7 ⟨S3,rfl,d7,h7⟩;have k2:=u0.out w7 _ J2 (h7.to (by ac_rfl:_=pt t.f (im t g)*(eH t.s t.j t.d t.n t.P J2*(pt v (bT b t.n)*(aS S3 t.d D2*(aq S3*(aB 176 5 S2 b (.iface 86 (az t.s)) E e y*(H*(pt u (Y #[Z .i64 0] 28 (0,0))*F))))))))))
      | (go_at_call 34;refine (R0.out _).mono ?_;rintro b0 w8 ⟨rfl,rfl⟩))
    rename_i i0;have h8:=h7.to (by ac_rfl:_=pt u (Y #[Z .i64 0] 28 (0,0))*((aB 176 5 S2 b (.iface 86 (az t.s)) E e y*pt v (bT b t.n))*(pt t.f (im t g)*(eH t.s t.j t.d t.n t.P J2*(aS S3 t.d D2*(aq S3*(H*F)))))));have z0:=h8.cell 0;have f0:w7.frozen? ⟨u,0,V⟩=false:=h8.frozen 0;have h9:=h8.setCell 0 (Z .i64 0);have X0:=ae (h9.cell 0);have H9:=ae h9.right.right;have D9:=ae (((D4.out.drew.trans dL).trans d7).setCell ⟨u,0,V⟩ (Z .i64 0));clear h7 h8 h9 dL d7
    go_wp2_with fail
    refine yr rfl X0.out (HQ.out _ _ ⟨0,⟨E,e,y,C,G⟩,H,S3,J2,D2,HP.out,n0.out,rfl,D9.out,H9.out,fun _ _=>s0.out,fun h=>?_⟩);rcases h with h|h
    .exact absurd rfl h
    .exact absurd h Hw.out
  .have hd:(c:Int)≠0:=hc
   have h5:ag I (pt u (Y #[Z .i64 0] 28 (0,0))*(pt t.f (im t g)*(pt v (bT b t.n)*(cH (zM t S) i b o0*(aq i*(H*F)))))):=h4.to (by ac_rfl);obtain ⟨E,e,y,C,G⟩:=o0;have d0:ag I (aB 176 5 i b (.iface 86 (az t.s)) E e y*(aq i*(Oc t.s t.j t.d t.n t.P S (C,G)*(pt t.f (im t g)*(pt v (bT b t.n)*(H*(pt u (Y #[Z .i64 0] 28 (0,0))*F))))))):=h4.to (by unfold cH zM Cx.rd;ac_rfl);have l0:=tq d0;refine Gz hc rfl h5 fun w' h6 d6=>HQ.out _ _ ⟨c,⟨E,e,y,C,G⟩,H,S,C,G,HP.out,l0,rfl,D4.out.trans d6,?_,fun h=>absurd h hc,fun _=>rfl⟩;have h7:ag w' (Oc t.s t.j t.d t.n t.P S (C,G)*((aB 176 5 i b (.iface 86 (az t.s)) E e y*(aq i*pt v (bT b t.n)))*(pt t.f (im t g)*(H*F)))):=h6.to (by unfold cH zM Cx.rd;ac_rfl);obtain ⟨-,h8⟩:=nF h7;exact (h8.to (by ac_rfl:_=(aB 176 5 i b (.iface 86 (az t.s)) E e y*(aq i*pt v (bT b t.n)))*(pt t.f (im t g)*(eH t.s t.j t.d t.n t.P C*(aS S t.d G*(aq S*(H*F))))))).right
structure Ds where
 J:Jr
 D:aC
 has:Has
 B:Nat
structure Ds.Rd (s s':Ds):Prop where
 J:s'.J=s.J
 D:∃ r,s'.D={ s.D with cr:=r }
 has:s'.has=s.has
 B:s'.B=s.B
def Ds.Cm (n:Nat) (s s':Ds):Prop:=∃ r e,Batch (n:Int) e/\eM s.J { s.D with cr:=r } K e=(0,s'.J,s'.D)/\s'.has=mP s.has e/\s'.B=s.B+1
structure PH {n:Nat} (q:Dk n) (s:Ds) (A:Nat->Option AF) (k:Nat):Prop where
 q:q.Q s.B s.J s.D s.has
 has:Go.SL.Has n ⟨jw s.has,jw s.has 0⟩ A k
theorem PH.rd {n:Nat} {q:Dk n} {s s':Ds} {A:Nat->Option AF} {k:Nat} (h:PH q s A k) (r:s.Rd s'):PH q s' A k:=by
 obtain ⟨E,C,G,y⟩:=s';obtain ⟨e,⟨r,g⟩,i,u⟩:=r;dsimp only at e g i u;subst e;subst g;subst i;subst u;exact ⟨q.cr h.q r,h.has⟩
def rC (t:Pl) (s:Ds):ai:=ex fun S=>eH t.s t.j t.d t.n t.P s.J*(aS S t.d s.D*aq S)
section
variable {t:Pl} {s:Ds} {w:U} {F:ai}
theorem yY (h:ag w (rC t s*F)):∃ S,ag w (eH t.s t.j t.d t.n t.P s.J*(aS S t.d s.D*(aq S*F))):=by
 obtain ⟨S,e⟩:=ag.ax.1 h;exact ⟨S,e.to (by ac_rfl)⟩
theorem mx {S:Hp} (h:ag w (eH t.s t.j t.d t.n t.P s.J*(aS S t.d s.D*(aq S*F)))):ag w (rC t s*F):=
 ag.ax.2 ⟨S,h.to (by ac_rfl)⟩
end
def Uz (t:Pl) (u:N) (x:Fx t.n) (v b:Nat) (P:Int->Nat->(Nat->Option AF)->Nat->ai->Prop) (H:ai) (y:U) (e:Ending) (w':U):Prop:=
 ∃ c g i h m,P c m g i h/\((c=0/\e = Q (Z' #[]))\/(c≠0/\e = .panicked (nt c)))/\aj y w'/\m<=24 /\
  ag w' (pt t.f (im t u)*(pt v (bT b t.n)*(dS (x.more m) b g i*(h*H))))
def UX (t:Pl) (u:N) (q:Dk t.n) (s:Ds) (P:Int->Nat->(Nat->Option AF)->Nat->ai->Prop) (F:ai) (w:U) (e:Ending) (w':U):Prop:=
 ∃ c m g i h s',P c m g i h/\e = Q (Z .i64 c)/\aj w w'/\ag w' (pt t.f (im t u)*(rC t s'*(h*F))) /\
  (m=0->s.Rd s')/\((c≠0/\s.Rd s')\/(c=0/\PH q s' g i/\(s.Rd s'\/s.Cm t.n s')))
theorem P8 (t:Pl) (q:Dk t.n) (h4:4<=t.n) (hn:t.n<=3840) (w:U) (s:Ds) (A:Nat->Option AF) (k:Nat) (C:N) (jf:FuncId) (g0:Array N) (b0 F:ai) (P:Int->Nat->(Nat->Option AF)->Nat->ai->Prop)
  (ha:PH q s A k) (hB:s.B<=1000000) (mT:∀ (k0:Array N) (w:U),(callFunc jf k0).run W w = .ok (.enter jf k0) w)
  (hj:∀ (x:Fx t.n) (v b:Nat) (w1:U) (H:ai),x.C=0->ag w1 (pt t.f (im t C)*(pt v (bT b t.n)*(dS x b A k*(b0*H))))->Calls W jf (#[az v]++g0) w1 (Uz t C x v b P H w1))
  (h:ag w (pt t.f (im t C)*(rC t s*(b0*F)))) :
  Calls W 29 #[az t.f,.func (.func jf) #[] g0] w (UX t C q s P F w):=by
 obtain ⟨J,D,has,B⟩:=s;obtain ⟨d0,h1⟩:=yY (h.to (by ac_rfl:_=rC t ⟨J,D,has,B⟩*(pt t.f (im t C)*(b0*F))));have hq:q.Q B J D has:=ha.q;have hh:Go.SL.Has t.n ⟨jw has,jw has 0⟩ A k:=ha.has;have hB:B<=1000000:=hB
 let x:Fx t.n:=⟨Jr × aC,zM t d0,jw has,IJ J D,Kz t d0,xE hq,h4,hn,fun _=>emp,fun _ _ _ _ h=>h,0⟩
 have l0:∀ (M:ik (Jr × aC)) i u,oS t.n (jw has) (IJ J D) M i u->M.W.length<=24->(M.W.map A1).Nodup->M.W≠[] ->
   ∃ r g e,M.s=(J,{ D with cr:=r })/\q.Q B J { D with cr:=r } has/\Batch (t.n:Int) (iq M.W)/\eM J { D with cr:=r } K (iq M.W)=(0,g,e)/\q.Q (B+1) g e (mP has (iq M.W)):=by
  intro M i u E hl c0 j0;obtain ⟨I,r,S⟩:=E.gz.inv;have hb:=xU E c0 hl (List.length_pos_iff.2 j0);obtain ⟨g,e,e3,e4⟩:=q.zo (q.cr hq r) hB hb;exact ⟨r,g,e,Prod.ext I S,q.cr hq r,hb,e3,e4⟩
 refine (Db t w d0 J D C jf g0 b0 F (fun c M y=>∃ m i u,P c m i u y/\oS t.n (jw has) (IJ J D) M i u/\M.W.length<=m/\m<=24) (q.inv hq).ok (q.inv hq).Jg mT ?_ ?_ (h1.to (by ac_rfl))).mono ?_
 .intro v b w1 H G
  have p0:ag w1 (Qn x b ⟨0,[],[],(J,D)⟩*(pt t.f (im t C)*(pt v (bT b t.n)*(b0*H)))):=
   ag.ui (x:=x) (S:=wQ) (S':=wQ) (fun _ _ h=>h) (G.to (by show _=cH (zM t d0) wQ b ⟨0,[],[],(J,D)⟩*(aq wQ*(emp*(pt t.f (im t C)*(pt v (bT b t.n)*(b0*H)))));rw [di];ac_rfl))
  have q0:=ag.qK (x:=x) (A:=A) (k:=k) ⟨GK hh,Nat.zero_le _⟩ p0;refine (hj x v b w1 H rfl (q0.to (by ac_rfl))).mono ?_;rintro i0 w2 ⟨c,i,u,y,m,hP,he,d,hm,hs⟩;obtain ⟨M,hM,h2⟩:=ag.mA (x:=x.more m) (hs.to (by ac_rfl:_=dS (x.more m) b i u*(pt t.f (im t C)*(pt v (bT b t.n)*(y*H)))));obtain ⟨S',h3⟩:=ag.oU (x:=x.more m) h2;refine ⟨c,S',M,y,⟨m,i,u,hP,hM.1,Nat.le_trans hM.2 (by show 0+m<=m;omega),hm⟩,he,d,?_⟩;have h4:ag w2 (cH (zM t d0) S' b M*(aq S'*(emp*(pt t.f (im t C)*(pt v (bT b t.n)*(y*H)))))):=h3;rw [di] at h4;exact h4.to (by ac_rfl)
 .rintro c M y ⟨m,i,u,-,E,hl,hm⟩-c0 j0
  obtain ⟨r,g,e,I,S,e3,e4,-⟩:=l0 M i u E (by omega) c0 j0;refine ⟨has,g,e,?_,?_,e3,?_⟩
  .rw [I];exact q.inv S
  .rw [I];exact q.jn S
  .rw [I];exact e4
 .rintro i0 w' ⟨c,M,y,S',g,e,⟨m,i,u,hP,E,hl,hm⟩,c0,rfl,d,hs,m0,n0⟩
  obtain ⟨I,r,S⟩:=E.gz.inv
  have f0:(c≠0\/M.W=[])->Ds.Rd ⟨J,D,has,B⟩ ⟨g,e,has,B⟩:=fun h=>by
   have i0:=n0 h;rw [i0] at I S;exact ⟨I,⟨r,S⟩,rfl,rfl⟩
  have o0:m=0->M.W=[]:=fun h=>List.eq_nil_of_length_eq_zero (by omega)
  by_cases h0:c=0
  .by_cases G:M.W=[]
   .refine ⟨c,m,i,u,y,⟨g,e,has,B⟩,hP,rfl,d,(mx (s:=⟨g,e,has,B⟩) (hs.to (by ac_rfl))).to (by ac_rfl:rC t ⟨g,e,has,B⟩*(pt t.f (im t C)*(y*F))=_),fun _=>f0 (.inr G),.inr ⟨h0,?_,.inl (f0 (.inr G))⟩⟩
    exact PH.rd (s:=⟨J,D,has,B⟩) ⟨hq,tx E G⟩ (f0 (.inr G))
   .obtain ⟨r',J2,D2,f1,f2,f3,f4,f5⟩:=l0 M i u E (by omega) c0 G
    have e0:=m0 h0 G;rw [f1] at e0;have e0:eM J { D with cr:=r' } K (iq M.W)=(0,g,e):=e0;rw [e0] at f4;simp only [Prod.mk.injEq,true_and] at f4;obtain ⟨rfl,rfl⟩:=f4
    exact ⟨c,m,i,u,y,⟨g,e,mP has (iq M.W),B+1⟩,hP,rfl,d,(mx (s:=⟨g,e,mP has (iq M.W),B+1⟩) (hs.to (by ac_rfl))).to (by ac_rfl:rC t ⟨g,e,mP has (iq M.W),B+1⟩*(pt t.f (im t C)*(y*F))=_),
     fun h=>absurd (o0 h) G,.inr ⟨h0,⟨f5,uh E c0⟩,.inr ⟨r',iq M.W,f3,e0,rfl,rfl⟩⟩⟩
  .exact ⟨c,m,i,u,y,⟨g,e,has,B⟩,hP,rfl,d,(mx (s:=⟨g,e,has,B⟩) (hs.to (by ac_rfl))).to (by ac_rfl:rC t ⟨g,e,has,B⟩*(pt t.f (im t C)*(y*F))=_),fun _=>f0 (.inl h0),.inl ⟨h0,f0 (.inl h0)⟩⟩
end Go.Proofs.Cl
namespace Go.Proofs.Cl
open RowKit SL Proofs.Nn Proofs.Ba Proofs.Su Proofs.Fs
attribute [local go_sem] Oper.semAt_some
abbrev mS:=List (Int × (Nat × Nat))
def mL (O:mS):KV:=O.map fun o=>(o.1,.agg #[Z .i64 (o.2.1:Int),Z .i64 (o.2.2:Int)])
def fQ (t:Pl) (s:Ds) (m:Nat) (O:mS):ai:=pt t.f (im t (.map (X m)))*(rC t s*mp m (mL O))
structure oI (t:Pl) (q:Dk t.n) (s:Ds) (T:Tr) (k:Nat):Prop where
 at_:PH q s (fR T) k
 ty:Tidy t.n T
 h4:4<=t.n
 hn:t.n<=3840
def Ds.Go (n:Nat) (wr:Bool) (s s':Ds):Prop:=s.Rd s'\/(wr=K/\s.Cm n s')
def VL (t:Pl) (q:Dk t.n) (m:Nat) (wr:Bool) (s:Ds) (h:Tr) (i:Nat) (g:mS) (v:N) (F:ai) (w:U) (e:Ending) (w':U):Prop:=
 ∃ s',e = Q v/\aj w w'/\s.Go t.n wr s'/\oI t q s' h i/\ag w' (fQ t s' m g*F)
section
variable {t:Pl} {q:Dk t.n} {s s':Ds} {T:Tr} {k m:Nat} {O:mS} {w:U} {F:ai} {p:List UInt8}
theorem oI.rd (h:oI t q s T k) (r:s.Rd s'):oI t q s' T k:=⟨h.at_.rd r,h.ty,h.h4,h.hn⟩
def eJ (t:Pl) (m:Nat) (O:mS):ai:=pt t.f (im t (.map (X m)))*mp m (mL O)
theorem lP (E:oI t q s T k) (hB:s.B<=1000000) (h:FuncId) (y:Array N) (G:ai) (c:Int) (i u:ai)
  (mT:∀ (M:Array N) (w:U),(callFunc h M).run W w = .ok (.enter h M) w)
  (hj:∀ (x:Fx t.n) (v b:Nat) (g:U) (H:ai),ag g (vA x b v T k*(G*(eJ t m O*H)))->Calls W h (#[az v]++y) g (Nx c (vA x b v T k*(i*(eJ t m O*H))) (vA x b v T k*(u*(eJ t m O*H))) g))
  (b0:ag w (fQ t s m O*(G*F))) :
  Calls W 29 #[az t.f,.func (.func h) #[] y] w fun e w'=>
   ∃ s',e = Q (Z .i64 c)/\aj w w'/\s.Rd s'/\ag w' (fQ t s' m O*((if c=0 then i else u)*F)):=by
 have h1:ag w (pt t.f (im t (.map (X m)))*(rC t s*((G*mp m (mL O))*F))):=b0.to (by unfold fQ;ac_rfl);refine (P8 t q E.h4 E.hn w s (fR T) k (.map (X m)) h y (G*mp m (mL O)) F (fun S m' A' k' I=>S=c/\m'=0/\I=(if c=0 then i else u)*mp m (mL O)) E.at_ hB mT ?_ h1).mono ?_
 .intro x v b g H hC hw
  have h2:ag g (vA x b v T k*(G*(eJ t m O*H))):=hw.to (by unfold vA eJ;ac_rfl);refine (hj x v b g _ h2).mono ?_;rintro e w' ⟨d,⟨rfl,rfl,C⟩|⟨hc,rfl,C⟩⟩
  .exact ⟨0,fR T,k,_,0,⟨rfl,rfl,rfl⟩,.inl ⟨rfl,rfl⟩,d,by decide,(ag.xX (x:=x) 0 (C.to (by unfold vA eJ;ac_rfl:_=dS x b (fR T) k*(pt t.f (im t (.map (X m)))*(pt v (bT b t.n)*((i*mp m (mL O))*H)))))).to (by rw [if_pos rfl];ac_rfl)⟩
  .exact ⟨c,fR T,k,_,0,⟨rfl,rfl,rfl⟩,.inr ⟨hc,rfl⟩,d,by decide,(ag.xX (x:=x) 0 (C.to (by unfold vA eJ;ac_rfl:_=dS x b (fR T) k*(pt t.f (im t (.map (X m)))*(pt v (bT b t.n)*((u*mp m (mL O))*H)))))).to (by rw [if_neg hc];ac_rfl)⟩
 .rintro e w' ⟨S,m',A',k',I,s',⟨rfl,rfl,rfl⟩,rfl,d,hs,hr,-⟩
  exact ⟨s',rfl,d,hr rfl,hs.to (by unfold fQ;ac_rfl)⟩
def Tv (z:Int × Int × Int):N:=.agg #[Z .i64 z.1,Z .i64 z.2.1,Z .i64 z.2.2]
theorem ri {w:U} {g:Array N} {rc:Nat} {z:Int × Int × Int} {e:N} {F:ai} (h4:g[4]?=X (az rc)) (C:g[5]?=X e) (h:ag w (eY rc z*F)) :
  (results Tryz.f13 g).run W w = .ok (Z' #[Tv z,e]) w:=by
 have i:=ag.cell h 0;have u:=ag.cell h 1;have y:=ag.cell h 2;have E:g.getD 4 undef=az rc:=by simp [h4]
 have G:g.getD 5 undef=e:=by simp [C]
 simp at i u y;simp [results,Tryz.results13,h4,C,asAddr,az,go_sem,i,u,y,Tv]
theorem Lp (I:oI t q s T k) (hB:s.B<=1000000) (b0:ag w (fQ t s m O*F)) :
  Calls W 13 #[az t.f,L (str p)] w
   (VL t q m false s T k O (Z' #[Tv (if (bV T p).1=0 then tp (T (bV T p).2) else (0,0,0)),Z .i64 (bV T p).1]) F w):=by
 refine aJ fun e0 y=>?_;have hA:=(((b0.alloc (Y #[L (str p)] 9 (0,0))).alloc (Y #[Z .i64 0,Z .i64 0,Z .i64 0] 35 (0,0))).alloc (Y #[Z .i64 0,Z .i64 0,Z .i64 0] 35 (0,0)))
 simp only [L1] at hA;have dA:=ae ((((aj.refl w).alloc (Y #[L (str p)] 9 (0,0))).alloc (Y #[Z .i64 0,Z .i64 0,Z .i64 0] 35 (0,0))).alloc (Y #[Z .i64 0,Z .i64 0,Z .i64 0] 35 (0,0)))
 have hd:=ae fun (pc g:Nat) (F':ai) (w':U) (h':ag w' (fQ t s m O*((aA pc p*eY g (0,0,0))*F')))=>
  lP I hB 41 #[az pc,az g] (aA pc p*eY g (0,0,0)) (bV T p).1 (aA pc p*eY g (tp (T (bV T p).2))) (aA pc p*eY g (0,0,0)) (enters func41 (by kernel_rfl) rfl)
   (fun x v b w1 c0 hw=>(Lb (x:=x) (b:=b) (v:=v) (k:=k) (pc:=pc) (sc:=g) (F:=eJ t m O*c0) (p:=p) I.ty (hw.to (by ac_rfl))).mono fun d0 w' hq=>by simpa only [ay] using hq) h'
 have HF:=ae I;have HA:=ae hA;clear b0 hA hB I;generalize bV T p=pw at *;obtain ⟨c,id⟩:=pw;dsimp only at hd y
 go_enter func13,ntmps13
 go_wp2_with fail
 generalize ((w.alloc (Y #[L (str p)] 9 (0,0))).alloc (Y #[Z .i64 0,Z .i64 0,Z .i64 0] 35 (0,0))).alloc (Y #[Z .i64 0,Z .i64 0,Z .i64 0] 35 (0,0))=w1 at *;generalize w.heap.size+1+1=g at *;generalize w.heap.size+1=rc at *;generalize w.heap.size=pc at *;refine (hd.out pc g (eY rc (0,0,0)*F) _ (HA.out.to (by unfold aA eY;ac_rfl))).mono ?_;rintro d0 h ⟨s',rfl,d2,hr,u⟩;have G:=ae (dA.out.trans d2);have H:=ae hr;clear hd dA HA d2 hr
 by_cases h0:c=0
 .subst h0
  rw [if_pos rfl] at u y;generalize tp (T id)=z at *;obtain ⟨C,E,z3⟩:=z;have e:=u.to (by unfold eY;ac_rfl:_=pt rc (Y #[Z .i64 0,Z .i64 0,Z .i64 0] 35 (0,0))*(pt g (Y #[Z .i64 C,Z .i64 E,Z .i64 z3] 35 (0,0))*(aA pc p*(fQ t s' m O*F))));have s0:h.cell? ⟨g,0,V⟩=X (Z .i64 C):=e.ah.cell 0;have s1:h.cell? ⟨g,1,V⟩=X (Z .i64 E):=e.ah.cell 1;have s2:h.cell? ⟨g,2,V⟩=X (Z .i64 z3):=e.ah.cell 2;have r0:h.cell? ⟨rc,0,V⟩=X (Z .i64 0):=e.cell 0;have r1:h.cell? ⟨rc,1,V⟩=X (Z .i64 0):=e.cell 1;have r2:h.cell? ⟨rc,2,V⟩=X (Z .i64 0):=e.cell 2;have f0:=e.frozen 0;have f1:=e.frozen 1;have f2:=e.frozen 2;have S:=ae (((e.setCell 0 (Z .i64 C)).setCell 1 (Z .i64 E)).setCell 2 (Z .i64 z3));have M:=ae (((G.out.setCell ⟨rc,0,V⟩ (Z .i64 C)).setCell ⟨rc,1,V⟩ (Z .i64 E)).setCell ⟨rc,2,V⟩ (Z .i64 z3));clear u e G
  go_wp2_with fail
  have i:=S.out;simp only [E1,K1,M1] at i;exact bodyPost_ret (ri (z:=(C,E,z3)) rfl rfl i) rfl (y.out _ _ ⟨s',rfl,M.out,.inl H.out,HF.out.rd H.out,i.right.right.right⟩)
 .rw [if_neg h0] at u y
  have e:=u.to (by unfold eY;ac_rfl:_=pt rc (Y #[Z .i64 0,Z .i64 0,Z .i64 0] 35 (0,0))*((aA pc p*eY g (0,0,0))*(fQ t s' m O*F)));have r0:h.cell? ⟨rc,0,V⟩=X (Z .i64 0):=e.cell 0;have r1:h.cell? ⟨rc,1,V⟩=X (Z .i64 0):=e.cell 1;have r2:h.cell? ⟨rc,2,V⟩=X (Z .i64 0):=e.cell 2;have f0:=e.frozen 0;have f1:=e.frozen 1;have f2:=e.frozen 2;have S:=ae (((e.setCell 0 (Z .i64 0)).setCell 1 (Z .i64 0)).setCell 2 (Z .i64 0));have M:=ae (((G.out.setCell ⟨rc,0,V⟩ (Z .i64 0)).setCell ⟨rc,1,V⟩ (Z .i64 0)).setCell ⟨rc,2,V⟩ (Z .i64 0));clear u e G
  go_wp2_with fail
  have i:=S.out;simp only [E1,K1,M1] at i;exact bodyPost_ret (ri (z:=(0,0,0)) rfl rfl i) rfl (y.out _ _ ⟨s',rfl,M.out,.inl H.out,HF.out.rd H.out,i.right.right⟩)
end
def RC (t:Pl) (q:Dk t.n) (m:Nat) (s:Ds) (O:mS) (i:Int->Tr->Nat->Prop) (F:ai) (w:U) (e:Ending) (w':U):Prop:=
 ∃ c g h s',i c g h/\e = Q (Z .i64 c)/\aj w w'/\((c≠0/\s.Rd s')\/(c=0/\oI t q s' g h/\s.Go t.n K s'))/\ag w' (fQ t s' m O*F)
section
variable {t:Pl} {q:Dk t.n} {s s':Ds} {T:Tr} {k m:Nat} {O:mS} {w:U} {F:ai} {p:List UInt8}
theorem rh (i:oI t q s T k) (hB:s.B<=1000000) (u:FuncId) (E:Array N) (G:ai) (C:Int->Tr->Nat->Prop)
  (mT:∀ (b0:Array N) (w:U),(callFunc u b0).run W w = .ok (.enter u b0) w)
  (hj:∀ (x:Fx t.n) (v b:Nat) (g:U) (H:ai),ag g (vA x b v T k*(G*(eJ t m O*H)))->Calls W u (#[az v]++E) g (To x b v C (G*(eJ t m O*H)) g))
  (h:ag w (fQ t s m O*(G*F))) :
  Calls W 29 #[az t.f,.func (.func u) #[] E] w (RC t q m s O C (G*F) w):=by
 have I:ag w (pt t.f (im t (.map (X m)))*(rC t s*((G*mp m (mL O))*F))):=h.to (by unfold fQ;ac_rfl);refine (P8 t q i.h4 i.hn w s (fR T) k (.map (X m)) u E (G*mp m (mL O)) F (fun c _ A' y G'=>∃ e,C c e y/\(c=0->Tidy t.n e/\A'=fR e)/\G'=G*mp m (mL O)) i.at_ hB mT ?_ I).mono ?_
 .intro x v b g H hC hw
  have h2:ag g (vA x b v T k*(G*(eJ t m O*H))):=hw.to (by unfold vA eJ;ac_rfl);refine (hj x v b g _ h2).mono ?_;rintro c0 w' ⟨c,e,y,j,M,S,he,d,d0,h3⟩;exact ⟨c,fR e,y,_,j,⟨e,M,fun h=>⟨S h,rfl⟩,rfl⟩,he,d,d0,h3.to (by unfold vA eJ;ac_rfl)⟩
 .rintro c0 w' ⟨c,j,A',y,G',s',⟨e,M,S,rfl⟩,rfl,d,hs,-,hr⟩
  refine ⟨c,e,y,s',M,rfl,d,?_,hs.to (by unfold fQ;ac_rfl)⟩;rcases hr with hr|⟨h0,ha,hg⟩
  .exact .inl hr
  .obtain ⟨I,rfl⟩:=S h0
   exact .inr ⟨h0,⟨ha,I,i.h4,i.hn⟩,hg.imp id fun h=>⟨rfl,h⟩⟩
theorem AG {kd:Int} (e0:kd=1\/kd=2) (g:oI t q s T k) (G:s.B<=1000000) (d0:fZ T k p=0) (h:ag w (fQ t s m O*F)) :
  Calls W 28 #[az t.f,L (str p),Z .i64 kd] w (RC t q m s O (mH t.n T k kd p) F w):=by
 refine aJ fun f0 HQ=>?_;have i:=((h.alloc (Y #[L (str p)] 9 (0,0))).alloc (Y #[Z .i64 kd] 3 (0,0)))
 rw [L1] at i;have C:=ae (((aj.refl w).alloc (Y #[L (str p)] 9 (0,0))).alloc (Y #[Z .i64 kd] 3 (0,0)))
 have M:=ae fun (pc e:Nat) (w':U) (h':ag w' (fQ t s m O*((aA pc p*bd e kd)*F)))=>
  rh g G 69 #[az pc,az e] (aA pc p*bd e kd) (mH t.n T k kd p) (enters func69 (by kernel_rfl) rfl)
   (fun x v b w1 H hw=>(LY (x:=x) (b:=b) (v:=v) (k:=k) (pc:=pc) (kc:=e) (F:=eJ t m O*H) (p:=p) e0 g.hn g.ty d0 (hw.to (by ac_rfl))).mono fun b0 w' hq=>by simpa only [ay] using hq) h'
 have u:=ae i;clear h i G g
 go_enter func28,ntmps28
 go_wp2_with fail
 generalize (w.alloc (Y #[L (str p)] 9 (0,0))).alloc (Y #[Z .i64 kd] 3 (0,0))=w1 at *;generalize w.heap.size+1=e at *;generalize w.heap.size=pc at *;refine (M.out pc e _ (u.out.to (by unfold aA bd;ac_rfl))).mono ?_;rintro b0 w2 ⟨c,T',k',s',I,rfl,y,S,E⟩;have c0:=ae (HQ.out _ _ ⟨c,T',k',s',I,rfl,C.out.trans y,S,(E.to (by ac_rfl:_=(aA pc p*bd e kd)*(fQ t s' m O*F))).right⟩);clear M C u y S I E
 go_wp2_with fail
 exact c0.out
theorem DO (y:oI t q s T k) (i:s.B<=1000000) (M:fZ T k p=0) (h:ag w (fQ t s m O*F)) :
  Calls W 11 #[az t.f,L (str p)] w (RC t q m s O (mH t.n T k 1 p) F w):=by
 refine aJ fun b0 G=>?_;have C:=ae (AG (p:=p) (kd:=1) (.inl rfl) y i M h);clear h y i
 go_enter func11,ntmps11
 go_wp2_with fail
 refine C.out.mono ?_;rintro c0 w2 ⟨c,H,S,s',u,rfl,e,E,g⟩;have I:=ae (G.out _ _ ⟨c,H,S,s',u,rfl,e,E,g⟩);clear C e E u g
 go_wp2_with fail
 exact I.out
theorem GP (y:oI t q s T k) (i:s.B<=1000000) (M:fZ T k p=0) (h:ag w (fQ t s m O*F)) :
  Calls W 9 #[az t.f,L (str p)] w (RC t q m s O (mH t.n T k 2 p) F w):=by
 refine aJ fun b0 G=>?_;have C:=ae (AG (p:=p) (kd:=2) (.inr rfl) y i M h);clear h y i
 go_enter func9,ntmps9
 go_wp2_with fail
 refine C.out.mono ?_;rintro c0 w2 ⟨c,H,S,s',u,rfl,e,E,g⟩;have I:=ae (G.out _ _ ⟨c,H,S,s',u,rfl,e,E,g⟩);clear C e E u g
 go_wp2_with fail
 exact I.out
end
def CI (o:Nat × Nat):N:=.agg #[Z .i64 (o.1:Int),Z .i64 (o.2:Int)]
theorem Co (O:mS) (fd:Int):aP (mL O) fd=(aP O fd).map CI:=by
 induction O with
 | nil=>rfl
 | cons o O e=>
  rw [mL,List.map_cons,jH,jH]
  by_cases h:o.1=fd
  .rw [if_pos h,if_pos h];rfl
  .rw [if_neg h,if_neg h];exact e
section
variable {t:Pl} {q:Dk t.n} {s s':Ds} {T:Tr} {k m:Nat} {O:mS} {w:U} {F:ai} {p:List UInt8} {fd:Int}
theorem yp (h:ag w (eJ t m O*F)) (fd:Int):(Instr.lookup 89 (.map (X m)) (Z .i64 fd) K).run W w = .ok (Z' #[(((aP O fd).map CI).getD (CI (0,0))),.bool (aP O fd).isSome]) w:=by
 have e:ag w (mp m (mL O)*(pt t.f (im t (.map (X m)))*F)):=h.to (by unfold eJ;ac_rfl);obtain ⟨o,i,g,-⟩:=e.mY;have:=iB (P:=W) (z:=CI (0,0)) underlying89 underlying3 (by kernel_rfl) g i fd K;rw [Co] at this;rw [this,if_pos rfl,N1]
theorem oj (h:ag w (eJ t m O*F)):Calls W 49 #[az t.f,Z .i64 fd] w fun e w'=>e = Q (.bool (aP O fd).isSome)/\aj w w'/\ag w' (eJ t m O*F):=by
 refine aJ fun H g=>?_;have C:=yp h fd
 obtain ⟨u,E⟩:∃ u,((aP O fd).map CI).getD (CI (0,0))=CI u:=by
  cases aP O fd with
  | none=>exact ⟨_,rfl⟩
  | some o=>exact ⟨o,rfl⟩
 rw [E] at C;have I:w.cell? ⟨t.f,1,V⟩=X (.map (X m)):=(h.to (by unfold eJ;ac_rfl:_=pt t.f (im t (.map (X m)))*(mp m (mL O)*F))).cell 1;have y:=(h.alloc (Y #[Z .i64 (u.1:Int),Z .i64 (u.2:Int)] 93 (0,0))).right;have i:=(aj.refl w).alloc (Y #[Z .i64 (u.1:Int),Z .i64 (u.2:Int)] 93 (0,0));have G:=ae (g.out _ _ ⟨rfl,i,y⟩);unfold CI at C;clear h E y i g;generalize (aP O fd).isSome=M at *
 go_enter func49,ntmps49
 go_wp2_with fail
 exact G.out
def iE (T:Tr) (O:mS) (p:List UInt8):Int:=if (bV T p).1≠0 then (bV T p).1 else match T (bV T p).2 with
 | some (.file _)=>if 16<=O.length then 9 else 0
 | _=>8
def aZ (t:Pl) (a:Nat):ai:=pt a (Y #[az t.f] 25 (0,0))
def M5 (a:Nat):ai:=ex fun z=>bd a z
theorem Pa {a:Nat} {z:Int} (h:ag w (bd a z*F)):ag w (M5 a*F):=ag.ax.2 ⟨z,h⟩
theorem Ll {x:Fx t.n} {b v pc nc fc:Nat} (I:Tidy t.n T) (k0:ag w (vA x b v T k*((aA pc p*(bd nc 0*aZ t fc))*(eJ t m O*F)))) :
  Calls W 48 #[az v,az pc,az nc,az fc] w (Nx (iE T O p) (vA x b v T k*((aA pc p*(bd nc ((bV T p).2:Nat)*aZ t fc))*(eJ t m O*F))) (vA x b v T k*((aA pc p*(M5 nc*aZ t fc))*(eJ t m O*F))) w):=by
 refine aJ fun j0 HQ=>?_;have G:=k0.to (by ac_rfl:_=vA x b v T k*(aA pc p*(bd nc 0*(aZ t fc*(eJ t m O*F)))));have cp:w.cell? ⟨pc,0,V⟩=X (L (str p)):=G.ah.cell 0;have h0:=ae G;have HT:=ae I
 have c0:Hid (∀ c,c≠0->c=iE T O p->∀ (z:Int) (w':U),aj w w'->ag w' (vA x b v T k*(aA pc p*(bd nc z*(aZ t fc*(eJ t m O*F)))))->j0 (.panicked (nt c)) w'):=fun c E he z w' d i=>
  HQ.out _ _ ⟨d,.inr ⟨by rw [<- he];exact E,by rw [he],(Pa (i.to (by ac_rfl:_=bd nc z*(vA x b v T k*(aA pc p*(aZ t fc*(eJ t m O*F))))))).to (by ac_rfl)⟩⟩
 clear k0 G
 cases i:bA p with
 | none=>
  have hk:=ae (sa (w:=w) i);have E:(1:Int)=iE T O p:=by unfold iE;rw [qE i];rfl
  clear I i
  go_enter func48,ntmps48
  go_wp2_with fail
  refine hk.out.mono ?_;rintro e w2 ⟨rfl,d2,h2⟩;exact ⟨rfl,c0.out 1 (by decide) E 0 _ d2 (h2.du h0.out)⟩
 | some g=>
  obtain ⟨F0,hl⟩:=dq i;have r0:=fD (T:=T) i;have hk:=ae (dQ (w:=w) i);have y:=fun G=>I.walk g I.root.choose_spec G;have HL:=ae hl;have e0:=ae r0;have HY:=ae y;clear I i hl F0 r0 y
  go_enter func48,ntmps48
  go_wp2_with fail
  refine hk.out.mono ?_;rintro e w2 ⟨u,rfl,d2,h2⟩;have C:=(h2.under h0.out).ah;have hw:=ae (fB HT.out HL.out gN C);have i0:=ae (show ∀ e w',Nx (iE T O p) (vA x b v T k*((aA pc p*(bd nc ((aT T 1 g).2:Nat)*aZ t fc))*(eJ t m O*F))) (vA x b v T k*((aA pc p*(M5 nc*aZ t fc))*(eJ t m O*F))) w e w'->j0 e w' by rw [<- e0.out];exact fun e w'=>HQ.out e w');have q0:iE T O p=if (aT T 1 g).1≠0 then (aT T 1 g).1 else match T (aT T 1 g).2 with|some (.file _)=>if 16<=O.length then 9 else 0|_=>8:=by unfold iE;rw [e0.out]
  have b0:=ae q0;clear q0;generalize aT T 1 g=pw at *;obtain ⟨c,id⟩:=pw;dsimp only at hw HY i0 b0;clear cp hk h2 C HL HQ e0
  go_wp2_with fail
  refine hw.out.mono ?_;rintro e w3 ⟨he,d3,C⟩;clear hw;have D3:=ae (d2.trans d3);clear d2 d3;rcases he with ⟨rfl,rfl⟩|⟨E,rfl⟩
  .obtain ⟨s0,y⟩:=HY.out rfl
   have h4:=C.to (by unfold bd;ac_rfl:_=pt nc (Y #[Z .i64 0] 3 (0,0))*(vA x b v T k*(aA pc p*(aZ t fc*(eJ t m O*(ei u g*F))))));have n0:w3.cell? ⟨nc,0,V⟩=X (Z .i64 0):=h4.cell 0;have f0:=h4.frozen 0;have h:=h4.setCell 0 (Z .i64 (id:Int));simp only [E1,K1] at h;have n1:=h.cell 0;have l0:=ae (la y h.ah);have D5:=ae (D3.out.setCell ⟨nc,0,V⟩ (Z .i64 (id:Int)))
   have H:iE T O p=if s0.af.kd=1 then (if 16<=O.length then 9 else 0) else 8:=by
    rw [b0.out,if_neg (by decide),y]
    cases s0 with
    | file f=>have:=HT.out.files _ _ y;show _=if f.kd=1 then _ else _;rw [if_pos this]
    | dir N0=>rfl
   have HC:=ae H;clear C h4 h y HY b0 H D3
   go_wp2_with fail
   generalize w3.setCell ⟨nc,0,V⟩ (Z .i64 (id:Int))=w4 at *;refine l0.out.mono ?_;rintro e w5 hq;rcases hq with ⟨d0,z,rfl,G0,H0,K0,L0,d5,h⟩|⟨d0,rfl,d5,h⟩
   .have h6:=h.to (by unfold bd;ac_rfl:_=eJ t m O*(vA x b v T k*(bd nc (id:Int)*(aA pc p*(aZ t fc*(ei u g*F))))))
    have h7:ag w5 (mp m (mL O)*(pt t.f (im t (.map (X m)))*(vA x b v T k*(bd nc (id:Int)*(aA pc p*(aZ t fc*(ei u g*F))))))):=h6.to (by unfold eJ;ac_rfl);have o0:=h7.Th (P:=W) underlying89 3;have p0:(mL O).length=O.length:=by unfold mL;exact B1 _
    rw [p0] at o0;have c1:w5.cell? ⟨t.f,1,V⟩=X (.map (X m)):=h7.ah.cell 1;have cf:w5.cell? ⟨fc,0,V⟩=X (az t.f):=(h7.to (by unfold aZ;ac_rfl:_=pt fc (Y #[az t.f] 25 (0,0))*(mp m (mL O)*(pt t.f (im t (.map (X m)))*(vA x b v T k*(bd nc (id:Int)*(aA pc p*(ei u g*F)))))))).cell 0;have H6:=ae h6;have D6:=ae (D5.out.trans d5);have H:iE T O p=if 16<=O.length then 9 else 0:=by rw [HC.out,if_pos d0]
    have S:=ae H;obtain ⟨M,m0⟩:∃ M,O.length=M:=⟨_,rfl⟩
    rw [m0] at o0 S;clear h h6 h7 l0 n1 G0 H0 K0 L0 d5 D5 HC H m0 p0 d0
    by_cases g0:16<=M
    .have u0:(16:Int)<=(M:Int):=by omega
     have x0:=ae fun w=>dR w 9 (by decide)
     go_wp2_with fail
     refine (x0.out _).mono ?_;rintro e w7 ⟨rfl,rfl⟩;exact ⟨rfl,c0.out 9 (by decide) (by rw [S.out,if_pos g0]) _ _ D6.out (H6.out.to (by ac_rfl:_=ei u g*(vA x b v T k*(aA pc p*(bd nc (id:Int)*(aZ t fc*(eJ t m O*F))))))).right⟩
    .have u0:(M:Int)<16:=by omega
     have D0:=ae (i0.out _ _ ⟨D6.out,.inl ⟨by rw [S.out,if_neg g0],rfl,(H6.out.to (by ac_rfl:_=ei u g*(vA x b v T k*((aA pc p*(bd nc (id:Int)*aZ t fc))*(eJ t m O*F))))).right⟩⟩);clear g0 S
     go_wp2_with fail
     go_end0
     exact D0.out
   .exact ⟨rfl,c0.out 8 (by decide) (by rw [HC.out,if_neg d0]) _ _ (D5.out.trans d5) (h.to (by unfold bd;ac_rfl:_=ei u g*(vA x b v T k*(aA pc p*(bd nc (id:Int)*(aZ t fc*(eJ t m O*F))))))).right⟩
  .exact ⟨rfl,c0.out _ E (by rw [b0.out,if_pos E]) 0 _ D3.out (C.to (by ac_rfl:_=ei u g*(vA x b v T k*(aA pc p*(bd nc 0*(aZ t fc*(eJ t m O*F))))))).right⟩
end
end Go.Proofs.Cl
namespace Go.SL
open RowKit
theorem JU {u:Type} (M:List (Int × u)) (x:Int) (h:(aP M x).isSome=K):(del M x).length+1<=M.length:=by
 have i:∃ p ∈ M,(!(p.1 == x))=false:=by
  unfold aP at h;rw [N1,List.find?_isSome] at h;obtain ⟨p,g,e⟩:=h;exact ⟨p,g,by simpa using e⟩
 obtain ⟨p,g,e⟩:=i;unfold del
 have:(M.filter fun p => !(p.1 == x)).length<M.length:=by
  rw [List.length_filter_lt_length_iff_exists];exact ⟨p,g,by rw [e];decide⟩
 omega
theorem xe {e:Type}:∀ (m:Nat) (M:List (Int × e)),(∀ j:Nat,j<m->(aP M (j:Int)).isSome=K)->m<=M.length
 | 0,_,_=>Nat.zero_le _
 | m+1,M,h=>by
  have g:=JU M (m:Int) (h m (by omega));have i:=xe m (del M (m:Int)) fun j u=>by rw [Cg,if_neg (by omega)];exact h j (by omega)
  omega
end Go.SL
namespace Go.Proofs.Cl
open RowKit SL Proofs.Nn Proofs.Ba Proofs.Su Proofs.Fs
attribute [local go_sem] Oper.semAt_some
section
variable {t:Pl} {q:Dk t.n} {s s':Ds} {T:Tr} {k m:Nat} {O:mS} {w:U} {F:ai} {p:List UInt8}
def _root_.Go.SL.mG (O:List (Int × (Nat × Nat))) (fd:Int) (o:Nat × Nat):List (Int × (Nat × Nat)):=Go.SL.fw O fd o
theorem Fj (O:mS) (fd:Int) (o:Nat × Nat):Go.SL.fw (mL O) fd (CI o)=mL (mG O fd o):=by
 unfold mG Go.SL.fw;rw [Co,N1];unfold mL
 split
 .rw [List.map_map,List.map_map]
  apply List.map_congr_left;intro p _;simp only [Function.comp]
  split <;> rfl
 .rw [List.map_append];rfl
def vD (t:Pl) (q:Dk t.n) (m:Nat) (s:Ds) (T:Tr) (k:Nat) (O:mS) (p:List UInt8) (F:ai) (w:U) (e:Ending) (w':U):Prop:=
 ∃ s',aj w w'/\s.Rd s'/\((iE T O p≠0/\e = Q (Z' #[Z .i64 0,Z .i64 (iE T O p)])/\ag w' (fQ t s' m O*F)) \/
  (iE T O p=0/\∃ fd:Nat,(∀ j:Nat,j<fd->(aP O (j:Int)).isSome=K)/\aP O (fd:Int)=V/\e = Q (Z' #[Z .i64 (fd:Int),Z .i64 0])/\ag w' (fQ t s' m (mG O fd ((bV T p).2,0))*F)))
def SE (t:Pl) (m:Nat) (O:mS) (e:ai) (w0:U) (u:N) (wr:U):Prop:=
 ∃ fd:Nat,u = Z .i64 (fd:Int)/\(∀ j:Nat,j<fd->(aP O (j:Int)).isSome=K)/\aj w0 wr/\ag wr (eJ t m O*e)
theorem nH (hf:oI t q s T k) (hB:s.B<=1000000) (hO:O.length<=1000) (h:ag w (fQ t s m O*F)) :
  Calls W 16 #[az t.f,L (str p)] w (vD t q m s T k O p F w):=by
 refine aJ fun q0 E=>?_;have hA:=(((h.alloc (Y #[az t.f] 25 (0,0))).alloc (Y #[L (str p)] 9 (0,0))).alloc (Y #[Z .i64 0] 3 (0,0)))
 simp only [L1] at hA;have dA:=ae ((((aj.refl w).alloc (Y #[az t.f] 25 (0,0))).alloc (Y #[L (str p)] 9 (0,0))).alloc (Y #[Z .i64 0] 3 (0,0)))
 have hd:=ae fun (pc nc e:Nat) (w':U) (h':ag w' (fQ t s m O*((aA pc p*(bd nc 0*aZ t e))*F)))=>
  lP hf hB 48 #[az pc,az nc,az e] (aA pc p*(bd nc 0*aZ t e)) (iE T O p) (aA pc p*(bd nc ((bV T p).2:Nat)*aZ t e)) (aA pc p*(M5 nc*aZ t e)) (enters func48 (by kernel_rfl) rfl)
   (fun x v b w1 m0 C=>Ll (x:=x) (b:=b) (v:=v) (k:=k) (pc:=pc) (nc:=nc) (fc:=e) (F:=m0) (p:=p) hf.ty C) h'
 have HA:=ae hA;have i0:=ae (xe (M:=O));have HO:=ae hO;clear h hA hB hf hO;unfold vD at E;generalize iE T O p=c at *;generalize (bV T p).2=id at *
 go_enter func16,ntmps16
 go_wp2_with fail
 generalize ((w.alloc (Y #[az t.f] 25 (0,0))).alloc (Y #[L (str p)] 9 (0,0))).alloc (Y #[Z .i64 0] 3 (0,0))=w1 at *;generalize w.heap.size=e at *;refine (hd.out (e+1) (e+1+1) e _ (HA.out.to (by unfold aA bd aZ;ac_rfl))).mono ?_;rintro h0 w2 ⟨s',rfl,d2,hr,i⟩;have D2:=ae (dA.out.trans d2);clear hd dA d2 HA
 by_cases hc:c=0
 .subst hc
  rw [if_pos rfl] at i;have g:ag w2 (eJ t m O*(rC t s'*((aA (e+1) p*(bd (e+1+1) (id:Nat)*aZ t e))*F))):=i.to (by unfold fQ eJ;ac_rfl);generalize hZ:rC t s'*((aA (e+1) p*(bd (e+1+1) (id:Nat)*aZ t e))*F)=I at g;have HZ:=ae hZ.symm;have H3:=ae g
  have mT:∀ wr,ag wr (eJ t m O*I)->wr.cell? ⟨e,0,V⟩=X (az t.f)/\wr.cell? ⟨e+1+1,0,V⟩=X (Z .i64 (id:Int))/\wr.cell? ⟨t.f,1,V⟩=X (.map (X m)):=fun wr C=>by
   have p0:=C;rw [HZ.out] at C
   exact ⟨(C.to (by unfold aZ;ac_rfl:_=pt e (Y #[az t.f] 25 (0,0))*(eJ t m O*(rC t s'*((aA (e+1) p*bd (e+1+1) (id:Nat))*F))))).cell 0,
    (C.to (by unfold bd;ac_rfl:_=pt (e+1+1) (Y #[Z .i64 (id:Int)] 3 (0,0))*(eJ t m O*(rC t s'*((aA (e+1) p*aZ t e)*F))))).cell 0,
    (p0.to (by unfold eJ;ac_rfl:_=pt t.f (im t (.map (X m)))*(mp m (mL O)*I))).cell 1⟩
  have HC:=ae mT;have g0:=ae fun (fd:Nat) (w':U) (d:aj w w') (ha:∀ j:Nat,j<fd->(aP O (j:Int)).isSome=K) (hn:aP O (fd:Int)=V) (hs:ag w' (fQ t s' m (mG O (fd:Int) (id,0))*F))=>E.out _ _ ⟨s',d,hr,.inr ⟨rfl,fd,ha,hn,rfl,hs⟩⟩;clear i g hZ mT E
  go_wp2_with fail
  go_loopw [8] (fun e0 wr=>SE t m O I w e0 wr) (fun e0 _=>O.length+1-(intOf e0).toNat)
  case atStart=>exact ⟨0,rfl,fun j hj=>absurd hj (Nat.not_lt_zero _),D2.out,H3.out⟩
  case round=>
   obtain ⟨fd,rfl,c0,l0,S⟩:=hrel;have j0:=i0.out fd c0;have n0:fd<=1000:=by have:=HO.out;omega
   obtain ⟨e1,e2,e3⟩:=HC.out wr S;have u:=ae (oj (fd:=(fd:Int)) S);have HS:=ae S;have b0:=ae c0;have D:=ae l0;have f0:=ae j0;have r0:(fd:Int)<=1000:=by omega
   clear S c0 l0 j0 n0 e2 e3
   cases y:(aP O (fd:Int)).isSome with
   | true=>
    rw [y] at u;have H:=ae y;clear y
    go_wp2_with fail
    refine u.out.mono ?_;rintro h0 w3 ⟨rfl,G,g⟩;have D3:=ae (D.out.trans G);have H4:=ae g;clear u G g e1
    go_wp2_with fail
    go_roundw
    case rel=>exact ⟨fd+1,by go_num,fun j hj=>by
     rcases Nat.lt_succ_iff_lt_or_eq.1 hj with h|rfl
     .exact b0.out j h
     .exact H.out,D3.out,H4.out⟩
    case measure=>have:=f0.out;simp [intOf];omega
   | false=>
    rw [y] at u;have H:=ae y;clear y
    go_wp2_with fail
    refine u.out.mono ?_;rintro h0 w3 ⟨rfl,G,g⟩;obtain ⟨f1,f2,f3⟩:=HC.out w3 g;obtain ⟨w4,o0,h4,d4,M⟩:=ag.mapUpdate (P:=W) underlying89 underlying3 (w:=w3.drew) (g.drew.to (by unfold eJ;ac_rfl:_=mp m (mL O)*(pt t.f (im t (.map (X m)))*I))) (fd:Int) (CI (id,0));rw [Fj] at h4
    have k0:aP O (fd:Int)=V:=by
     have:=H.out
     cases hk:aP O (fd:Int) with
     | none=>rfl
     | some o=>rw [hk] at this;cases this
    have d0:=ae (g0.out fd w4 ((D.out.trans G).drew.trans d4) b0.out k0 (by rw [HZ.out] at h4;exact (h4.to (by unfold fQ;ac_rfl:_=(aA (e+1) p*(bd (e+1+1) (id:Nat)*aZ t e))*(fQ t s' m (mG O (fd:Int) (id,0))*F))).right));have g3:w4.cell? ⟨t.f,1,V⟩=X (.map (X m)):=(M.1 _).trans f3;have g2:w4.cell? ⟨e+1+1,0,V⟩=X (Z .i64 (id:Int)):=(M.1 _).trans f2;have g1:w4.cell? ⟨e,0,V⟩=X (az t.f):=(M.1 _).trans f1;clear u G g h4 d4 HS b0 D f0 H k0 e1 HC H3 D2 HO i0 g0 M;simp only [CI,Int.ofNat_zero] at o0
    go_wp2_with fail
    go_region_held3 (fun w'=>w'.cell? ⟨e,0,V⟩=X (az t.f)/\w'.cell? ⟨e+1+1,0,V⟩=X (Z .i64 (id:Int))/\w'.cell? ⟨t.f,1,V⟩=X (.map (X m))) (go_keep) (fail)
    go_wp2_with fail
    exact d0.out
 .have d0:=ae (E.out _ _ ⟨s',D2.out,hr,.inl ⟨hc,rfl,by rw [if_neg hc] at i;exact (i.to (by ac_rfl:_=(aA (e+1) p*(M5 (e+1+1)*aZ t e))*(fQ t s' m O*F))).right⟩⟩)
  clear i E hr
  go_wp2_with fail
  exact d0.out
end
section
variable {n:Nat} {x:Fx n} {b v oc qc pc tc id at' k:Nat} {T:Tr} {w:U} {F:ai} {o wh z:Int}
def oQ (a:Nat) (p:Nat × Nat):ai:=pt a (Y #[Z .i64 (p.1:Int),Z .i64 (p.2:Int)] 93 (0,0))
end
section
variable {t:Pl} {q:Dk t.n} {s s':Ds} {T:Tr} {k m:Nat} {O:mS} {w:U} {F:ai} {fd o wh:Int}
theorem RX {u:Nat × Nat} (e:aP O fd=X u) (h:ag w (eJ t m O*F)):(Instr.lookup 89 (.map (X m)) (Z .i64 fd) K).run W w = .ok (Z' #[.agg #[Z .i64 (u.1:Int),Z .i64 (u.2:Int)],.bool K]) w:=by
 have:=yp h fd;rw [e] at this;exact this
theorem yI (h:ag w (eJ t m O*F)):w.cell? ⟨t.f,1,V⟩=X (.map (X m)):=(h.to (by unfold eJ;ac_rfl:_=pt t.f (im t (.map (X m)))*(mp m (mL O)*F))).cell 1
theorem QT (h:ag w (eJ t m O*F)) (fd:Int) (u:Nat × Nat):∃ w',(Instr.mapUpdate 89 (.map (X m)) (Z .i64 fd) (.agg #[Z .i64 (u.1:Int),Z .i64 (u.2:Int)])).run W w = .ok () w'/\ag w' (eJ t m (mG O fd u)*F)/\aj w w'/\n8 w w':=by
 obtain ⟨y,i,h4,g,e⟩:=ag.mapUpdate (P:=W) underlying89 underlying3 (h.to (by unfold eJ;ac_rfl:_=mp m (mL O)*(pt t.f (im t (.map (X m)))*F))) fd (CI u);rw [Fj] at h4;exact ⟨y,i,h4.to (by unfold eJ;ac_rfl),g,e⟩
end
def fz (a:Nat) (v:N):ai:=pt a (Y #[v] 22 (0,0))
def Eg (a:Nat) (l:List UInt8):ai:=ex fun u=>bs 5 u l*fz a u
theorem B9 {w:U} {a:Nat} {l:List UInt8} {F:ai}:ag w (Eg a l*F)↔∃ u,ag w (bs 5 u l*(fz a u*F)):=by
 unfold Eg;rw [ag.ax];exact exists_congr fun u=>by rw [ay]
end Go.Proofs.Cl
namespace Go.SL
theorem Tidy.file {n id:Nat} {T:Tr} {f f':AF} (h:Tidy n T) (y:T id=X (.file f)) (G:f'.kd=f.kd) (H:f'.lk=f.lk):Tidy n (dp T id (X (.file f'))):=by
 have I:=h.lt y
 have M:id≠1:=by
  rintro rfl;obtain ⟨C,E⟩:=h.root;rw [E] at y;cases y
 refine ⟨?_,fun i C u=>?_,fun i g u=>?_,fun i=>?_,fun i u=>?_⟩
 .obtain ⟨C,E⟩:=h.root
  exact ⟨C,by unfold dp;rw [if_neg (Ne.symm M)];exact E⟩
 .unfold dp at u
  split at u
  .cases u
  .exact h.pC _ _ u
 .unfold dp at u
  split at u
  .cases u;rw [G];exact h.files _ _ y
  .exact h.files _ _ u
 .have:=rq I (T:=T) (X (.file f')) i
  rw [y] at this;have e:refs n (dp T id (X (.file f'))) i=refs n T i:=by simpa [eP] using this
  rw [e,h.ref];unfold dp
  split
  .rename_i e;subst e;rw [y];exact H.symm
  .rfl
 .unfold dp
  rw [if_neg (by omega)];exact h.out _ u
def kr (k at':Nat) (f:AF) (l:List UInt8):Int:=
 if 4096<l.length then 1 else if 122880<at'+l.length then 9 else if l=[] then 0 else if k+bK f.pr<bK (f.wr at' l).pr then 7 else 0
def gU (T:Tr) (k id at':Nat) (f:AF) (l:List UInt8) (c:Int) (e:Tr) (g:Nat):Prop:=
 c=kr k at' f l/\(c=0->(l=[]/\e=T/\g=k)\/(l≠[]/\e=dp T id (X (.file (f.wr at' l)))/\g=k+bK f.pr-bK (f.wr at' l).pr))
end Go.SL
namespace Go.Proofs.Cl
open RowKit SL Proofs.Nn Proofs.Ba Proofs.Su Proofs.Fs
attribute [local go_sem] Oper.semAt_some
section
variable {n:Nat} {x:Fx n} {b v nc pc id at' k:Nat} {T:Tr} {w:U} {F D:ai} {l:List UInt8} {va:Option Addr} {vc:Nat}
theorem GN {f:AF} (ht:Tidy n T) (c0:kr k at' f l=0) (M:T id=X (.file f)) (C:at'<=122880) (g0:l.length<=1000000000) (E:l.length<=vc) (hD:∀ f0 P,ag f0 (D*P)->Rd f0 (R va l.length vc) l) (h:ag w (vA x b v T k*((fz nc (R va l.length vc)*oQ pc (id,at'))*(D*F)))) :
  Calls W 50 #[az v,az nc,az pc] w (To x b v (gU T k id at' f l) ((fz nc (R va l.length vc)*oQ pc (id,at'))*(D*F)) w):=by
 refine aJ fun k0 y=>?_;have e0:=ae fun (c:Int) (S:c≠0) (he:c=kr k at' f l)=>y.out (.panicked (nt c)) w ⟨c,T,k,0,⟨he,fun h=>absurd h S⟩,fun h=>absurd h S,.inr ⟨S,rfl⟩,aj.refl w,by decide,(ag.xX (x:=x) 0 (qo h |>.to (aG _ _ _))).to (by unfold vA;ac_rfl)⟩;have g:=h.to (by unfold vA oQ fz;ac_rfl:_=dS x b (fR T) k*(D*(pt v (bT b n)*(pt nc (Y #[R va l.length vc] 22 (0,0))*(pt pc (Y #[Z .i64 (id:Int),Z .i64 (at':Int)] 93 (0,0))*F)))));have n0:w.cell? ⟨nc,0,V⟩=X (R va l.length vc):=g.aD.cell 0;have p0:w.cell? ⟨pc,0,V⟩=X (Z .i64 (id:Int)):=g.aM.cell 0;have p1:w.cell? ⟨pc,1,V⟩=X (Z .i64 (at':Int)):=g.aM.cell 1;have h0:=ae yz;have o0:=ae BY;have hC:kr k at' f l=if 4096<l.length then 1 else if 122880<at'+l.length then 9 else if l=[] then 0 else if k+bK f.pr<bK (f.wr at' l).pr then 7 else 0:=rfl
 have u:=ae hC;have I:=ae ht;have HA:=ae C;have HL:=ae g0;have m0:(l.length:Int)<=1000000000:=by omega
 have l0:(at':Int)<=122880:=by omega
 clear hC ht C g0
 by_cases r1:(l.length:Int)<=4096
 .by_cases r2:(at':Int)+(l.length:Int)<=122880
  .by_cases r3:(l.length:Int)=0
   .have i:l=[]:=List.length_eq_zero_iff.1 (by omega)
    have b0:=ae (y.out (Q (Z' #[])) w ⟨0,T,k,0,⟨by rw [u.out,if_neg (by omega),if_neg (by omega),if_pos i],fun _=>.inl ⟨i,rfl,rfl⟩⟩,fun _=>I.out,.inl ⟨rfl,rfl⟩,aj.refl w,by decide,(ag.xX (x:=x) 0 (qo h |>.to (aG _ _ _))).to (by unfold vA;ac_rfl)⟩);have i0:=ae E;clear e0 u h g I HA HL y M E i;generalize l.length=ln at *
    go_enter func50,ntmps50
    go_wp2_with fail
    refine (h0.out _).mono ?_;rintro e w2 ⟨rfl,rfl⟩
    go_wp2_with fail
    go_end0
    exact b0.out
   .have i:l≠[]:=fun e=>r3 (by rw [e];rfl)
    have H1:=ae g;have G:w.cell? ⟨v,0,V⟩=X (az b)/\w.cell? ⟨v,1,V⟩=X (Z .i64 (n:Int))/\w.cell? ⟨pc,0,V⟩=X (Z .i64 (id:Int))/\w.cell? ⟨pc,1,V⟩=X (Z .i64 (at':Int))/\w.cell? ⟨nc,0,V⟩=X (R va l.length vc):=⟨g.aw.cell 0,g.aw.cell 1,p0,p1,n0⟩
    by_cases hk:k+bK f.pr<bK (f.wr at' l).pr
    .exact absurd ((by rw [u.out,if_neg (by omega),if_neg (by omega),if_neg i,if_pos hk]:kr k at' f l=7).symm.trans c0) (by decide)
    .have d0:=ae fun (w':U) (d:aj w w') (hs:ag w' (vA (x.more (l.length/480+5)) b v (dp T id (X (.file (f.wr at' l)))) (k+bK f.pr-bK (f.wr at' l).pr)*((fz nc (R va l.length vc)*oQ pc (id,at'))*(D*F))))=>
      y.out (Q (Z' #[])) w' ⟨0,_,_,l.length/480+5,⟨by rw [u.out,if_neg (by omega),if_neg (by omega),if_neg i,if_neg hk],fun _=>.inr ⟨i,rfl,rfl⟩⟩,fun _=>I.out.file (f':=f.wr at' l) M rfl rfl,.inl ⟨rfl,rfl⟩,d,by omega,hs⟩
     have C:=ae fun w' h'=>zu (x:=x) (b:=b) (k:=k) (w:=w') (F:=pt v (bT b n)*(pt nc (Y #[R va l.length vc] 22 (0,0))*(pt pc (Y #[Z .i64 (id:Int),Z .i64 (at':Int)] 93 (0,0))*F))) (ld M) at' hD E (by omega) (by omega) (by omega) h';have Hk:=ae fun w=>dm w;have K0:=ae G;have i0:=ae E;clear e0 u h g I HA HL y M E i hk G hD;generalize l.length=ln at *
     go_enter func50,ntmps50
     go_wp2_with fail
     refine (h0.out _).mono ?_;rintro e w2 ⟨rfl,rfl⟩
     go_wp2_with fail
     have G:=K0.out
     go_region_held3 (fun w'=>w'.cell? ⟨v,0,V⟩=X (az b)/\w'.cell? ⟨v,1,V⟩=X (Z .i64 (n:Int))/\w'.cell? ⟨pc,0,V⟩=X (Z .i64 (id:Int))/\w'.cell? ⟨pc,1,V⟩=X (Z .i64 (at':Int))/\w'.cell? ⟨nc,0,V⟩=X (R va ln vc))
      (first|exact G|exact k1|go_keep)
      (first
       | (go_at_call 52;refine (C.out _ H1.out.drew).mono ?_;rintro e H ⟨rfl,d4,h4⟩;have k1:H.cell? ⟨v,0,V⟩=X (az b)/\H.cell? ⟨v,1,V⟩=X (Z .i64 (n:Int))/\H.cell? ⟨pc,0,V⟩=X (Z .i64 (id:Int))/\H.cell? ⟨pc,1,V⟩=X (Z .i64 (at':Int))/\H.cell? ⟨nc,0,V⟩=X (R va ln vc):=⟨h4.aw.cell 0,h4.aw.cell 1,h4.aM.cell 0,h4.aM.cell 1,h4.aD.cell 0⟩)
       | (go_at_call 34;refine (Hk.out _).mono ?_;rintro e w5 ⟨rfl,rfl⟩))
     rename_i j0;clear j0 G k1 K0 C H1;rw [show dp (fR T) id (X (f.wr at' l))=fR (dp T id (X (.file (f.wr at' l)))) from sk T id (.file (f.wr at' l))] at h4;have b0:=ae (d0.out _ ((aj.refl w).drew.trans d4) (h4.to (by unfold vA oQ fz;ac_rfl)));clear h4 d4 d0
     go_wp2_with fail
     go_end0
     exact b0.out
  .exact absurd ((by rw [u.out,if_neg (by omega),if_pos (by omega)]:kr k at' f l=9).symm.trans c0) (by decide)
 .exact absurd ((by rw [u.out,if_pos (by omega)]:kr k at' f l=1).symm.trans c0) (by decide)
end
section
variable {t:Pl} {q:Dk t.n} {s s':Ds} {T:Tr} {k m:Nat} {O:mS} {w:U} {F D:ai} {fd z:Int} {l:List UInt8} {va:Option Addr} {vc:Nat}
def gS (t:Pl) (q:Dk t.n) (m:Nat) (s:Ds) (O:mS) (fd:Int) (o:Nat × Nat) (i:Int->Tr->Nat->Prop) (F:ai) (w:U) (e:Ending) (w':U):Prop:=
 ∃ c g h s',i c g h/\e = Q (Z .i64 c)/\aj w w'/\((c≠0/\s.Rd s'/\ag w' (fQ t s' m O*F))\/(c=0/\oI t q s' g h/\s.Go t.n K s'/\ag w' (fQ t s' m (mG O fd o)*F)))
theorem Iz {f:AF} {id at':Nat} (hf:oI t q s T k) (hB:s.B<=1000000) (q0:kr k at' f l=0) (hy:aP O fd=X (id,at')) (hT:T id=X (.file f)) (ha:at'<=122880) (j0:l.length<=1000000000) (i0:l.length<=vc) (hD:∀ g0 P,ag g0 (D*P)->Rd g0 (R va l.length vc) l) (h:ag w (fQ t s m O*(D*F))) :
  Calls W 17 #[az t.f,Z .i64 fd,R va l.length vc] w (gS t q m s O fd (id,at'+l.length) (gU T k id at' f l) (D*F) w):=by
 refine aJ fun u0 u=>?_;have h1:ag w (eJ t m O*(rC t s*(D*F))):=h.to (by unfold fQ eJ;ac_rfl);have hA:=h1.alloc (Y #[R va l.length vc] 22 (0,0));have dA:=(aj.refl w).alloc (Y #[R va l.length vc] 22 (0,0));generalize s0:w.alloc (Y #[R va l.length vc] 22 (0,0))=w1 at *;have b0:ag w1 (eJ t m O*(fz w.heap.size (R va l.length vc)*(rC t s*(D*F)))):=hA.to (by unfold fz;ac_rfl);have hl:=RX hy b0;have c1:=yI b0;have h0:=b0.alloc (Y #[Z .i64 (id:Int),Z .i64 (at':Int)] 93 (0,0));have dB:=ae (dA.alloc (Y #[Z .i64 (id:Int),Z .i64 (at':Int)] 93 (0,0)))
 have hd:=ae fun (nc pc:Nat) (w':U) (h':ag w' (fQ t s m O*(((fz nc (R va l.length vc)*oQ pc (id,at'))*D)*F)))=>
  rh hf hB 50 #[az nc,az pc] ((fz nc (R va l.length vc)*oQ pc (id,at'))*D) (gU T k id at' f l) (enters func50 (by kernel_rfl) rfl)
   (fun x v b w1 m0 G=>(GN (x:=x) (b:=b) (v:=v) (k:=k) (nc:=nc) (pc:=pc) (F:=eJ t m O*m0) hf.ty q0 hT ha j0 i0 hD (G.to (by ac_rfl))).mono fun n0 w' hq=>by simpa only [ay] using hq) h'
 have HB:=ae h0;have o0:gU T k id at' f l 0 T k\/True:=.inr trivial
 have l0:∀ y H,gU T k id at' f l 0 y H->l.length<=4096:=fun y H g=>by
  have:=g.1;unfold kr at this
  by_cases h4:4096<l.length
  .rw [if_pos h4] at this;cases this
  .omega
 have c0:=ae l0;have F0:(at':Int)<=122880:=by omega
 unfold gS at u;clear h h1 hA b0 dA h0 hf hB hy hT l0 ha j0 hD o0 i0;generalize gU T k id at' f l=x0 at *
 go_enter func17,ntmps17
 go_wp2_with fail
 generalize w1.alloc (Y #[Z .i64 (id:Int),Z .i64 (at':Int)] 93 (0,0))=w2 at *;generalize w1.heap.size=pc at *;generalize w.heap.size=nc at *;refine (hd.out nc pc _ (HB.out.to (by unfold fQ eJ oQ;ac_rfl))).mono ?_;rintro n0 w3 ⟨c,y,H,s',E,rfl,d3,g,C⟩;have I:=ae (dB.out.trans d3);clear hd dB d3 HB s0 hl c1
 by_cases hc:c=0
 .subst hc
  have k0:=c0.out _ _ E;have i:=g.elim (fun h=>absurd rfl h.1) (fun h=>h.2);have d0:=ae fun (w':U) (d:aj w w') (hs:ag w' (fQ t s' m (mG O fd (id,at'+l.length))*(D*F)))=>u.out _ w' ⟨0,y,H,s',E,rfl,d,.inr ⟨rfl,i.1,i.2,hs⟩⟩;obtain ⟨z,hz⟩:∃ z,l.length=z:=⟨_,rfl⟩
  rw [hz] at C k0 d0 ⊢;have h4:=C.to (by unfold fQ eJ oQ fz;ac_rfl:_=pt pc (Y #[Z .i64 (id:Int),Z .i64 (at':Int)] 93 (0,0))*(pt nc (Y #[R va z vc] 22 (0,0))*(eJ t m O*(D*(rC t s'*F)))));have t0:w3.cell? ⟨nc,0,V⟩=X (R va z vc):=h4.ah.cell 0;have p1:w3.cell? ⟨pc,1,V⟩=X (Z .i64 (at':Int)):=h4.cell 1;have g1:=h4.frozen 1;have h5:=h4.setCell 1 (Z .i64 ((at'+z:Nat):Int));simp only [E1,K1,M1] at h5;have M:=ae (I.out.setCell ⟨pc,1,V⟩ (Z .i64 ((at'+z:Nat):Int)));have S:=ae h5;have H0:(z:Int)<=4096:=by omega
  have f0:((at'+z:Nat):Int)=(at':Int)+(z:Int):=by omega
  rw [f0] at S M;have G0:0<=(z:Int):=by omega
  have D0:0<=(at':Int):=by omega
  clear C h4 h5 u I g i E c0 hz k0;generalize p0:at'+z=e at *
  go_wp2_with fail
  rw [<- f0] at S M ⊢;generalize w3.setCell ⟨pc,1,V⟩ (Z .i64 (e:Int))=w4 at *
  have mT:∀ (O:mS) (wr:U),ag wr (eJ t m O*(pt pc (Y #[Z .i64 (id:Int),Z .i64 (e:Int)] 93 (0,0))*(pt nc (Y #[R va z vc] 22 (0,0))*(D*(rC t s'*F)))))->wr.cell? ⟨t.f,1,V⟩=X (.map (X m))/\wr.cell? ⟨pc,0,V⟩=X (Z .i64 (id:Int))/\wr.cell? ⟨pc,1,V⟩=X (Z .i64 (e:Int)):=fun O wr G=>
   ⟨yI G,G.ah.cell 0,G.ah.cell 1⟩
  have h6:=S.out.to (by ac_rfl:_=eJ t m O*(pt pc (Y #[Z .i64 (id:Int),Z .i64 (e:Int)] 93 (0,0))*(pt nc (Y #[R va z vc] 22 (0,0))*(D*(rC t s'*F)))));obtain ⟨e1,e2,e3⟩:=mT _ _ h6;obtain ⟨w5,r0,h7,d7,ce⟩:=QT h6.drew fd (id,e);obtain ⟨f1,f2,f3⟩:=mT _ _ h7;have e0:=ae (d0.out w5 (M.out.drew.trans d7) ((h7.to (by unfold fQ eJ;ac_rfl:_=(pt pc (Y #[Z .i64 (id:Int),Z .i64 (e:Int)] 93 (0,0))*pt nc (Y #[R va z vc] 22 (0,0)))*(fQ t s' m (mG O fd (id,e))*(D*F)))).right));dsimp only at r0;clear mT h6 h7 d7 ce M S d0 t0 p1 g1 f0 p0
  go_region_held3 (fun w'=>w'.cell? ⟨t.f,1,V⟩=X (.map (X m))/\w'.cell? ⟨pc,0,V⟩=X (Z .i64 (id:Int))/\w'.cell? ⟨pc,1,V⟩=X (Z .i64 (e:Int))) (go_keep) (fail)
  go_wp2_with fail
  exact e0.out
 .have i:=g.elim (fun h=>h.2) (fun h=>absurd h.1 hc)
  have e0:=ae (u.out _ _ ⟨c,y,H,s',E,rfl,I.out,.inl ⟨hc,i,(C.to (by ac_rfl:_=(fz nc (R va l.length vc)*oQ pc (id,at'))*(fQ t s' m O*(D*F)))).right⟩⟩);clear C u g i E I c0
  go_wp2_with fail
  exact e0.out
end
end Go.Proofs.Cl
namespace Go.SL
def il (T:Tr) (p:List UInt8) (a c:Int):Int:=if 0<=a/\0<=c/\c<=4096 then (if (bV T p).1≠0 then (bV T p).1 else match T (bV T p).2 with
 | some (.file _)=>0
 | _=>8) else 1
def nM (T:Tr) (p:List UInt8) (a c:Int):List UInt8:=match T (bV T p).2 with
 | some (.file f)=>f.sub a.toNat c.toNat
 | _=>[]
end Go.SL
namespace Go.Proofs.Cl
open RowKit SL Proofs.Nn Proofs.Ba Proofs.Su Proofs.Fs
attribute [local go_sem] Oper.semAt_some
section
variable {n:Nat} {x:Fx n} {b v pc ac nc rc k:Nat} {T:Tr} {w:U} {F:ai} {p:List UInt8} {a c:Int}
theorem MK (ht:Tidy n T) (b0:il T p a c=0) (i0:ag w (vA x b v T k*(aA pc p*(bd ac a*(bd nc c*(fz rc (R V 0 0)*F)))))) :
  Calls W 53 #[az v,az pc,az ac,az nc,az rc] w (Nx (il T p a c) (vA x b v T k*(aA pc p*(bd ac a*(bd nc c*(Eg rc (nM T p a c)*F))))) (vA x b v T k*(aA pc p*(bd ac a*(bd nc c*(fz rc (R V 0 0)*F))))) w):=by
 refine aJ fun s0 M=>?_;have cp:w.cell? ⟨pc,0,V⟩=X (L (str p)):=i0.ah.cell 0;have j0:=ae i0;have HT:=ae ht
 have q0:Hid (∀ e,e≠0->e=il T p a c->∀ (w':U),aj w w'->ag w' (vA x b v T k*(aA pc p*(bd ac a*(bd nc c*(fz rc (R V 0 0)*F)))))->s0 (.panicked (nt e)) w'):=fun e I he w' d y=>
  M.out _ _ ⟨d,.inr ⟨by rw [<- he];exact I,by rw [he],y⟩⟩
 have l0:=ae yz;have x0:=ae BY;clear i0
 cases y:bA p with
 | none=>
  exact absurd ((by unfold il;rw [qE y];split <;> rfl:(1:Int)=il T p a c).trans b0) (by decide)
 | some h=>
  obtain ⟨D0,hl⟩:=dq y;have o0:=fD (T:=T) y;have hk:=ae (dQ (w:=w) y);have i:=fun h0=>ht.walk h ht.root.choose_spec h0;have HL:=ae hl;have f0:=ae o0;have HY:=ae i;clear ht y hl D0 o0 i
  by_cases hr:0<=a/\0<=c/\c<=4096
  .have G:=ae (show il T p a c=if (aT T 1 h).1≠0 then (aT T 1 h).1 else match T (aT T 1 h).2 with|some (.file _)=>0|_=>8 by unfold il;rw [if_pos hr,f0.out])
   have S:=ae (show nM T p a c=match T (aT T 1 h).2 with|some (.file f)=>f.sub a.toNat c.toNat|_=>[] by unfold nM;rw [f0.out]);obtain ⟨r1,r2,r3⟩:=hr
   go_enter func53,ntmps53
   go_wp2_with fail
   refine hk.out.mono ?_;rintro e w2 ⟨e0,rfl,d2,h2⟩;have g:=(h2.under j0.out)
   have a0:w2.cell? ⟨ac,0,V⟩=X (Z .i64 a):=g.aD.cell 0;have n0:w2.cell? ⟨nc,0,V⟩=X (Z .i64 c):=g.aM.cell 0;have hw:=ae (fB HT.out HL.out gN g.ah);generalize aT T 1 h=pw at *;obtain ⟨wc,id⟩:=pw;dsimp only at hw HY G S;clear cp hk h2 g HL f0
   go_wp2_with fail
   refine (l0.out _).mono ?_;rintro e L0 ⟨rfl,rfl⟩;clear l0 x0
   go_wp2_with fail
   refine hw.out.mono ?_;rintro e w3 ⟨he,d3,g⟩;clear hw;have D3:=ae (d2.trans d3);clear d2 d3;rcases he with ⟨rfl,rfl⟩|⟨I,rfl⟩
   .obtain ⟨p0,i⟩:=HY.out rfl
    have k0:=ae (la i g);clear g HY a0 n0
    go_wp2_with fail
    refine k0.out.mono ?_;rintro e w5 hq;rcases hq with ⟨c0,z,rfl,F0,G0,H0,K0,d5,u⟩|⟨c0,rfl,d5,u⟩
    .cases p0 with
     | dir r0=>exact absurd c0 (by show ¬ (2:Int)=1;decide)
     | file f=>
      rw [i] at G S;have d0:il T p a c=0:=G.out;have m0:nM T p a c=f.sub a.toNat c.toNat:=S.out;rw [d0,m0] at M;obtain ⟨C,rfl⟩:∃ m:Nat,a=(m:Int):=⟨a.toNat,by omega⟩
      obtain ⟨E,rfl⟩:∃ m:Nat,c=(m:Int):=⟨c.toNat,by omega⟩
      simp only [Int.toNat_natCast] at M;have hb:=ae (Ey i C E u);have H:=u.to (by ac_rfl:_=bd ac (C:Int)*(bd nc (E:Int)*(vA x b v T k*(ei e0 h*(aA pc p*(fz rc (R V 0 0)*F))))));have a0:w5.cell? ⟨ac,0,V⟩=X (Z .i64 (C:Int)):=H.cell 0;have n0:w5.cell? ⟨nc,0,V⟩=X (Z .i64 (E:Int)):=H.ah.cell 0;have D5:=ae (D3.out.trans d5);clear i G S d0 m0 q0 u H k0 F0 G0 H0 K0 d5 D3 c0 j0;generalize f.sub C E=l at *
      go_wp2_with fail
      refine hb.out.mono ?_;rintro e w6 ⟨u2,rfl,d6,H⟩;have g:=H.to (by unfold fz;ac_rfl:_=pt rc (Y #[R V 0 0] 22 (0,0))*(bs 5 u2 l*(vA x b v T k*(aA pc p*(bd ac (C:Int)*(bd nc (E:Int)*(ei e0 h*F)))))));have t0:w6.cell? ⟨rc,0,V⟩=X (R V 0 0):=g.cell 0;have g0:=g.frozen 0;have h4:=g.setCell 0 u2;simp only [E1,K1] at h4;obtain ⟨ua,uc,rfl⟩:=aE h4.ah;have u:ag (w6.setCell ⟨rc,0,V⟩ (R ua l.length uc)) (Eg rc l*(vA x b v T k*(aA pc p*(bd ac (C:Int)*(bd nc (E:Int)*(ei e0 h*F)))))):=B9.2 ⟨_,h4.to (by unfold fz;ac_rfl)⟩;have u0:=ae (M.out _ _ ⟨(D5.out.trans d6).setCell ⟨rc,0,V⟩ (R ua l.length uc),.inl ⟨rfl,rfl,(u.to (by ac_rfl:_=ei e0 h*(vA x b v T k*(aA pc p*(bd ac (C:Int)*(bd nc (E:Int)*(Eg rc l*F))))))).right⟩⟩);clear g h4 u H M hb d6 D5
      go_wp2_with fail
      go_end0
      exact u0.out
    .have d0:(8:Int)=il T p a c:=by
      rw [G.out,if_neg (by decide),i]
      cases p0 with
      | dir r0=>rfl
      | file f=>exact absurd (HT.out.files _ _ i) c0
     exact absurd (d0.trans b0) (by decide)
   .exact absurd ((by rw [G.out,if_pos I]:il T p a c=_).symm.trans b0) I
  .have I:(1:Int)=il T p a c:=by unfold il;rw [if_neg hr]
   exact absurd (I.trans b0) (by decide)
end
section
variable {t:Pl} {q:Dk t.n} {s s':Ds} {T:Tr} {k m:Nat} {O:mS} {w:U} {F:ai} {p:List UInt8} {a c:Int}
def zx (t:Pl) (m:Nat) (s:Ds) (O:mS) (c:Int) (l:List UInt8) (F:ai) (w:U) (e:Ending) (w':U):Prop:=
 ∃ s',aj w w'/\s.Rd s'/\((c≠0/\e = Q (Z' #[R V 0 0,Z .i64 c])/\ag w' (fQ t s' m O*F)) \/
  (c=0/\∃ u,e = Q (Z' #[u,Z .i64 0])/\ag w' (bs 5 u l*(fQ t s' m O*F))))
theorem Ka (E:oI t q s T k) (hB:s.B<=1000000) (c0:il T p a c=0) (b0:ag w (fQ t s m O*F)) :
  Calls W 19 #[az t.f,L (str p),Z .i64 a,Z .i64 c] w (zx t m s O (il T p a c) (nM T p a c) F w):=by
 refine aJ fun f0 g=>?_;have y:=((((b0.alloc (Y #[L (str p)] 9 (0,0))).alloc (Y #[Z .i64 a] 3 (0,0))).alloc (Y #[Z .i64 c] 3 (0,0))).alloc (Y #[R V 0 0] 22 (0,0)))
 simp only [L1] at y;have dA:=ae (((((aj.refl w).alloc (Y #[L (str p)] 9 (0,0))).alloc (Y #[Z .i64 a] 3 (0,0))).alloc (Y #[Z .i64 c] 3 (0,0))).alloc (Y #[R V 0 0] 22 (0,0)))
 have hd:=ae fun (pc ac nc rc:Nat) (w':U) (h':ag w' (fQ t s m O*((aA pc p*(bd ac a*(bd nc c*fz rc (R V 0 0))))*F)))=>
  lP E hB 53 #[az pc,az ac,az nc,az rc] (aA pc p*(bd ac a*(bd nc c*fz rc (R V 0 0)))) (il T p a c) (aA pc p*(bd ac a*(bd nc c*Eg rc (nM T p a c)))) (aA pc p*(bd ac a*(bd nc c*fz rc (R V 0 0)))) (enters func53 (by kernel_rfl) rfl)
   (fun x v b w1 d0 hw=>(MK (x:=x) (b:=b) (v:=v) (k:=k) (pc:=pc) (ac:=ac) (nc:=nc) (rc:=rc) (F:=eJ t m O*d0) (p:=p) E.ty c0 (hw.to (by ac_rfl))).mono fun e0 w' hq=>by simpa only [ay] using hq) h'
 have M:=ae y;clear c0;unfold zx at g;clear b0 y hB E;generalize il T p a c=cc at *;generalize nM T p a c=l at *
 go_enter func19,ntmps19
 go_wp2_with fail
 generalize (((w.alloc (Y #[L (str p)] 9 (0,0))).alloc (Y #[Z .i64 a] 3 (0,0))).alloc (Y #[Z .i64 c] 3 (0,0))).alloc (Y #[R V 0 0] 22 (0,0))=w1 at *;generalize w.heap.size=pc at *;refine (hd.out pc (pc+1) (pc+1+1) (pc+1+1+1) _ (M.out.to (by unfold aA bd fz;ac_rfl))).mono ?_;rintro e0 w2 ⟨s',rfl,S,u,e⟩;have h:=ae (dA.out.trans S);clear hd dA M S
 by_cases C:cc=0
 .subst C
  rw [if_pos rfl] at e;obtain ⟨g0,i⟩:=(B9 (a:=pc+1+1+1)).1 (e.to (by ac_rfl:_=Eg (pc+1+1+1) l*(fQ t s' m O*(aA pc p*(bd (pc+1) a*(bd (pc+1+1) c*F))))));obtain ⟨H,I,rfl⟩:=aE i;have t0:w2.cell? ⟨pc+1+1+1,0,V⟩=X (R H l.length I):=i.ah.cell 0;have G:=ae (g.out _ _ ⟨s',h.out,u,.inr ⟨rfl,_,rfl,(i.to (by ac_rfl:_=(fz (pc+1+1+1) (R H l.length I)*(aA pc p*(bd (pc+1) a*bd (pc+1+1) c)))*(bs 5 (R H l.length I) l*(fQ t s' m O*F)))).right⟩⟩);clear e i g u h
  go_wp2_with fail
  exact G.out
 .rw [if_neg C] at e
  have G:=ae (g.out _ _ ⟨s',h.out,u,.inl ⟨C,rfl,(e.to (by ac_rfl:_=(aA pc p*(bd (pc+1) a*(bd (pc+1+1) c*fz (pc+1+1+1) (R V 0 0))))*(fQ t s' m O*F))).right⟩⟩);clear e g u h
  go_wp2_with fail
  exact G.out
end
end Go.Proofs.Cl

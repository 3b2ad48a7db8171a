/- Steps. -/
import Derived.Test.YtdickhgiahcnaaaGreatDoorNP40
import Derived.Test.YtdickhgiahcnaaaGreatDoorNP32
set_option linter.all false
set_option maxRecDepth 99999
set_option maxHeartbeats 0
open Go.SL
open Go.Value renaming int->Z,slice->Q,string->K,tuple->I
open Go.IntKind renaming i64->Y
open Go.Obj renaming cells->X
open Go.Ending renaming returned->N
open Go renaming World->R,Value->L
open Go.Proofs.Tryz renaming prog->U
open Option renaming some->W,none->V
open Bool renaming true->H
open Go.Proofs.Tryz
open List renaming setIfInBounds_toArray->A3,set_cons_zero->A2,length_map->B2,set_cons_succ->B1,getElem?_eq_getElem->E2
open Go.World renaming size_alloc->A1
open Prod renaming fst->B3
open Int renaming toNat_natCast->D8
open Option renaming isSome_map->E5
namespace Go.Proofs.Cl
open RowKit SL Proofs.Nn Proofs.Ba Proofs.Su Proofs.Fs
def zZ (s j k:Nat) (w:R) (h:w.cell? ⟨s,0,V⟩=W (az j)):(method (k+1) 92 (az s) "Read").run U w = .ok (316,az j) w:=by
 have e:(method (k+1) 92 (az s) "Read").run U w=(do let v <- loadVar 121 ⟨s,0,V⟩; pure (316,v):Sem (FuncId×L)).run U w:=Kr0
 rw [e];simp [go_sem,h]
def Ef (e:Array L) (w:R):(callFunc 316 e).run U w = .ok (.enter 316 e) w:=Kr0
structure Pl where
 f:Nat
 s:Nat
 j:Nat
 d:Nat
 n:Nat
 P:Nat
def Aa (t:Pl) (Sd:Hp):Cx (Jr × aB):=⟨92,az t.s,316,az t.j,fun w=>w.cell? ⟨t.s,0,V⟩=W (az t.j),Sn,QI t.s t.j t.d t.n t.P Sd⟩
section
variable {w w':R} {s j d n P:Nat} {Sd:Hp} {x:Jr × aB} {F:ai}
def nK (h:ag w (QI s j d n P Sd x*F)):(x.1.Ok/\x.2.Ok)/\ag w (eN s j d n P x.1*(aR Sd d x.2*(al Sd*F))):=by
 obtain ⟨e,g⟩:=ag.aq.1 (h.to (ay _ _ _));exact ⟨e,g.u00⟩
def C1 (e:x.1.Ok) (g:x.2.Ok) (h:ag w (eN s j d n P x.1*(aR Sd d x.2*(al Sd*F)))):ag w (QI s j d n P Sd x*F):=
 (ag.aq.2 ⟨⟨e,g⟩,h.t00 ((eN s j d n P x.1*(aR Sd d x.2*al Sd))*F)⟩:ag w (fact _*_)).to (ay _ _ _).symm
def rY {J:Jr} (h:ag w (eN s j d n P J*F)):w.cell? ⟨s,0,V⟩=W (az j):=by
 have e:ag w (pt s (X #[az j,Z Y (n:Int),Z Y (P:Int)] 123 (0,0))*(qq j d J*F)):=h.to (by unfold eN;ac_rfl);exact e.cell 0
end
def Kq (t:Pl) (Sd:Hp):(Aa t Sd).Ok:=by
 refine ⟨fun x F w h=>?_,fun k w h=>zZ t.s t.j k w h,fun y w=>Ef y w,fun x id F w h=>?_,fun x id _=>?_⟩
 .exact rY (nK (F:=F) h).2
 .obtain ⟨J,D⟩:=x
  obtain ⟨⟨g,i⟩,E⟩:=nK (F:=F) h;have g:=g;have i:=i;have:=GH w Sd t.j t.d J D id (pt t.s (X #[az t.j,Z Y (t.n:Int),Z Y (t.P:Int)] 123 (0,0))*F) (E.to (by unfold eN;ac_rfl)) g i;apply this.mono;rintro e w' ⟨u,rfl,h4,C⟩;obtain ⟨G,M⟩:=LO g i id;refine ⟨u,rfl,?_,C⟩;have h5:ag w' (eN t.s t.j t.d t.n t.P (J.read D id).2.1*(aR Sd t.d (J.read D id).2.2*(al Sd*(pS 5 (J.read D id).1 u*F)))):=h4.to (by unfold eN;ac_rfl);exact (C1 (x:=((J.read D id).2.1,(J.read D id).2.2)) G M h5).t00 (pS 5 (J.read D id).1 u*(QI t.s t.j t.d t.n t.P Sd ((J.read D id).2.1,(J.read D id).2.2)*F))
 .show (Jr.read x.1 x.2 id).1.2.length<=1000000
  have:=rR x.1 x.2 id;omega
abbrev xA:Hp:=fun _=>V
def gS (t:Pl) (e:L):Obj:=X #[az t.s,e] 97 (0,0)
def xL {P:Program} {w:R} {t h e:TypeId} (g:P.underlying t=W (.map h e)) (ty:TypeId) :
  (Builtin.len_ #[t] ty #[.map V]).run P w = .ok (Z Y 0) w:=by
 simp [Builtin.len_,run_underlying g,goInt]
def tC {w:R} {S:Hp} {b:Nat} {rd:L} {i:Int} {g D:CB} {F:ai} (h:ag w (aU 177 5 S b rd i g D*(al S*F))):(g.map B3).Nodup:=by
 obtain ⟨x,y⟩:=h.et;obtain ⟨u,E,C,_⟩:=(y.t00 (aQ 5 S x.wv x.ws g*(al S*(pt b (X (x.cells rd i) 177 (0,0))*(aQ 5 S x.tv x.ts D*(fB x.av*F)))))).lM;have e:(g.map B3).Perm (u.map B3):=Gr0
 exact e.nodup_iff.2 C
def QJ (w:R) (S:Hp) (b:Nat) (rd:L) (u:Int) (g D:CB) (F:ai)
  (h:ag w (aU 177 5 S b rd u g D*(al S*F))) :
  Calls U 71 #[.pointer (W ⟨b,0,V⟩)] w fun e w'=>e = N (Z Y g.length)/\w=w':=by
 obtain ⟨x,C⟩:=h.et;have b0:w.cell? ⟨b,2,V⟩=W x.wv:=C.cell 2
 have c0:(Builtin.len_ #[173] 3 #[x.wv]).run U w = .ok (Z Y g.length) w:=by
  obtain ⟨i,z1,z2,z3,M,_⟩:=(C.t00 (aQ 5 S x.wv x.ws g*(al S*(pt b (X (x.cells rd u) 177 (0,0))*(aQ 5 S x.tv x.ts D*(fB x.av*F)))))).lM;have y:g.length=i.length:=by have:=z1.length_eq;simpa using this.symm
  rcases M with ⟨hv,hz⟩|⟨m,o,hv,E,G⟩
  .have:i=[]:=by simpa using hz
   rw [y,hv,this,xL underlying173];rfl
  .rw [y,hv,BU E G underlying173];simp
 go_in
 go_wp2
 go_ret
 exact ⟨rfl,rfl⟩
def BT {P:Program} {i:Func} {C:Ending->R->Prop} {t G:Array L} (he:∀ w,(results i t).run P w=(results i G).run P w):∀ (g:List Deferred) (u:FrameMode) (w:R),Leaves P i t C g u w->Leaves P i G C g u w:=by
 intro g
 induction g with
 | nil=>
  intro u w h
  cases u with
  | run=>exact h
  | returning=>
   obtain ⟨v,hr,hR⟩:=h;exact ⟨v,(he w).symm.trans hr,hR⟩
  | panicking c=>exact h
 | cons d g E=>
  intro u w h;obtain ⟨d0,fv,S,f,M,e0,c0,b0⟩:=h;refine ⟨d0,fv,S,f,M,e0,c0,b0.mono fun e u' w' y=>?_⟩
  cases e with
  | returned v=>exact E _ _ y
  | panicked c=>exact E _ _ y
  | outgrown=>exact y
def P4 {e:Ending->R->Prop} {c:List PanicEntry} {a:Act} {w:R} {k:Nat} {v:L} (g:k≠4) (h:bodyPostD U Tryz.f27 e (.panic c) (a.put (W k) v) w):bodyPostD U Tryz.f27 e (.panic c) a w:=by
 refine BT (fun w=>?_) _ _ _ h;simp [results,Tryz.results27,Act.put,Array.getElem?_setIfInBounds,g]
def EE {e:Array Oper} {C:Region.Mode} {S:R->Prop} {u:Exit->Act->R->Prop} (i:Nat) {g:Oper} {v:L} {E:Nat} {y:Array Bool} {a:Act} {w:R} {q:Prop} (h:q)
  (hi:e[i]?=W g:=by rfl) (hs:Region.noSelect e=H:=by kernel_rfl) (hf:Region.free C e y i=H:=by kernel_rfl) (hr:(Region.ready C e y).contains i=H:=by kernel_rfl)
  (G:∀ c a w,u (.panic c) (a.put g.dst v) w->u (.panic c) a w:=by exact fun _ _ _ h=>P4 De0 h) (hw:Region.wanted g (yielded e a.tmps)=H:=by kernel_rfl)
  (hv:∀ w,S w->(execOp a.eval g).run U w = .ok (.value v) w:=by intro w b0;(try dsimp only at b0);go_simp;try with_reducible rfl) (M:S w:=by assumption)
  (hk:q->wpAnyH U C e u S E (y.setIfInBounds i H) (a.put g.dst v) w:=by intro hx;(try simp only [Go.SL.tz,Go.Act.put]);exact hx):wpAnyH U C e u S (E+1) y a w:=
 wpAnyH_take hi hs hf hr G (.inl ⟨hw,hv⟩) M (hk h)
def IF {n:Int} {e:List Wr} (h:Batch n (cq e)):Is n e:=by
 have E:(cq e).length=e.length:=by unfold cq;rw [B2]
 refine ⟨by rw [<- E];exact h.n0,by rw [<- E];exact h.n1,fun k y=>?_⟩;have C:k<(cq e).length:=Om0
 have G:=List.getElem_mem C;have g:(e.getD k Wr.nil).1=(cq e)[k].1:=by rw [List.getD,E2 y];simp [cq]
 have e2:(e.getD k Wr.nil).2.2=(cq e)[k].2:=by rw [List.getD,E2 y];simp [cq]
 have u:=h.id _ G;refine ⟨by rw [g];exact u.1,by rw [g];exact u.2,by rw [e2];exact h.Se _ G,?_⟩;rw [g];intro hx;obtain ⟨z,S,b0⟩:=List.mem_map.1 hx;rw [List.mem_take_iff_getElem] at S;obtain ⟨i,hi,rfl⟩:=S;have e3:(e[i]'Om0).1=((cq e)[i]'Om0).1:=by simp [cq]
 have M:=h.nd;rw [List.Nodup,List.pairwise_iff_getElem] at M;have:=M i k (by rw [B2];omega) (by rw [B2];exact C) Om0;apply this;rw [List.getElem_map,List.getElem_map,<- b0,e3]
def V7 (t:Pl) (J:Jr) (D:aB) (g:ai) (w:R) (e:Ending) (w':R):Prop:=
 ∃ S,e = N (Z Y 0)/\aj w w'/\ag w' (eN t.s t.j t.d t.n t.P J*(aR S t.d D*(al S*g)))
def C3 (t:Pl) (w:R) (S h:Hp) (v:L) (i:CB) (J y:Jr) (D u:aB) (has:Has) (g:ai) (E:fP J D has) (hb:Batch J.n i) (d0:eZ J D H i=(0,y,u))
  (c0:ag w (gP 189 5 h v i*(eN t.s t.j t.d t.n t.P J*(aR S t.d D*(al S*(al h*g)))))) :
  Calls U 72 #[az t.j,v] w (V7 t y u g w):=by
 obtain ⟨e,G,hV,h1⟩:=c0.mS;have M:e.length=i.length:=by rw [<- G,B2]
 obtain ⟨h2,e1,e2⟩:=ag.AJ (h1.t00 (al S*(al h*(aR S t.d D*(eN t.s t.j t.d t.n t.P J*(sl 189 2 v i.length (qX e)*g))))));have h3:=(h2.t00 (aR S t.d D*(al (join S h)*(eN t.s t.j t.d t.n t.P J*(sl 189 2 v i.length (qX e)*g))))).gZ (yd e1)
 have h4:ag w (qq t.j t.d J*(aR (join S h) t.d D*(al (join S h)*(sl 189 2 v e.length (bT e)*(pt t.s (X #[az t.j,Z Y (t.n:Int),Z Y (t.P:Int)] 123 (0,0))*g))))):=by
  rw [M];exact h3.to (by unfold eN;show _*(_*(_*(sl _ 2 v _ (qX e)*g)))=_*(_*(_*(sl _ 2 v _ (qX e)*_)));ac_rfl)
 have hp:cq e=i:=G
 have hr:Reads (join S h) v e (sl 189 2 v e.length (bT e)*(pt t.s (X #[az t.j,Z Y (t.n:Int),Z Y (t.P:Int)] 123 (0,0))*g)):=by
  intro S' b0 w' hE hs;refine ⟨yN (hs.t00 (sl 189 2 v e.length (bT e)*(b0*(al S'*(pt t.s (X #[az t.j,Z Y (t.n:Int),Z Y (t.P:Int)] 123 (0,0))*g))))),fun z hz=>?_⟩;exact ((hV z hz).mono (e2.trans hE)).rd hs.ah
 have:=Bg w (join S h) t.j t.d J D _ v e h4 E.ok E.nums E.Kk (by rw [M];have:=hb.n1;omega) hr H ⟨fun _=>IF (by rw [hp];exact hb),fun _=>rfl⟩;rw [hp,d0] at this;apply this.mono;rintro e0 w' ⟨C,-,rfl,h5,d5⟩;refine ⟨C,rfl,d5,?_⟩;exact (h5.to (by unfold eN;ac_rfl:_=sl 189 2 v e.length (bT e)*(eN t.s t.j t.d t.n t.P y*(aR C t.d u*(al C*g))))).right
def Vw (n P:Nat) (w:R) (e:Ending) (w':R):Prop:=e = N (.agg #[Z Y (n:Int),Z Y (P:Int)])/\ag w' (whole w)/\aj w w'
def Wz (t:Pl) (S:Hp) (y:L) (v b:Nat) (u:Int->gD (Jr × aB)->ai->Prop) (i:ai) (C:R) (e:Ending) (w':R):Prop:=
 ∃ c h M g,u c M g/\((c=0/\e = N (I #[]))\/(c≠0/\e = .panicked (jB c)))/\aj C w' /\
  ag w' (pt t.f (gS t y)*(pt v (bq b t.n)*(dG (Aa t S) h b M*(al h*(g*i)))))
def Sq (t:Pl) (S:Hp) (h:L) (J:Jr) (D:aB) (y:FuncId) (u:Array L) (G:ai) (i:Int->gD (Jr × aB)->ai->Prop):Prop:=
 ∀ (v b:Nat) (e:R) (g:ai),ag e (pt t.f (gS t h)*(pt v (bq b t.n)*(dG (Aa t S) xA b ⟨0,[],[],(J,D)⟩*(al xA*(G*g)))))->Calls U y (#[az v]++u) e (Wz t S h v b i g e)
def Xi (t:Pl) (i:Int->gD (Jr × aB)->ai->Prop):Prop:=
 ∀ c M g,i c M g->c=0->(M.W.map B3).Nodup->M.W≠[]->∃ has h e,fP M.s.1 M.s.2 has/\M.s.1.n=(t.n:Int)/\Batch (t.n:Int) (iu M.W)/\eZ M.s.1 M.s.2 H (iu M.W)=(0,h,e)
def Xy (t:Pl) (C:L) (y:Int->gD (Jr × aB)->ai->Prop) (F:ai) (w:R) (e:Ending) (w':R):Prop:=
 ∃ c M i u h g,y c M i/\(M.W.map B3).Nodup/\e = N (Z Y c)/\aj w w' /\
  ag w' (pt t.f (gS t C)*(eN t.s t.j t.d t.n t.P h*(aR u t.d g*(al u*(i*F))))) /\
  (c=0->M.W≠[]->eZ M.s.1 M.s.2 H (iu M.W)=(0,h,g))/\((c≠0\/M.W=[])->M.s=(h,g))
def Ea (t:Pl) (w:R) (S:Hp) (J:Jr) (D:aB) (g:L) (jf:FuncId) (G0:Array L) (g0 F:ai) (Pj:Int->gD (Jr × aB)->ai->Prop) (hJ:J.Ok) (hD:D.Ok)
  (jD:∀ (F0:Array L) (w:R),(callFunc jf F0).run U w = .ok (.enter jf F0) w) (hj:Sq t S g J D jf G0 g0 Pj) (hm:Xi t Pj)
  (h:ag w (pt t.f (gS t g)*(eN t.s t.j t.d t.n t.P J*(aR S t.d D*(al S*(g0*F)))))) :
  Calls U 27 #[az t.f,.func (.func jf) #[] G0] w (Xy t g Pj F w):=by
 refine aF fun j1 HQ=>?_;have Hj:=ae hj;have Hm:=ae hm;have HJ:=ae hJ;have HD:=ae hD;have cf:w.cell? ⟨t.f,0,V⟩=W (az t.s):=h.cell 0;have f1:t.f<w.heap.size:=h.lt;clear hj hm hJ hD
 go_enter_defers func27,ntmps27
 have H1:=h.alloc (X #[Z Y 0] 31 (0,0));have D1:=(aj.refl w).alloc (X #[Z Y 0] 31 (0,0))
 go_wp2_with fail
 generalize w.alloc (X #[Z Y 0] 31 (0,0))=w3 at *;generalize w.heap.size=u at *;obtain ⟨n0,i0⟩:∃ b0,b0=pt u (X #[Z Y 0] 31 (0,0))*(pt t.f (gS t g)*(eN t.s t.j t.d t.n t.P J*(aR S t.d D*(al S*(g0*F))))):=⟨_,rfl⟩
 have hF:∀ w' b0,ag w' (b0*n0)->w'.cell? ⟨t.f,0,V⟩=W (az t.s):=fun w' b0 hx=>by
  rw [i0] at hx;exact hx.au.cell 0
 have hG:∀ w' b0,ag w' (b0*n0)->Calls U 70 #[az t.s] w' (Vw t.n t.P w'):=fun w' b0 hx=>by
  rw [i0] at hx;exact Nj w' t.s t.j t.d t.n t.P J _ (hx.to (by ac_rfl:_=eN t.s t.j t.d t.n t.P J*(b0*(pt u (X #[Z Y 0] 31 (0,0))*(pt t.f (gS t g)*(aR S t.d D*(al S*(g0*F))))))))
 rw [<- i0] at H1;have c0:=hF w3 emp (H1.to (cl _).symm);have HF:=ae hF;have HG:=ae hG;have m1:∀ w,(Instr.field 117 (.agg #[Z Y (t.n:Int),Z Y (t.P:Int)]) 0).run U w = .ok (Z Y (t.n:Int)) w:=fun w=>by kernel_rfl
 have H3:=ae H1;have D3:=ae D1;have HB:=ae i0;clear H1 D1 hF hG i0 cf h f1
 go_cut [5] from 17 to 33 (fun u5 wx=>∃ v b,u5=az v/\ag wx (pt v (bq b t.n)*(aU 177 5 xA b (.iface 92 (az t.s)) 0 [] []*n0))/\aj w wx)
 case first=>
  refine wp_region_held_drew (S:=(fun w'=>w'.cell? ⟨t.f,0,V⟩=W (az t.s))) (by kernel_rfl) ?_ (fun j0=>?_)
  .first|exact c0|exact c1|exact c2|exact bW _ _ _ _ c1|exact bW _ _ _ _ c2
  refine EE 0 ?_;refine EE 1 ?_;refine EE 2 ?_;refine EE 3 ?_;refine EE 4 ?_;refine EE 5 ?_;refine EE 7 ?_;refine EE 8 ?_;refine EE 9 ?_;refine EE 10 ?_;refine EE 11 ?_;refine wpAnyH_ready (rs:=[6]) (by kernel_rfl) (by simp) ?_;refine AllReadyH.cons rfl (fun h0 hK=>?_) AllReadyH.nil
  go_simp
  go_wp2_with (go_at_call 69;go_loud ((with_reducible refine (Ba.zi _ 92 (az t.s)).mono ?_);rintro d0 w4 ⟨b,rfl,h4,d4⟩;have hn:=(h4 xA).under H3.out.drew;have c1:w4.cell? ⟨t.f,0,V⟩=W (az t.s):=HF.out w4 _ hn))
  refine hK.out _ _ ?_ (fun j0=>?_)
  .first|exact c0|exact c1|exact c2|exact bW _ _ _ _ c1|exact bW _ _ _ _ c2
  clear hK h0;refine wpAnyH_ready (rs:=[12]) (by kernel_rfl) (by simp) ?_;refine AllReadyH.cons rfl (fun h0 hK=>?_) AllReadyH.nil
  go_simp
  go_wp2_with (go_at_call 70;go_loud ((with_reducible refine (HG.out w4 _ hn).mono ?_);rintro d0 w5 ⟨rfl,h5,d5⟩;have hg:=((h5.to (cl _).symm).under hn).right;have c2:w5.cell? ⟨t.f,0,V⟩=W (az t.s):=HF.out w5 _ hg))
  refine hK.out _ _ ?_ (fun j0=>?_)
  .first|exact c0|exact c1|exact c2|exact bW _ _ _ _ c1|exact bW _ _ _ _ c2
  clear hK h0;refine EE 13 ?_;refine EE 14 ?_;refine EE 15 ?_;refine wpAnyH_ready (rs:=[16]) (by kernel_rfl) (by simp) ?_;refine AllReadyH.cons rfl (fun h0 hK=>?_) AllReadyH.nil
  go_simp
  refine hK.out _ _ ?_ (fun j0=>?_)
  .first|exact c0|exact c1|exact c2|exact bW _ _ _ _ c1|exact bW _ _ _ _ c2
  clear hK h0;refine EE 17 ?_;refine wpAnyH_done (by kernel_rfl) ?_ _
  go_wp2_with fail
  go_meet
  exact ⟨_,b,rfl,(hg.alloc (bq b t.n)).to (by ac_rfl),((D3.out.drew.trans d4).trans d5).alloc _⟩
 case rest=>
  clear c0 HF HG H3 D3;obtain ⟨v,b,rfl,R0,g1⟩:=hcut;rw [HB.out] at R0
  have b1:ag wc (pt t.f (gS t g)*(pt v (bq b t.n)*(dG (Aa t S) xA b ⟨0,[],[],(J,D)⟩*(al xA*(g0*(pt u (X #[Z Y 0] 31 (0,0))*F)))))):=by
   have h6:ag wc (fact (J.Ok/\D.Ok)*_):=ag.aq.2 ⟨⟨HJ.out,HD.out⟩,ag.zL R0⟩;have d0:dG (Aa t S) xA b ⟨0,[],[],(J,D)⟩=aU 177 5 xA b (.iface 92 (az t.s)) 0 [] []*(fact (J.Ok/\D.Ok)*(eN t.s t.j t.d t.n t.P J*(aR S t.d D*al S))):=rfl;rw [d0];exact h6.to (by show fact _*(al xA*_)=_;ac_rfl)
  have K0:=ae (Hj.out v b wc _ b1);have D0:=ae g1
  go_wp2_with fail
  refine K0.out.mono ?_;clear K0;rintro d0 w4 ⟨c,i,p0,M,hP,he,d4,h4⟩;have HP:=ae hP;have D4:=ae (D0.out.trans d4);clear hP d4 D0;rcases he with ⟨rfl,rfl⟩|⟨hc,rfl⟩
  .obtain ⟨E,e,y,C,G⟩:=p0
   have e0:ag w4 (aU 177 5 i b (.iface 92 (az t.s)) E e y*(al i*(QI t.s t.j t.d t.n t.P S (C,G)*(pt t.f (gS t g)*(pt v (bq b t.n)*(M*(pt u (X #[Z Y 0] 31 (0,0))*F))))))):=h4.to (by unfold dG Aa Cx.rd;ac_rfl);have m0:=tC e0;have l0:=ae (QJ w4 i b _ E e y _ e0);have c1:w4.cell? ⟨v,0,V⟩=W (az b):=h4.ah.cell 0;obtain ⟨⟨r0,q0⟩,h5⟩:=nK (e0.to (by ac_rfl:_=QI t.s t.j t.d t.n t.P S (C,G)*(aU 177 5 i b (.iface 92 (az t.s)) E e y*(al i*(pt t.f (gS t g)*(pt v (bq b t.n)*(M*(pt u (X #[Z Y 0] 31 (0,0))*F))))))));dsimp only at h5 r0 q0;have H5:=ae h5;have o0:=ae m0;clear h4 e0 h5 m0
   by_cases hw:e=[]
   .subst hw
    have i1:=ae r0;have h1:=ae q0;clear Hm r0 q0 jD;have h6:=H5.out.to (by ac_rfl:_=pt u (X #[Z Y 0] 31 (0,0))*((aU 177 5 i b (.iface 92 (az t.s)) E [] y*(al i*pt v (bq b t.n)))*(pt t.f (gS t g)*(eN t.s t.j t.d t.n t.P C*(aR S t.d G*(al S*(M*F)))))));have z0:=h6.cell 0;have f0:w4.frozen? ⟨u,0,V⟩=false:=h6.frozen 0;have h7:=h6.setCell 0 (Z Y 0);have X0:=ae (h7.cell 0);have H7:=ae h7.right.right;have D7:=ae (D4.out.setCell ⟨u,0,V⟩ (Z Y 0));clear h6 h7 H5
    go_wp2_with fail
    refine l0.out.mono ?_;rintro d0 w5 ⟨rfl,rfl⟩;clear l0
    go_wp2_with fail
    refine xP rfl X0.out (HQ.out _ _ ⟨0,⟨E,[],y,C,G⟩,M,S,C,G,HP.out,o0.out,rfl,D7.out,H7.out,fun _ h=>absurd rfl h,fun _=>rfl⟩)
   .obtain ⟨has,J2,D2,hI,N0,H0,L0⟩:=Hm.out 0 _ _ HP.out rfl o0.out hw
    dsimp only at hI N0 H0 L0;have n1:(0:Int)<(e.length:Int):=by have:=List.length_pos_iff.2 hw;omega
    have HI:=ae hI;have s0:=ae H0;have u0:=ae L0;have V0:=ae N0;have Hw:=ae hw;have hX:=H5.out.to (by ac_rfl:_=aU 177 5 i b (.iface 92 (az t.s)) E e y*(al i*(eN t.s t.j t.d t.n t.P C*(aR S t.d G*(al S*(pt t.f (gS t g)*(pt v (bq b t.n)*(M*(pt u (X #[Z Y 0] 31 (0,0))*F)))))))));have Z0:e.length<=1000000:=by have:=s0.out.n1;rw [zJ] at this;omega
    have e1:=fun w' h=>M3 w' i b (.iface 92 (az t.s)) E e y (eN t.s t.j t.d t.n t.P C*(aR S t.d G*(al S*(pt t.f (gS t g)*(pt v (bq b t.n)*(M*(pt u (X #[Z Y 0] 31 (0,0))*F))))))) Z0 h;have k0:w4.cell? ⟨t.f,0,V⟩=W (az t.s)/\w4.cell? ⟨t.s,0,V⟩=W (az t.j)/\w4.cell? ⟨v,0,V⟩=W (az b):=⟨(hX.eu).cell 0,rY (hX.au),c1⟩
    have HX:=ae hX;have W0:=ae e1;have d1:∀ (w':R) (b0:ai) (J3:Jr) ,ag w' (pt t.f (gS t g)*(eN t.s t.j t.d t.n t.P J3*(pt v (bq b t.n)*b0)))->w'.cell? ⟨t.f,0,V⟩=W (az t.s)/\w'.cell? ⟨t.s,0,V⟩=W (az t.j)/\w'.cell? ⟨v,0,V⟩=W (az b):=fun w' b0 J3 h=>⟨h.cell 0,rY h.ah,h.au.cell 0⟩
    have x0:=ae d1;have a1:=fun w' S2 vL h=>C3 t w' S S2 vL (iu e) C J2 G D2 has (aU 177 5 S2 b (.iface 92 (az t.s)) E e y*(pt t.f (gS t g)*(pt v (bq b t.n)*(M*(pt u (X #[Z Y 0] 31 (0,0))*F))))) HI.out (by rw [V0.out];exact s0.out) u0.out h;have T0:=ae a1;have S0:=ae fun w=>cR w
    go_wp2_with fail
    refine l0.out.mono ?_;rintro d0 w5 ⟨rfl,rfl⟩;clear l0
    go_wp2_with fail
    go_region_held3 (fun w'=>w'.cell? ⟨t.f,0,V⟩=W (az t.s)/\w'.cell? ⟨t.s,0,V⟩=W (az t.j)/\w'.cell? ⟨v,0,V⟩=W (az b))
     (first|exact k0|exact k1|exact k2|exact k3|go_keep)
     (first
      | (go_at_call 73;refine (W0.out _ HX.out.drew).mono ?_;rintro d0 w6 ⟨S2,vL,l1,rfl,hL,dL⟩;have k1:=x0.out w6 _ C (hL.to (by ac_rfl:_=pt t.f (gS t g)*(eN t.s t.j t.d t.n t.P C*(pt v (bq b t.n)*(gP 189 5 S2 vL (iu e)*(aU 177 5 S2 b (.iface 92 (az t.s)) E e y*(al S2*(aR S t.d G*(al S*(M*(pt u (X #[Z Y 0] 31 (0,0))*F))))))))))))
      | (go_at_call 72;refine (T0.out _ S2 vL (hL.to (by ac_rfl))).mono ?_;rintro d0 w7 ⟨S3,rfl,d7,h7⟩;have k2:=x0.out w7 _ J2 (h7.to (by ac_rfl:_=pt t.f (gS t g)*(eN t.s t.j t.d t.n t.P J2*(pt v (bq b t.n)*(aR S3 t.d D2*(al S3*(aU 177 5 S2 b (.iface 92 (az t.s)) E e y*(M*(pt u (X #[Z Y 0] 31 (0,0))*F))))))))))
      | (go_at_call 34;refine (S0.out _).mono ?_;rintro d0 w8 ⟨rfl,rfl⟩))
    rename_i j0;have h8:=h7.to (by ac_rfl:_=pt u (X #[Z Y 0] 31 (0,0))*((aU 177 5 S2 b (.iface 92 (az t.s)) E e y*pt v (bq b t.n))*(pt t.f (gS t g)*(eN t.s t.j t.d t.n t.P J2*(aR S3 t.d D2*(al S3*(M*F)))))));have z0:=h8.cell 0;have f0:w7.frozen? ⟨u,0,V⟩=false:=h8.frozen 0;have h9:=h8.setCell 0 (Z Y 0);have Y0:=ae (h9.cell 0);have H9:=ae h9.right.right;have D9:=ae (((D4.out.drew.trans dL).trans d7).setCell ⟨u,0,V⟩ (Z Y 0));clear h7 h8 h9 dL d7
    go_wp2_with fail
    refine xP rfl Y0.out (HQ.out _ _ ⟨0,⟨E,e,y,C,G⟩,M,S3,J2,D2,HP.out,o0.out,rfl,D9.out,H9.out,fun _ _=>u0.out,fun h=>?_⟩);rcases h with h|h
    .exact absurd rfl h
    .exact absurd h Hw.out
  .have hd:(c:Int)≠0:=hc
   have h5:ag w4 (pt u (X #[Z Y 0] 31 (0,0))*(pt t.f (gS t g)*(pt v (bq b t.n)*(dG (Aa t S) i b p0*(al i*(M*F)))))):=h4.to (by ac_rfl);obtain ⟨E,e,y,C,G⟩:=p0;have e0:ag w4 (aU 177 5 i b (.iface 92 (az t.s)) E e y*(al i*(QI t.s t.j t.d t.n t.P S (C,G)*(pt t.f (gS t g)*(pt v (bq b t.n)*(M*(pt u (X #[Z Y 0] 31 (0,0))*F))))))):=h4.to (by unfold dG Aa Cx.rd;ac_rfl);have m0:=tC e0;refine JR hc rfl h5 fun w' h6 d6=>HQ.out _ _ ⟨c,⟨E,e,y,C,G⟩,M,S,C,G,HP.out,m0,rfl,D4.out.trans d6,?_,fun h=>absurd h hc,fun _=>rfl⟩;have h7:ag w' (QI t.s t.j t.d t.n t.P S (C,G)*((aU 177 5 i b (.iface 92 (az t.s)) E e y*(al i*pt v (bq b t.n)))*(pt t.f (gS t g)*(M*F)))):=h6.to (by unfold dG Aa Cx.rd;ac_rfl);obtain ⟨-,h8⟩:=nK h7;exact (h8.to (by ac_rfl:_=(aU 177 5 i b (.iface 92 (az t.s)) E e y*(al i*pt v (bq b t.n)))*(pt t.f (gS t g)*(eN t.s t.j t.d t.n t.P C*(aR S t.d G*(al S*(M*F))))))).right
structure Ds where
 J:Jr
 D:aB
 has:Has
 B:Nat
structure Ds.Rd (s s':Ds):Prop where
 J:s'.J=s.J
 D:∃ r,s'.D={ s.D with cr:=r }
 has:s'.has=s.has
 B:s'.B=s.B
def Ds.Cm (n:Nat) (s s':Ds):Prop:=∃ r e,Batch (n:Int) e/\eZ s.J { s.D with cr:=r } H e=(0,s'.J,s'.D)/\s'.has=nt s.has e/\s'.B=s.B+1
structure Ry {n:Nat} (q:Dk n) (s:Ds) (A:Nat->Option AF) (k:Nat):Prop where
 q:q.Q s.B s.J s.D s.has
 has:Go.SL.Has n ⟨jz s.has,jz s.has 0⟩ A k
def Ry.rd {n:Nat} {q:Dk n} {s s':Ds} {A:Nat->Option AF} {k:Nat} (h:Ry q s A k) (r:s.Rd s'):Ry q s' A k:=by
 obtain ⟨E,C,G,y⟩:=s';obtain ⟨e,⟨r,g⟩,i,u⟩:=r;dsimp only at e g i u;subst e;subst g;subst i;subst u;exact ⟨q.cr h.q r,h.has⟩
def lI (t:Pl) (s:Ds):ai:=ex fun S=>eN t.s t.j t.d t.n t.P s.J*(aR S t.d s.D*al S)
section
variable {t:Pl} {s:Ds} {w:R} {F:ai}
def uw (h:ag w (lI t s*F)):∃ S,ag w (eN t.s t.j t.d t.n t.P s.J*(aR S t.d s.D*(al S*F))):=by
 obtain ⟨S,e⟩:=ag.aw.1 h;exact ⟨S,e.u00⟩
def mC {S:Hp} (h:ag w (eN t.s t.j t.d t.n t.P s.J*(aR S t.d s.D*(al S*F)))):ag w (lI t s*F):=
 ag.aw.2 ⟨S,h.u00⟩
end
def WH (t:Pl) (y:L) (x:Fx t.n) (v b:Nat) (P:Int->Nat->(Nat->Option AF)->Nat->ai->Prop) (u:ai) (C:R) (e:Ending) (w':R):Prop:=
 ∃ c g i h m,P c m g i h/\((c=0/\e = N (I #[]))\/(c≠0/\e = .panicked (jB c)))/\aj C w'/\m<=24 /\
  ag w' (pt t.f (gS t y)*(pt v (bq b t.n)*(dx (x.more m) b g i*(h*u))))
def V5 (t:Pl) (u:L) (q:Dk t.n) (s:Ds) (P:Int->Nat->(Nat->Option AF)->Nat->ai->Prop) (F:ai) (w:R) (e:Ending) (w':R):Prop:=
 ∃ c m g i h s',P c m g i h/\e = N (Z Y c)/\aj w w'/\ag w' (pt t.f (gS t u)*(lI t s'*(h*F))) /\
  (m=0->s.Rd s')/\((c≠0/\s.Rd s')\/(c=0/\Ry q s' g i/\(s.Rd s'\/s.Cm t.n s')))
def Ro (t:Pl) (q:Dk t.n) (h4:4<=t.n) (hn:t.n<=3840) (w:R) (s:Ds) (A:Nat->Option AF) (k:Nat) (C:L) (jf:FuncId) (g0:Array L) (b0 F:ai) (P:Int->Nat->(Nat->Option AF)->Nat->ai->Prop)
  (ha:Ry q s A k) (hB:s.B<=1000000) (jD:∀ (k0:Array L) (w:R),(callFunc jf k0).run U w = .ok (.enter jf k0) w)
  (hj:∀ (x:Fx t.n) (v b:Nat) (w1:R) (S:ai),x.C=0->ag w1 (pt t.f (gS t C)*(pt v (bq b t.n)*(dx x b A k*(b0*S))))->Calls U jf (#[az v]++g0) w1 (WH t C x v b P S w1))
  (h:ag w (pt t.f (gS t C)*(lI t s*(b0*F)))) :
  Calls U 27 #[az t.f,.func (.func jf) #[] g0] w (V5 t C q s P F w):=by
 obtain ⟨J,D,has,B⟩:=s;obtain ⟨d0,h1⟩:=uw (h.to (by ac_rfl:_=lI t ⟨J,D,has,B⟩*(pt t.f (gS t C)*(b0*F))));have hq:q.Q B J D has:=ha.q;have hh:Go.SL.Has t.n ⟨jz has,jz has 0⟩ A k:=ha.has;have hB:B<=1000000:=hB
 let x:Fx t.n:=⟨Jr × aB,Aa t d0,jz has,IJ J D,Kq t d0,yG hq,h4,hn,fun _=>emp,fun _ _ _ _ h=>h,0⟩
 have l0:∀ (M:gD (Jr × aB)) i u,oV t.n (jz has) (IJ J D) M i u->M.W.length<=24->(M.W.map B3).Nodup->M.W≠[] ->
   ∃ r g e,M.s=(J,{ D with cr:=r })/\q.Q B J { D with cr:=r } has/\Batch (t.n:Int) (iu M.W)/\eZ J { D with cr:=r } H (iu M.W)=(0,g,e)/\q.Q (B+1) g e (nt has (iu M.W)):=by
  intro M i u E hl c0 j0;obtain ⟨e1,r,e2⟩:=E.gC.inv;have hb:=xQ E c0 hl (List.length_pos_iff.2 j0);obtain ⟨g,e,e3,e4⟩:=q.zX (q.cr hq r) hB hb;exact ⟨r,g,e,Prod.ext e1 e2,q.cr hq r,hb,e3,e4⟩
 refine (Ea t w d0 J D C jf g0 b0 F (fun c M y=>∃ m i u,P c m i u y/\oV t.n (jz has) (IJ J D) M i u/\M.W.length<=m/\m<=24) (q.inv hq).ok (q.inv hq).Kk jD ?_ ?_ (h1.to Ac0)).mono ?_
 .intro v b w1 S G
  have p0:ag w1 (SE x b ⟨0,[],[],(J,D)⟩*(pt t.f (gS t C)*(pt v (bq b t.n)*(b0*S)))):=
   ag.qN (x:=x) (S:=xA) (S':=xA) (fun _ _ h=>h) (G.to (by show _=dG (Aa t d0) xA b ⟨0,[],[],(J,D)⟩*(al xA*(emp*(pt t.f (gS t C)*(pt v (bq b t.n)*(b0*S)))));rw [cl];ac_rfl))
  have q0:=ag.nQ (x:=x) (A:=A) (k:=k) ⟨IT hh,Nat.zero_le _⟩ p0;refine (hj x v b w1 S rfl (q0.to Ac0)).mono ?_;rintro i0 w2 ⟨c,i,u,y,m,hP,he,d,hm,hs⟩;obtain ⟨M,hM,h2⟩:=ag.kV (x:=x.more m) (hs.to (by ac_rfl:_=dx (x.more m) b i u*(pt t.f (gS t C)*(pt v (bq b t.n)*(y*S)))));obtain ⟨S',h3⟩:=ag.np (x:=x.more m) h2;refine ⟨c,S',M,y,⟨m,i,u,hP,hM.1,Nat.le_trans hM.2 (by show 0+m<=m;omega),hm⟩,he,d,?_⟩;have h4:ag w2 (dG (Aa t d0) S' b M*(al S'*(emp*(pt t.f (gS t C)*(pt v (bq b t.n)*(y*S)))))):=h3;rw [cl] at h4;exact h4.to Ac0
 .rintro c M y ⟨m,i,u,-,E,hl,hm⟩-c0 j0
  obtain ⟨r,g,e,e1,e2,e3,e4,-⟩:=l0 M i u E Om0 c0 j0;refine ⟨has,g,e,?_,?_,e3,?_⟩
  .rw [e1];exact q.inv e2
  .rw [e1];exact q.jn e2
  .rw [e1];exact e4
 .rintro i0 w' ⟨c,M,y,S',g,e,⟨m,i,u,hP,E,hl,hm⟩,c0,rfl,d,hs,m0,n0⟩
  obtain ⟨e1,r,e2⟩:=E.gC.inv
  have f0:(c≠0\/M.W=[])->Ds.Rd ⟨J,D,has,B⟩ ⟨g,e,has,B⟩:=fun h=>by
   have i0:=n0 h;rw [i0] at e1 e2;exact ⟨e1,⟨r,e2⟩,rfl,rfl⟩
  have o0:m=0->M.W=[]:=fun h=>List.eq_nil_of_length_eq_zero Om0
  by_cases h0:c=0
  .by_cases G:M.W=[]
   .refine ⟨c,m,i,u,y,⟨g,e,has,B⟩,hP,rfl,d,(mC (s:=⟨g,e,has,B⟩) (hs.to Ac0)).to (by ac_rfl:lI t ⟨g,e,has,B⟩*(pt t.f (gS t C)*(y*F))=_),fun _=>f0 (.inr G),.inr ⟨h0,?_,.inl (f0 (.inr G))⟩⟩
    exact Ry.rd (s:=⟨J,D,has,B⟩) ⟨hq,tR E G⟩ (f0 (.inr G))
   .obtain ⟨r',J2,D2,f1,f2,f3,f4,f5⟩:=l0 M i u E Om0 c0 G
    have e0:=m0 h0 G;rw [f1] at e0;have e0:eZ J { D with cr:=r' } H (iu M.W)=(0,g,e):=e0;rw [e0] at f4;simp only [Prod.mk.injEq,true_and] at f4;obtain ⟨rfl,rfl⟩:=f4
    exact ⟨c,m,i,u,y,⟨g,e,nt has (iu M.W),B+1⟩,hP,rfl,d,(mC (s:=⟨g,e,nt has (iu M.W),B+1⟩) (hs.to Ac0)).to (by ac_rfl:lI t ⟨g,e,nt has (iu M.W),B+1⟩*(pt t.f (gS t C)*(y*F))=_),
     fun h=>absurd (o0 h) G,.inr ⟨h0,⟨f5,wJ E c0⟩,.inr ⟨r',iu M.W,f3,e0,rfl,rfl⟩⟩⟩
  .exact ⟨c,m,i,u,y,⟨g,e,has,B⟩,hP,rfl,d,(mC (s:=⟨g,e,has,B⟩) (hs.to Ac0)).to (by ac_rfl:lI t ⟨g,e,has,B⟩*(pt t.f (gS t C)*(y*F))=_),fun _=>f0 (.inl h0),.inl ⟨h0,f0 (.inl h0)⟩⟩
end Go.Proofs.Cl
namespace Go.Proofs.Cl
open RowKit SL Proofs.Nn Proofs.Ba Proofs.Su Proofs.Fs
attribute [local go_sem] Oper.semAt_some
abbrev jj:=List (Int × (Nat × Nat))
def lf (O:jj):KV:=O.map fun o=>(o.1,.agg #[Z Y (o.2.1:Int),Z Y (o.2.2:Int)])
def cX (t:Pl) (s:Ds) (m:Nat) (O:jj):ai:=pt t.f (gS t (.map (W m)))*(lI t s*mp m (lf O))
structure kM (t:Pl) (q:Dk t.n) (s:Ds) (T:Tr) (k:Nat):Prop where
 at_:Ry q s (eH T) k
 ty:Tidy t.n T
 h4:4<=t.n
 hn:t.n<=3840
def Ds.Go (n:Nat) (wr:Bool) (s s':Ds):Prop:=s.Rd s'\/(wr=H/\s.Cm n s')
def WK (t:Pl) (q:Dk t.n) (m:Nat) (wr:Bool) (s:Ds) (h:Tr) (i:Nat) (g:jj) (v:L) (F:ai) (w:R) (e:Ending) (w':R):Prop:=
 ∃ s',e = N v/\aj w w'/\s.Go t.n wr s'/\kM t q s' h i/\ag w' (cX t s' m g*F)
section
variable {t:Pl} {q:Dk t.n} {s s':Ds} {T:Tr} {k m:Nat} {O:jj} {w:R} {F:ai} {p:List UInt8}
def kM.rd (h:kM t q s T k) (r:s.Rd s'):kM t q s' T k:=⟨h.at_.rd r,h.ty,h.h4,h.hn⟩
def dy (t:Pl) (m:Nat) (O:jj):ai:=pt t.f (gS t (.map (W m)))*mp m (lf O)
def pd (M:kM t q s T k) (hB:s.B<=1000000) (i:FuncId) (C:Array L) (G:ai) (c:Int) (u y:ai)
  (jD:∀ (b0:Array L) (w:R),(callFunc i b0).run U w = .ok (.enter i b0) w)
  (hj:∀ (x:Fx t.n) (v b:Nat) (h:R) (g:ai),ag h (vA x b v T k*(G*(dy t m O*g)))->Calls U i (#[az v]++C) h (Rp c (vA x b v T k*(u*(dy t m O*g))) (vA x b v T k*(y*(dy t m O*g))) h))
  (c0:ag w (cX t s m O*(G*F))) :
  Calls U 27 #[az t.f,.func (.func i) #[] C] w fun e w'=>
   ∃ s',e = N (Z Y c)/\aj w w'/\s.Rd s'/\ag w' (cX t s' m O*((if c=0 then u else y)*F)):=by
 have h1:ag w (pt t.f (gS t (.map (W m)))*(lI t s*((G*mp m (lf O))*F))):=c0.to (by unfold cX;ac_rfl);refine (Ro t q M.h4 M.hn w s (eH T) k (.map (W m)) i C (G*mp m (lf O)) F (fun c' m' A' k' S=>c'=c/\m'=0/\S=(if c=0 then u else y)*mp m (lf O)) M.at_ hB jD ?_ h1).mono ?_
 .intro x v b h g hC hw
  have h2:ag h (vA x b v T k*(G*(dy t m O*g))):=hw.to (by unfold vA dy;ac_rfl);refine (hj x v b h _ h2).mono ?_;rintro e w' ⟨d,⟨rfl,rfl,E⟩|⟨hc,rfl,E⟩⟩
  .exact ⟨0,eH T,k,_,0,⟨rfl,rfl,rfl⟩,.inl ⟨rfl,rfl⟩,d,De0,(ag.mY (x:=x) 0 (E.to (by unfold vA dy;ac_rfl:_=dx x b (eH T) k*(pt t.f (gS t (.map (W m)))*(pt v (bq b t.n)*((u*mp m (lf O))*g)))))).to (by rw [if_pos rfl];ac_rfl)⟩
  .exact ⟨c,eH T,k,_,0,⟨rfl,rfl,rfl⟩,.inr ⟨hc,rfl⟩,d,De0,(ag.mY (x:=x) 0 (E.to (by unfold vA dy;ac_rfl:_=dx x b (eH T) k*(pt t.f (gS t (.map (W m)))*(pt v (bq b t.n)*((y*mp m (lf O))*g)))))).to (by rw [if_neg hc];ac_rfl)⟩
 .rintro e w' ⟨c',m',A',k',S,s',⟨rfl,rfl,rfl⟩,rfl,d,hs,hr,-⟩
  exact ⟨s',rfl,d,hr rfl,hs.to (by unfold cX;ac_rfl)⟩
def VP (z:Int × Int × Int):L:=.agg #[Z Y z.1,Z Y z.2.1,Z Y z.2.2]
def rG {w:R} {g:Array L} {rc:Nat} {z:Int × Int × Int} {e:L} {F:ai} (h4:g[4]?=W (az rc)) (h5:g[5]?=W e) (h:ag w (fy rc z*F)) :
  (results Tryz.f7 g).run U w = .ok (I #[VP z,e]) w:=by
 have i:=ag.cell h 0;have u:=ag.cell h 1;have y:=ag.cell h 2;have C:g.getD 4 undef=az rc:=by simp [h4]
 have E:g.getD 5 undef=e:=by simp [h5]
 simp at i u y;simp [results,Tryz.results7,h4,h5,asAddr,az,go_sem,i,u,y,VP]
def Ln (M:kM t q s T k) (hB:s.B<=1000000) (b0:ag w (cX t s m O*F)) :
  Calls U 7 #[az t.f,K (str p)] w
   (WK t q m false s T k O (I #[VP (if (bO T p).1=0 then tY (T (bO T p).2) else (0,0,0)),Z Y (bO T p).1]) F w):=by
 refine aF fun e0 u=>?_;have hA:=(((b0.alloc (X #[K (str p)] 9 (0,0))).alloc (X #[Z Y 0,Z Y 0,Z Y 0] 34 (0,0))).alloc (X #[Z Y 0,Z Y 0,Z Y 0] 34 (0,0)))
 simp only [A1] at hA;have dA:=ae ((((aj.refl w).alloc (X #[K (str p)] 9 (0,0))).alloc (X #[Z Y 0,Z Y 0,Z Y 0] 34 (0,0))).alloc (X #[Z Y 0,Z Y 0,Z Y 0] 34 (0,0)))
 have hd:=ae fun (pc g:Nat) (F':ai) (w':R) (h':ag w' (cX t s m O*((ax pc p*fy g (0,0,0))*F')))=>
  pd M hB 28 #[az pc,az g] (ax pc p*fy g (0,0,0)) (bO T p).1 (ax pc p*fy g (tY (T (bO T p).2))) (ax pc p*fy g (0,0,0)) (enters func28 Kr0 rfl)
   (fun x v b w1 c0 hw=>(NI (x:=x) (b:=b) (v:=v) (k:=k) (pc:=pc) (sc:=g) (F:=dy t m O*c0) (p:=p) M.ty (hw.u00)).mono fun d0 w' hq=>by simpa only [ay] using hq) h'
 have HF:=ae M;have HA:=ae hA;clear b0 hA hB M;generalize bO T p=pw at *;obtain ⟨c,id⟩:=pw;dsimp only at hd u
 go_in
 go_wp2_with fail
 generalize ((w.alloc (X #[K (str p)] 9 (0,0))).alloc (X #[Z Y 0,Z Y 0,Z Y 0] 34 (0,0))).alloc (X #[Z Y 0,Z Y 0,Z Y 0] 34 (0,0))=w1 at *;generalize w.heap.size+1+1=g at *;generalize w.heap.size+1=rc at *;generalize w.heap.size=pc at *;refine (hd.o pc g (fy rc (0,0,0)*F) _ (HA.o.to (by unfold ax fy;ac_rfl))).mono ?_;rintro d0 h ⟨s',rfl,d2,hr,i⟩;have E:=ae (dA.o.trans d2);have G:=ae hr;clear hd dA HA d2 hr
 by_cases h0:c=0
 .subst h0
  rw [if_pos rfl] at i u;generalize tY (T id)=z at *;obtain ⟨y,C,z3⟩:=z;have e:=i.to (by unfold fy;ac_rfl:_=pt rc (X #[Z Y 0,Z Y 0,Z Y 0] 34 (0,0))*(pt g (X #[Z Y y,Z Y C,Z Y z3] 34 (0,0))*(ax pc p*(cX t s' m O*F))));have s0:h.cell? ⟨g,0,V⟩=W (Z Y y):=e.ah.cell 0;have s1:h.cell? ⟨g,1,V⟩=W (Z Y C):=e.ah.cell 1;have s2:h.cell? ⟨g,2,V⟩=W (Z Y z3):=e.ah.cell 2;have r0:h.cell? ⟨rc,0,V⟩=W (Z Y 0):=e.cell 0;have r1:h.cell? ⟨rc,1,V⟩=W (Z Y 0):=e.cell 1;have r2:h.cell? ⟨rc,2,V⟩=W (Z Y 0):=e.cell 2;have f0:=e.frozen 0;have f1:=e.frozen 1;have f2:=e.frozen 2;have H4:=ae (((e.setCell 0 (Z Y y)).setCell 1 (Z Y C)).setCell 2 (Z Y z3));have S:=ae (((E.o.setCell ⟨rc,0,V⟩ (Z Y y)).setCell ⟨rc,1,V⟩ (Z Y C)).setCell ⟨rc,2,V⟩ (Z Y z3));clear i e E
  go_wp2_with fail
  have h5:=H4.o;simp only [A3,A2,B1] at h5;exact bodyPost_ret (rG (z:=(y,C,z3)) rfl rfl h5) rfl (u.o _ _ ⟨s',rfl,S.o,.inl G.o,HF.o.rd G.o,h5.right.right.right⟩)
 .rw [if_neg h0] at i u
  have e:=i.to (by unfold fy;ac_rfl:_=pt rc (X #[Z Y 0,Z Y 0,Z Y 0] 34 (0,0))*((ax pc p*fy g (0,0,0))*(cX t s' m O*F)));have r0:h.cell? ⟨rc,0,V⟩=W (Z Y 0):=e.cell 0;have r1:h.cell? ⟨rc,1,V⟩=W (Z Y 0):=e.cell 1;have r2:h.cell? ⟨rc,2,V⟩=W (Z Y 0):=e.cell 2;have f0:=e.frozen 0;have f1:=e.frozen 1;have f2:=e.frozen 2;have H4:=ae (((e.setCell 0 (Z Y 0)).setCell 1 (Z Y 0)).setCell 2 (Z Y 0));have S:=ae (((E.o.setCell ⟨rc,0,V⟩ (Z Y 0)).setCell ⟨rc,1,V⟩ (Z Y 0)).setCell ⟨rc,2,V⟩ (Z Y 0));clear i e E
  go_wp2_with fail
  have h5:=H4.o;simp only [A3,A2,B1] at h5;exact bodyPost_ret (rG (z:=(0,0,0)) rfl rfl h5) rfl (u.o _ _ ⟨s',rfl,S.o,.inl G.o,HF.o.rd G.o,h5.right.right⟩)
end
def OC (t:Pl) (q:Dk t.n) (m:Nat) (s:Ds) (O:jj) (i:Int->Tr->Nat->Prop) (F:ai) (w:R) (e:Ending) (w':R):Prop:=
 ∃ c g h s',i c g h/\e = N (Z Y c)/\aj w w'/\((c≠0/\s.Rd s')\/(c=0/\kM t q s' g h/\s.Go t.n H s'))/\ag w' (cX t s' m O*F)
section
variable {t:Pl} {q:Dk t.n} {s s':Ds} {T:Tr} {k m:Nat} {O:jj} {w:R} {F:ai} {p:List UInt8}
def kF (i:kM t q s T k) (hB:s.B<=1000000) (u:FuncId) (M:Array L) (G:ai) (E:Int->Tr->Nat->Prop)
  (jD:∀ (b0:Array L) (w:R),(callFunc u b0).run U w = .ok (.enter u b0) w)
  (hj:∀ (x:Fx t.n) (v b:Nat) (g:R) (C:ai),ag g (vA x b v T k*(G*(dy t m O*C)))->Calls U u (#[az v]++M) g (Rw x b v E (G*(dy t m O*C)) g))
  (h:ag w (cX t s m O*(G*F))) :
  Calls U 27 #[az t.f,.func (.func u) #[] M] w (OC t q m s O E (G*F) w):=by
 have S:ag w (pt t.f (gS t (.map (W m)))*(lI t s*((G*mp m (lf O))*F))):=h.to (by unfold cX;ac_rfl);refine (Ro t q i.h4 i.hn w s (eH T) k (.map (W m)) u M (G*mp m (lf O)) F (fun c _ A' y G'=>∃ e,E c e y/\(c=0->Tidy t.n e/\A'=eH e)/\G'=G*mp m (lf O)) i.at_ hB jD ?_ S).mono ?_
 .intro x v b g C hC hw
  have h2:ag g (vA x b v T k*(G*(dy t m O*C))):=hw.to (by unfold vA dy;ac_rfl);refine (hj x v b g _ h2).mono ?_;rintro c0 w' ⟨c,e,y,j,hR,hT,he,d,d0,h3⟩;exact ⟨c,eH e,y,_,j,⟨e,hR,fun h=>⟨hT h,rfl⟩,rfl⟩,he,d,d0,h3.to (by unfold vA dy;ac_rfl)⟩
 .rintro c0 w' ⟨c,j,A',y,G',s',⟨e,hR,hT,rfl⟩,rfl,d,hs,-,hr⟩
  refine ⟨c,e,y,s',hR,rfl,d,?_,hs.to (by unfold cX;ac_rfl)⟩;rcases hr with hr|⟨h0,ha,hg⟩
  .exact .inl hr
  .obtain ⟨S,rfl⟩:=hT h0
   exact .inr ⟨h0,⟨ha,S,i.h4,i.hn⟩,hg.imp id fun h=>⟨rfl,h⟩⟩
def C5 {kd:Int} (e0:kd=1\/kd=2) (g:kM t q s T k) (G:s.B<=1000000) (h:ag w (cX t s m O*F)) :
  Calls U 41 #[az t.f,K (str p),Z Y kd] w (OC t q m s O (nW t.n T k kd p) F w):=by
 refine aF fun f0 HQ=>?_;have i:=((h.alloc (X #[K (str p)] 9 (0,0))).alloc (X #[Z Y kd] 3 (0,0)))
 rw [A1] at i;have C:=ae (((aj.refl w).alloc (X #[K (str p)] 9 (0,0))).alloc (X #[Z Y kd] 3 (0,0)))
 have S:=ae fun (pc e:Nat) (w':R) (h':ag w' (cX t s m O*((ax pc p*aE e kd)*F)))=>
  kF g G 88 #[az pc,az e] (ax pc p*aE e kd) (nW t.n T k kd p) (enters func88 Kr0 rfl)
   (fun x v b w1 b0 hw=>(Li (x:=x) (b:=b) (v:=v) (k:=k) (pc:=pc) (kc:=e) (F:=dy t m O*b0) (p:=p) e0 g.hn g.ty (hw.u00)).mono fun c0 w' hq=>by simpa only [ay] using hq) h'
 have u:=ae i;clear h i G g
 go_in
 go_wp2_with fail
 generalize (w.alloc (X #[K (str p)] 9 (0,0))).alloc (X #[Z Y kd] 3 (0,0))=w1 at *;generalize w.heap.size+1=e at *;generalize w.heap.size=pc at *;refine (S.o pc e _ (u.o.to (by unfold ax aE;ac_rfl))).mono ?_;rintro c0 w2 ⟨c,T',k',s',M,rfl,y,hr,E⟩;have d0:=ae (HQ.o _ _ ⟨c,T',k',s',M,rfl,C.o.trans y,hr,(E.t00 ((ax pc p*aE e kd)*(cX t s' m O*F))).right⟩);clear S C u y hr M E
 exact Zz d0.o
def uH (y:kM t q s T k) (i:s.B<=1000000) (h:ag w (cX t s m O*F)) :
  Calls U 14 #[az t.f,K (str p)] w (OC t q m s O (nW t.n T k 1 p) F w):=by
 refine aF fun b0 G=>?_;have C:=ae (C5 (p:=p) (kd:=1) (.inl rfl) y i h);clear h y i
 go_in
 go_wp2_with fail
 apply C.o.mono;rintro c0 w2 ⟨c,M,k',s',u,rfl,e,E,g⟩;have S:=ae (G.o _ _ ⟨c,M,k',s',u,rfl,e,E,g⟩);clear C e E u g
 exact Zz S.o
def yM (y:kM t q s T k) (i:s.B<=1000000) (h:ag w (cX t s m O*F)) :
  Calls U 13 #[az t.f,K (str p)] w (OC t q m s O (nW t.n T k 2 p) F w):=by
 refine aF fun b0 G=>?_;have C:=ae (C5 (p:=p) (kd:=2) (.inr rfl) y i h);clear h y i
 go_in
 go_wp2_with fail
 apply C.o.mono;rintro c0 w2 ⟨c,M,k',s',u,rfl,e,E,g⟩;have S:=ae (G.o _ _ ⟨c,M,k',s',u,rfl,e,E,g⟩);clear C e E u g
 exact Zz S.o
end
def C9 (o:Nat × Nat):L:=.agg #[Z Y (o.1:Int),Z Y (o.2:Int)]
def Bb (O:jj) (fd:Int):aM (lf O) fd=(aM O fd).map C9:=by
 induction O with
 | nil=>rfl
 | cons o O e=>
  rw [lf,List.map_cons,jS,jS]
  by_cases h:o.1=fd
  .rw [if_pos h,if_pos h];rfl
  .rw [if_neg h,if_neg h];exact e
section
variable {t:Pl} {q:Dk t.n} {s s':Ds} {T:Tr} {k m:Nat} {O:jj} {w:R} {F:ai} {p:List UInt8} {fd:Int}
def sK (h:ag w (dy t m O*F)) (fd:Int):(Instr.lookup 95 (.map (W m)) (Z Y fd) H).run U w = .ok (I #[(((aM O fd).map C9).getD (C9 (0,0))),.bool (aM O fd).isSome]) w:=by
 have e:ag w (mp m (lf O)*(pt t.f (gS t (.map (W m)))*F)):=h.to (by unfold dy;ac_rfl);obtain ⟨o,i,g,-⟩:=e.n9;have:=iC (P:=U) (z:=C9 (0,0)) underlying95 underlying3 Kr0 g i fd H;rw [Bb] at this;rw [this,if_pos rfl,E5]
def mP (h:ag w (dy t m O*F)):Calls U 43 #[az t.f,Z Y fd] w fun e w'=>e = N (.bool (aM O fd).isSome)/\aj w w'/\ag w' (dy t m O*F):=by
 refine aF fun M g=>?_;have C:=sK h fd
 obtain ⟨u,E⟩:∃ u,((aM O fd).map C9).getD (C9 (0,0))=C9 u:=by
  cases aM O fd with
  | none=>exact ⟨_,rfl⟩
  | some o=>exact ⟨o,rfl⟩
 rw [E] at C;have S:w.cell? ⟨t.f,1,V⟩=W (.map (W m)):=(h.to (by unfold dy;ac_rfl:_=pt t.f (gS t (.map (W m)))*(mp m (lf O)*F))).cell 1;have y:=(h.alloc (X #[Z Y (u.1:Int),Z Y (u.2:Int)] 100 (0,0))).right;have i:=(aj.refl w).alloc (X #[Z Y (u.1:Int),Z Y (u.2:Int)] 100 (0,0));have G:=ae (g.o _ _ ⟨rfl,i,y⟩);unfold C9 at C;clear h E y i g;generalize (aM O fd).isSome=is at *
 go_in
 exact Zz G.o
def zF (O:jj) (fd:Int):jj:=Go.SL.del O fd
def PF (O:jj) (fd:Int):del (lf O) fd=lf (zF O fd):=by
 unfold del lf zF del;rw [List.filter_map];rfl
def Jf (hf:kM t q s T k) (b0:ag w (cX t s m O*F)) :
  Calls U 24 #[az t.f,Z Y fd] w fun e w'=>e = N (Z Y (if (aM O fd).isSome then 0 else 5))/\aj w w'/\ag w' (cX t s m (if (aM O fd).isSome then zF O fd else O)*F):=by
 refine aF fun c0 g=>?_;have C:ag w (dy t m O*(lI t s*F)):=b0.to (by unfold cX dy;ac_rfl);have h:=ae (mP (fd:=fd) C);clear b0
 cases y:(aM O fd).isSome with
 | false=>
  rw [y] at h g;rw [if_neg De0,if_neg De0] at g;clear C y
  go_in
  go_wp2_with fail
  apply h.o.mono;rintro e M ⟨rfl,i,u⟩;have G:=ae (g.o _ _ ⟨rfl,i,u.to (by unfold cX dy;ac_rfl)⟩);clear h i u
  exact Zz G.o
 | true=>
  rw [y] at h g;rw [if_pos rfl,if_pos rfl] at g;clear C y
  go_in
  go_wp2_with fail
  apply h.o.mono;rintro e M ⟨rfl,i,u⟩;have E:ag M (mp m (lf O)*(pt t.f (gS t (.map (W m)))*(lI t s*F))):=u.to (by unfold dy;ac_rfl);have c1:M.cell? ⟨t.f,1,V⟩=W (.map (W m)):=E.ah.cell 1;obtain ⟨w3,hr,h4,S,-⟩:=ag.delete (P:=U) underlying95 underlying3 0 3 E fd;rw [PF] at h4;have G:=ae (g.o _ _ ⟨rfl,i.trans S,h4.to (by unfold cX;ac_rfl)⟩);clear h i u E h4 S
  exact Zz G.o
def iq (T:Tr) (O:jj) (p:List UInt8):Int:=if (bO T p).1≠0 then (bO T p).1 else match T (bO T p).2 with
 | some (.file _)=>if 16<=O.length then 9 else 0
 | _=>8
def aZ (t:Pl) (a:Nat):ai:=pt a (X #[az t.f] 28 (0,0))
def Lb (a:Nat):ai:=ex fun z=>aE a z
def Ps {a:Nat} {z:Int} (h:ag w (aE a z*F)):ag w (Lb a*F):=ag.aw.2 ⟨z,h⟩
def N6 {x:Fx t.n} {b v pc nc fc:Nat} (G:Tidy t.n T) (j0:ag w (vA x b v T k*((ax pc p*(aE nc 0*aZ t fc))*(dy t m O*F)))) :
  Calls U 42 #[az v,az pc,az nc,az fc] w (Rp (iq T O p) (vA x b v T k*((ax pc p*(aE nc ((bO T p).2:Nat)*aZ t fc))*(dy t m O*F))) (vA x b v T k*((ax pc p*(Lb nc*aZ t fc))*(dy t m O*F))) w):=by
 refine aF fun i0 HQ=>?_;have C:=j0.t00 (vA x b v T k*(ax pc p*(aE nc 0*(aZ t fc*(dy t m O*F)))));have cp:w.cell? ⟨pc,0,V⟩=W (K (str p)):=C.ah.cell 0;have g0:=ae C;have HT:=ae G
 have b0:Hid (∀ c,c≠0->c=iq T O p->∀ (z:Int) (w':R),aj w w'->ag w' (vA x b v T k*(ax pc p*(aE nc z*(aZ t fc*(dy t m O*F)))))->i0 (.panicked (jB c)) w'):=fun c y he z w' d h=>
  HQ.o _ _ ⟨d,.inr ⟨by rw [<- he];exact y,by rw [he],(Ps (h.t00 (aE nc z*(vA x b v T k*(ax pc p*(aZ t fc*(dy t m O*F))))))).u00⟩⟩
 clear j0 C
 cases h:bh p with
 | none=>
  have hk:=ae (fg (w:=w) h);have y:(1:Int)=iq T O p:=by unfold iq;rw [qO h];rfl
  clear G h
  go_in
  go_wp2_with fail
  apply hk.o.mono;rintro e w2 ⟨rfl,d2,h2⟩;exact ⟨rfl,b0.o 1 De0 y 0 _ d2 (h2.cM g0.o)⟩
 | some g=>
  obtain ⟨D0,hl⟩:=dO h;have q0:=gy (T:=T) h;have hk:=ae (dJ (w:=w) h);have hy:=fun C=>G.walk g G.root.choose_spec C;have HL:=ae hl;have d0:=ae q0;have HY:=ae hy;clear G h hl D0 q0 hy
  go_in
  go_wp2_with fail
  apply hk.o.mono;rintro e w2 ⟨u,rfl,d2,h2⟩;have i:=(h2.under g0.o).ah;have hw:=ae (gw HT.o HL.o eY i);have h0:=ae (show ∀ e w',Rp (iq T O p) (vA x b v T k*((ax pc p*(aE nc ((aO T 1 g).2:Nat)*aZ t fc))*(dy t m O*F))) (vA x b v T k*((ax pc p*(Lb nc*aZ t fc))*(dy t m O*F))) w e w'->i0 e w' by rw [<- d0.o];exact fun e w'=>HQ.o e w');have p0:iq T O p=if (aO T 1 g).1≠0 then (aO T 1 g).1 else match T (aO T 1 g).2 with|some (.file _)=>if 16<=O.length then 9 else 0|_=>8:=by unfold iq;rw [d0.o]
  have S:=ae p0;clear p0;generalize aO T 1 g=pw at *;obtain ⟨c,id⟩:=pw;dsimp only at hw HY h0 S;clear cp hk h2 i HL HQ d0
  go_wp2_with fail
  apply hw.o.mono;rintro e w3 ⟨he,d3,i⟩;clear hw;have D3:=ae (d2.trans d3);clear d2 d3;rcases he with ⟨rfl,rfl⟩|⟨y,rfl⟩
  .obtain ⟨r0,hy⟩:=HY.o rfl
   have h4:=i.to (by unfold aE;ac_rfl:_=pt nc (X #[Z Y 0] 3 (0,0))*(vA x b v T k*(ax pc p*(aZ t fc*(dy t m O*(bR u g*F))))));have n0:w3.cell? ⟨nc,0,V⟩=W (Z Y 0):=h4.cell 0;have f0:=h4.frozen 0;have h5:=h4.setCell 0 (Z Y (id:Int));simp only [A3,A2] at h5;have n1:=h5.cell 0;have k0:=ae (oN hy h5.ah);have D5:=ae (D3.o.setCell ⟨nc,0,V⟩ (Z Y (id:Int)))
   have E:iq T O p=if r0.af.kd=1 then (if 16<=O.length then 9 else 0) else 8:=by
    rw [S.o,if_neg De0,hy]
    cases r0 with
    | file f=>have:=HT.o.files _ _ hy;show _=if f.kd=1 then _ else _;rw [if_pos this]
    | dir L0=>rfl
   have HC:=ae E;clear i h4 h5 hy HY S E D3
   go_wp2_with fail
   generalize w3.setCell ⟨nc,0,V⟩ (Z Y (id:Int))=w4 at *;apply k0.o.mono;rintro e w5 hq;rcases hq with ⟨c0,z,rfl,F0,G0,H0,K0,d5,h5⟩|⟨c0,rfl,d5,h5⟩
   .have h6:=h5.to (by unfold aE;ac_rfl:_=dy t m O*(vA x b v T k*(aE nc (id:Int)*(ax pc p*(aZ t fc*(bR u g*F))))))
    have h7:ag w5 (mp m (lf O)*(pt t.f (gS t (.map (W m)))*(vA x b v T k*(aE nc (id:Int)*(ax pc p*(aZ t fc*(bR u g*F))))))):=h6.to (by unfold dy;ac_rfl);have m0:=h7.Vv (P:=U) underlying95 3;have o0:(lf O).length=O.length:=by unfold lf;exact B2 _
    rw [o0] at m0;have c1:w5.cell? ⟨t.f,1,V⟩=W (.map (W m)):=h7.ah.cell 1;have cf:w5.cell? ⟨fc,0,V⟩=W (az t.f):=(h7.to (by unfold aZ;ac_rfl:_=pt fc (X #[az t.f] 28 (0,0))*(mp m (lf O)*(pt t.f (gS t (.map (W m)))*(vA x b v T k*(aE nc (id:Int)*(ax pc p*(bR u g*F)))))))).cell 0;have H6:=ae h6;have D6:=ae (D5.o.trans d5);have E:iq T O p=if 16<=O.length then 9 else 0:=by rw [HC.o,if_pos c0]
    have M:=ae E;obtain ⟨ln,l0⟩:=Nm O.length
    rw [l0] at m0 M;clear h5 h6 h7 k0 n1 F0 G0 H0 K0 d5 D5 HC E l0 o0 c0
    by_cases e0:16<=ln
    .have s0:(16:Int)<=(ln:Int):=Om0
     have u0:=ae fun w=>cC w 9 De0
     go_wp2_with fail
     apply (u0.o _).mono;rintro e w7 ⟨rfl,rfl⟩;exact ⟨rfl,b0.o 9 De0 (by rw [M.o,if_pos e0]) _ _ D6.o (H6.o.t00 (bR u g*(vA x b v T k*(ax pc p*(aE nc (id:Int)*(aZ t fc*(dy t m O*F))))))).right⟩
    .have s0:(ln:Int)<16:=Om0
     have x0:=ae (h0.o _ _ ⟨D6.o,.inl ⟨by rw [M.o,if_neg e0],rfl,(H6.o.t00 (bR u g*(vA x b v T k*((ax pc p*(aE nc (id:Int)*aZ t fc))*(dy t m O*F))))).right⟩⟩);clear e0 M
     exact Zy x0.o
   .exact ⟨rfl,b0.o 8 De0 (by rw [HC.o,if_neg c0]) _ _ (D5.o.trans d5) (h5.to (by unfold aE;ac_rfl:_=bR u g*(vA x b v T k*(ax pc p*(aE nc (id:Int)*(aZ t fc*(dy t m O*F))))))).right⟩
  .exact ⟨rfl,b0.o _ y (by rw [S.o,if_pos y]) 0 _ D3.o (i.t00 (bR u g*(vA x b v T k*(ax pc p*(aE nc 0*(aZ t fc*(dy t m O*F))))))).right⟩
end
end Go.Proofs.Cl
namespace Go.SL
open RowKit
def LW {u:Type} (M:List (Int × u)) (x:Int) (h:(aM M x).isSome=H):(del M x).length+1<=M.length:=by
 have i:∃ p ∈ M,(!(p.1 == x))=false:=by
  unfold aM at h;rw [E5,List.find?_isSome] at h;obtain ⟨p,g,e⟩:=h;exact ⟨p,g,by simpa using e⟩
 obtain ⟨p,g,e⟩:=i;unfold del
 have:(M.filter fun p => !(p.1 == x)).length<M.length:=by
  rw [List.length_filter_lt_length_iff_exists];exact ⟨p,g,by rw [e];decide⟩
 omega
def xR {e:Type}:∀ (m:Nat) (M:List (Int × e)),(∀ j:Nat,j<m->(aM M (j:Int)).isSome=H)->m<=M.length
 | 0,_,_=>Nat.zero_le _
 | m+1,M,h=>by
  have g:=LW M (m:Int) (h m Om0);have i:=xR m (del M (m:Int)) fun j u=>by rw [vE,if_neg Om0];exact h j Om0
  omega
end Go.SL
namespace Go.Proofs.Cl
open RowKit SL Proofs.Nn Proofs.Ba Proofs.Su Proofs.Fs
attribute [local go_sem] Oper.semAt_some
section
variable {t:Pl} {q:Dk t.n} {s s':Ds} {T:Tr} {k m:Nat} {O:jj} {w:R} {F:ai} {p:List UInt8}
def _root_.Go.SL.im (O:List (Int × (Nat × Nat))) (fd:Int) (o:Nat × Nat):List (Int × (Nat × Nat)):=Go.SL.fC O fd o
def F5 (O:jj) (fd:Int) (o:Nat × Nat):Go.SL.fC (lf O) fd (C9 o)=lf (im O fd o):=by
 unfold im Go.SL.fC;rw [Bb,E5];unfold lf
 split
 .rw [List.map_map,List.map_map]
  apply List.map_congr_left;intro p _;simp only [Function.comp]
  split <;> rfl
 .rw [List.map_append];rfl
def tZ (t:Pl) (q:Dk t.n) (m:Nat) (s:Ds) (T:Tr) (k:Nat) (O:jj) (p:List UInt8) (F:ai) (w:R) (e:Ending) (w':R):Prop:=
 ∃ s',aj w w'/\s.Rd s'/\((iq T O p≠0/\e = N (I #[Z Y 0,Z Y (iq T O p)])/\ag w' (cX t s' m O*F)) \/
  (iq T O p=0/\∃ fd:Nat,(∀ j:Nat,j<fd->(aM O (j:Int)).isSome=H)/\aM O (fd:Int)=V/\e = N (I #[Z Y (fd:Int),Z Y 0])/\ag w' (cX t s' m (im O fd ((bO T p).2,0))*F)))
def UQ (t:Pl) (m:Nat) (O:jj) (e:ai) (w0:R) (u:L) (wr:R):Prop:=
 ∃ fd:Nat,u = Z Y (fd:Int)/\(∀ j:Nat,j<fd->(aM O (j:Int)).isSome=H)/\aj w0 wr/\ag wr (dy t m O*e)
def lY (hf:kM t q s T k) (hB:s.B<=1000000) (hO:O.length<=1000) (b0:ag w (cX t s m O*F)) :
  Calls U 15 #[az t.f,K (str p)] w (tZ t q m s T k O p F w):=by
 refine aF fun s0 C=>?_;have hA:=(((b0.alloc (X #[az t.f] 28 (0,0))).alloc (X #[K (str p)] 9 (0,0))).alloc (X #[Z Y 0] 3 (0,0)))
 simp only [A1] at hA;have dA:=ae ((((aj.refl w).alloc (X #[az t.f] 28 (0,0))).alloc (X #[K (str p)] 9 (0,0))).alloc (X #[Z Y 0] 3 (0,0)))
 have hd:=ae fun (pc nc e:Nat) (w':R) (h':ag w' (cX t s m O*((ax pc p*(aE nc 0*aZ t e))*F)))=>
  pd hf hB 42 #[az pc,az nc,az e] (ax pc p*(aE nc 0*aZ t e)) (iq T O p) (ax pc p*(aE nc ((bO T p).2:Nat)*aZ t e)) (ax pc p*(Lb nc*aZ t e)) (enters func42 Kr0 rfl)
   (fun x v b w1 o0 y=>N6 (x:=x) (b:=b) (v:=v) (k:=k) (pc:=pc) (nc:=nc) (fc:=e) (F:=o0) (p:=p) hf.ty y) h'
 have HA:=ae hA;have k0:=ae (xR (M:=O));have HO:=ae hO;clear b0 hA hB hf hO;unfold tZ at C;generalize iq T O p=c at *;generalize (bO T p).2=id at *
 go_in
 go_wp2_with fail
 generalize ((w.alloc (X #[az t.f] 28 (0,0))).alloc (X #[K (str p)] 9 (0,0))).alloc (X #[Z Y 0] 3 (0,0))=w1 at *;generalize w.heap.size=e at *;refine (hd.o (e+1) (e+1+1) e _ (HA.o.to (by unfold ax aE aZ;ac_rfl))).mono ?_;rintro j0 w2 ⟨s',rfl,d2,hr,h⟩;have D2:=ae (dA.o.trans d2);clear hd dA d2 HA
 by_cases hc:c=0
 .subst hc
  rw [if_pos rfl] at h;have g:ag w2 (dy t m O*(lI t s'*((ax (e+1) p*(aE (e+1+1) (id:Nat)*aZ t e))*F))):=h.to (by unfold cX dy;ac_rfl);generalize hZ:lI t s'*((ax (e+1) p*(aE (e+1+1) (id:Nat)*aZ t e))*F)=M at g;have HZ:=ae hZ.symm;have H3:=ae g
  have jD:∀ wr,ag wr (dy t m O*M)->wr.cell? ⟨e,0,V⟩=W (az t.f)/\wr.cell? ⟨e+1+1,0,V⟩=W (Z Y (id:Int))/\wr.cell? ⟨t.f,1,V⟩=W (.map (W m)):=fun wr y=>by
   have r0:=y;rw [HZ.o] at y
   exact ⟨(y.to (by unfold aZ;ac_rfl:_=pt e (X #[az t.f] 28 (0,0))*(dy t m O*(lI t s'*((ax (e+1) p*aE (e+1+1) (id:Nat))*F))))).cell 0,
    (y.to (by unfold aE;ac_rfl:_=pt (e+1+1) (X #[Z Y (id:Int)] 3 (0,0))*(dy t m O*(lI t s'*((ax (e+1) p*aZ t e)*F))))).cell 0,
    (r0.to (by unfold dy;ac_rfl:_=pt t.f (gS t (.map (W m)))*(mp m (lf O)*M))).cell 1⟩
  have HC:=ae jD;have i0:=ae fun (fd:Nat) (w':R) (d:aj w w') (ha:∀ j:Nat,j<fd->(aM O (j:Int)).isSome=H) (hn:aM O (fd:Int)=V) (hs:ag w' (cX t s' m (im O (fd:Int) (id,0))*F))=>C.o _ _ ⟨s',d,hr,.inr ⟨rfl,fd,ha,hn,rfl,hs⟩⟩;clear h g hZ jD C
  go_wp2_with fail
  go_loopw [8] (fun g0 wr=>UQ t m O M w g0 wr) (fun g0 _=>O.length+1-(intOf g0).toNat)
  case atStart=>exact ⟨0,rfl,fun j hj=>absurd hj (Nat.not_lt_zero _),D2.o,H3.o⟩
  case round=>
   obtain ⟨fd,rfl,e0,n0,c0⟩:=hrel;have l0:=k0.o fd e0;have p0:fd<=1000:=by have:=HO.o;omega
   obtain ⟨e1,e2,e3⟩:=HC.o wr c0;have i:=ae (mP (fd:=(fd:Int)) c0);have HS:=ae c0;have d0:=ae e0;have D:=ae n0;have h0:=ae l0;have u0:(fd:Int)<=1000:=Om0
   clear c0 e0 n0 l0 p0 e2 e3
   cases u:(aM O (fd:Int)).isSome with
   | true=>
    rw [u] at i;have G:=ae u;clear u
    go_wp2_with fail
    apply i.o.mono;rintro j0 w3 ⟨rfl,E,g⟩;have D3:=ae (D.o.trans E);have H4:=ae g;clear i E g e1
    go_wp2_with fail
    go_roundw
    case rel=>exact ⟨fd+1,by go_num,fun j hj=>by
     rcases Nat.lt_succ_iff_lt_or_eq.1 hj with b0|rfl
     .exact d0.o j b0
     .exact G.o,D3.o,H4.o⟩
    case measure=>have:=h0.o;simp [intOf];omega
   | false=>
    rw [u] at i;have G:=ae u;clear u
    go_wp2_with fail
    apply i.o.mono;rintro j0 w3 ⟨rfl,E,g⟩;obtain ⟨f1,f2,f3⟩:=HC.o w3 g;obtain ⟨w4,q0,h4,d4,S⟩:=ag.mapUpdate (P:=U) underlying95 underlying3 (w:=w3.drew) (g.drew.to (by unfold dy;ac_rfl:_=mp m (lf O)*(pt t.f (gS t (.map (W m)))*M))) (fd:Int) (C9 (id,0));rw [F5] at h4
    have m0:aM O (fd:Int)=V:=by
     have:=G.o
     cases hk:aM O (fd:Int) with
     | none=>rfl
     | some o=>rw [hk] at this;cases this
    have f0:=ae (i0.o fd w4 ((D.o.trans E).drew.trans d4) d0.o m0 (by rw [HZ.o] at h4;exact (h4.to (by unfold cX;ac_rfl:_=(ax (e+1) p*(aE (e+1+1) (id:Nat)*aZ t e))*(cX t s' m (im O (fd:Int) (id,0))*F))).right));have g3:w4.cell? ⟨t.f,1,V⟩=W (.map (W m)):=(S.1 _).trans f3;have g2:w4.cell? ⟨e+1+1,0,V⟩=W (Z Y (id:Int)):=(S.1 _).trans f2;have g1:w4.cell? ⟨e,0,V⟩=W (az t.f):=(S.1 _).trans f1;clear i E g h4 d4 HS d0 D h0 G m0 e1 HC H3 D2 HO k0 i0 S;simp only [C9,Int.ofNat_zero] at q0
    go_wp2_with fail
    go_region_held3 (fun w'=>w'.cell? ⟨e,0,V⟩=W (az t.f)/\w'.cell? ⟨e+1+1,0,V⟩=W (Z Y (id:Int))/\w'.cell? ⟨t.f,1,V⟩=W (.map (W m))) (go_keep) (fail)
    exact Zz f0.o
 .have f0:=ae (C.o _ _ ⟨s',D2.o,hr,.inl ⟨hc,rfl,by rw [if_neg hc] at h;exact (h.t00 ((ax (e+1) p*(Lb (e+1+1)*aZ t e))*(cX t s' m O*F))).right⟩⟩)
  clear h C hr
  exact Zz f0.o
end
end Go.Proofs.Cl
namespace Go.SL
def gg (e at':Nat) (o wh:Int):Int:=(if wh=0 then 0 else if wh=1 then (at':Int) else (e:Int))+o
def kx (e at':Nat) (o wh:Int):Int:=if (-122880<=o/\o<=122880)/\(wh=0\/wh=1\/wh=2)/\(0<=gg e at' o wh/\gg e at' o wh<=122880) then 0 else 1
end Go.SL
namespace Go.Proofs.Cl
open RowKit SL Proofs.Nn Proofs.Ba Proofs.Su Proofs.Fs
attribute [local go_sem] Oper.semAt_some
section
variable {n:Nat} {x:Fx n} {b v oc qc pc tc id at' k:Nat} {T:Tr} {w:R} {F:ai} {o wh z:Int}
def cO (a:Nat) (z:Int):ai:=pt a (X #[Z Y z] 2 (0,0))
def Pv (a:Nat):ai:=ex fun z=>cO a z
def PY {a:Nat} {z:Int} (h:ag w (cO a z*F)):ag w (Pv a*F):=ag.aw.2 ⟨z,h⟩
def cY (a:Nat) (p:Nat × Nat):ai:=pt a (X #[Z Y (p.1:Int),Z Y (p.2:Int)] 100 (0,0))
def FJ {n:Nat} (x:Fx n) (b v oc qc pc tc id at' k g:Nat) (T:Tr) (F:ai) (o wh:Int) (w e:R):Prop:=
 ∃ z,(wh=0\/wh=1\/wh=2)/\gg g at' o wh=z+o/\0<=z/\z<=122880/\aj w e/\ag e (vA x b v T k*(cO oc o*(aE qc wh*(cY pc (id,at')*(cO tc z*F)))))
def OI {f:AF} (y:T id=W (.file f)) (ha:at'<=122880) (hs:f.sz<=122880) (hO:-9223372036854775808<=o/\o<=9223372036854775807) (h:ag w (vA x b v T k*(cO oc o*(aE qc wh*(cY pc (id,at')*(cO tc 0*F)))))) :
  Calls U 64 #[az v,az oc,az qc,az pc,az tc] w (Rp (kx f.sz at' o wh) (vA x b v T k*(cO oc o*(aE qc wh*(cY pc (id,at')*(cO tc (gg f.sz at' o wh)*F))))) (vA x b v T k*(cO oc o*(aE qc wh*(cY pc (id,at')*(Pv tc*F))))) w):=by
 refine aF fun l0 u=>?_;have o0:w.cell? ⟨oc,0,V⟩=W (Z Y o):=h.ah.cell 0;have w0:w.cell? ⟨qc,0,V⟩=W (Z Y wh):=h.au.cell 0;have p0:w.cell? ⟨pc,0,V⟩=W (Z Y (id:Int)):=h.aA.cell 0;have p1:w.cell? ⟨pc,1,V⟩=W (Z Y (at':Int)):=h.aA.cell 1;have i:=ae h;have hn:=ae (jU y h)
 have g:Hid (kx f.sz at' o wh=1->∀ (z:Int) (w':R),aj w w'->ag w' (vA x b v T k*(cO oc o*(aE qc wh*(cY pc (id,at')*(cO tc z*F)))))->l0 (.panicked (jB 1)) w'):=fun he z w' d q0=>
  u.o _ _ ⟨d,.inr ⟨by rw [he];decide,by rw [he],(PY (q0.t00 (cO tc z*(vA x b v T k*(cO oc o*(aE qc wh*(cY pc (id,at')*F))))))).u00⟩⟩
 have i0:=ae oG;have c0:=ae qD;have f0:=ae fun w=>cC w 1 De0;clear h y
 by_cases hr:-122880<=o/\o<=122880
 .have hC:kx f.sz at' o wh=if (wh=0\/wh=1\/wh=2)/\(0<=gg f.sz at' o wh/\gg f.sz at' o wh<=122880) then 0 else 1:=by unfold kx;simp only [hr,true_and,and_self]
  have E:=ae hC;obtain ⟨r1,r2⟩:=hr;clear hC hO
  go_in
  go_wp2_with fail
  apply (i0.o _).mono;rintro e w2 ⟨rfl,rfl⟩;have m0:(at':Int)<=122880:=Om0
  have r0:(f.sz:Int)<=122880:=Om0
  clear ha hs
  go_upto_block 0 with (fail)
  go_cut [] from 13 to 27 (fun wx=>FJ x b v oc qc pc tc id at' k f.sz T F o wh w wx)
  case first=>
   have t0:w.cell? ⟨tc,0,V⟩=W (Z Y 0):=(i.o.to (by unfold cO;ac_rfl:_=pt tc (X #[Z Y 0] 2 (0,0))*(vA x b v T k*(cO oc o*(aE qc wh*(cY pc (id,at')*F)))))).cell 0;have y:=ae (i.o.to (by unfold cO;ac_rfl:_=pt tc (X #[Z Y 0] 2 (0,0))*(vA x b v T k*(cO oc o*(aE qc wh*(cY pc (id,at')*F))))));have g0:=y.o.frozen 0
   by_cases h0:wh=0
   .subst h0
    have HF:=ae (show FJ x b v oc qc pc tc id at' k f.sz T F o 0 w w from ⟨0,.inl rfl,by unfold gg;rw [if_pos rfl],De0,De0,aj.refl w,i.o⟩);clear u g E hn y i
    go_wp2_with fail
    go_meet
    exact HF.o
   by_cases h1:wh=1
   .subst h1
    have h4:=y.o.setCell 0 (Z Y (at':Int));simp only [A3,A2] at h4;have HF:=ae (show FJ x b v oc qc pc tc id at' k f.sz T F o 1 w (w.setCell ⟨tc,0,V⟩ (Z Y (at':Int))) from ⟨at',.inr (.inl rfl),by unfold gg;rw [if_neg De0,if_pos rfl],Om0,m0,(aj.refl w).setCell _ _,h4.to (by unfold cO;ac_rfl)⟩);clear u g E hn y i h4
    go_wp2_with fail
    go_meet
    exact HF.o
   by_cases h2:wh=2
   .subst h2
    have HT:=ae (fun (w':R) (s0:ag w' (vA x b v T k*(cO oc o*(aE qc 2*(cY pc (id,at')*(cO tc 0*F))))))=>s0.to (by unfold cO;ac_rfl:_=pt tc (X #[Z Y 0] 2 (0,0))*(vA x b v T k*(cO oc o*(aE qc 2*(cY pc (id,at')*F))))));clear u g E y i
    go_wp2_with fail
    apply hn.o.mono;rintro e w3 ⟨x0,rfl,e0,D0,F0,k0,d3,h3⟩;have n3:=(lZ e0).1;obtain ⟨-,-,d0⟩:=uN e0 w3;rw [k0] at d0;have h5:=HT.o w3 h3;have K0:w3.cell? ⟨tc,0,V⟩=W (Z Y 0):=h5.cell 0;have G0:=h5.frozen 0;have h4:=h5.setCell 0 (Z Y (f.sz:Int));simp only [A3,A2] at h4;have HF:=ae (show FJ x b v oc qc pc tc id at' k f.sz T F o 2 w (w3.setCell ⟨tc,0,V⟩ (Z Y (f.sz:Int))) from ⟨f.sz,.inr (.inr rfl),by unfold gg;rw [if_neg De0,if_neg De0],Om0,r0,d3.setCell _ _,h4.to (by unfold cO;ac_rfl)⟩);generalize ints x0.l=yl at *;have H0:(Instr.field 66 (.agg yl) 2).run U w3 = .ok (Z Y ((f.sz:Nat):Int)) w3:=d0;clear h3 h4 h5 HT hn e0 D0 F0 k0 d3 n3 d0;generalize (f.sz:Int)=sz at *
    go_wp2_with fail
    go_meet
    exact HF.o
   .have C:=ae (g.o (by rw [E.o,if_neg];rintro ⟨h,-⟩;omega) 0 w (aj.refl w) i.o)
    have b0:(wh == 0)=false:=by simp [h0]
    have b1:(wh == 1)=false:=by simp [h1]
    have b2:(wh == 2)=false:=by simp [h2]
    clear u g E hn y i
    go_wp2_with fail
    apply (f0.o _).mono;rintro e w2 ⟨rfl,rfl⟩;exact ⟨rfl,C.o⟩
  case rest=>
   obtain ⟨z,j0,hz,z1,z2,d3,h3⟩:=hcut;have h4:=h3.to (by unfold cO;ac_rfl:_=pt tc (X #[Z Y z] 2 (0,0))*(vA x b v T k*(pt oc (X #[Z Y o] 2 (0,0))*(aE qc wh*(cY pc (id,at')*F)))));have t0:wc.cell? ⟨tc,0,V⟩=W (Z Y z):=h4.cell 0;have g0:=h4.frozen 0;have o0:wc.cell? ⟨oc,0,V⟩=W (Z Y o):=h4.au.cell 0;have h5:=h4.setCell 0 (Z Y (z+o));simp only [A3,A2] at h5;have t1:=h5.cell 0;have G:=ae (d3.setCell ⟨tc,0,V⟩ (Z Y (z+o)));have M:=ae (h5.to (by unfold cO;ac_rfl:_=vA x b v T k*(cO oc o*(aE qc wh*(cY pc (id,at')*(cO tc (z+o)*F))))));have HZ:=ae hz;have S:=ae (show kx f.sz at' o wh=if 0<=z+o/\z+o<=122880 then 0 else 1 by rw [E.o,hz];simp only [j0,true_and]);clear h3 h4 h5 hz E d3 hn f0 i j0;have u0:(wc.setCell ⟨tc,0,V⟩ (Z Y (z+o))).cell? ⟨tc,0,V⟩=W (Z Y (z+o)):=t1;clear t1
   by_cases r3:0<=z+o
   .by_cases r4:z+o<=122880
    .have n0:=ae (u.o (N (I #[])) _ ⟨G.o,.inl ⟨by rw [S.o,if_pos ⟨r3,r4⟩],rfl,by rw [HZ.o];exact M.o⟩⟩)
     clear u g S HZ M G
     go_wp2_with fail
     apply (i0.o _).mono;rintro e w2 ⟨rfl,rfl⟩
     exact Zy n0.o
    .have C:=ae (g.o (by rw [S.o,if_neg fun h=>r4 h.2]) _ _ G.o M.o)
     clear u g S HZ M G
     go_wp2_with fail
     apply (c0.o _).mono;rintro e w2 ⟨rfl,rfl⟩;exact ⟨rfl,C.o⟩
   .have C:=ae (g.o (by rw [S.o,if_neg fun h=>r3 h.1]) _ _ G.o M.o)
    clear u g S HZ M G
    go_wp2_with fail
    apply (c0.o _).mono;rintro e w2 ⟨rfl,rfl⟩;exact ⟨rfl,C.o⟩
 .have hC:kx f.sz at' o wh=1:=by unfold kx;rw [if_neg];intro h;exact hr h.1
  have C:=ae (g.o hC 0 w (aj.refl w) i.o)
  by_cases r1:-122880<=o
  .have r2:¬ o<=122880:=fun h=>hr ⟨r1,h⟩
   clear hC g i hn hr
   go_in
   go_wp2_with fail
   apply (c0.o _).mono;rintro e w2 ⟨rfl,rfl⟩;exact ⟨rfl,C.o⟩
  .clear hC g i hn hr
   go_in
   go_wp2_with fail
   apply (c0.o _).mono;rintro e w2 ⟨rfl,rfl⟩;exact ⟨rfl,C.o⟩
end
section
variable {t:Pl} {q:Dk t.n} {s s':Ds} {T:Tr} {k m:Nat} {O:jj} {w:R} {F:ai} {fd o wh:Int}
def LQ (e:aM O fd=V) (h:ag w (dy t m O*F)):(Instr.lookup 95 (.map (W m)) (Z Y fd) H).run U w = .ok (I #[.agg #[Z Y 0,Z Y 0],.bool false]) w:=by
 have:=sK h fd;rw [e] at this;exact this
def Eb {u:Nat × Nat} (hy:aM O fd=W u) (h:ag w (dy t m O*F)):(Instr.lookup 95 (.map (W m)) (Z Y fd) H).run U w = .ok (I #[.agg #[Z Y (u.1:Int),Z Y (u.2:Int)],.bool H]) w:=by
 have:=sK h fd;rw [hy] at this;exact this
def jN (h:ag w (dy t m O*F)):w.cell? ⟨t.f,1,V⟩=W (.map (W m)):=(h.to (by unfold dy;ac_rfl:_=pt t.f (gS t (.map (W m)))*(mp m (lf O)*F))).cell 1
def Ky (h:ag w (dy t m O*F)) (fd:Int) (u:Nat × Nat):∃ w',(Instr.mapUpdate 95 (.map (W m)) (Z Y fd) (.agg #[Z Y (u.1:Int),Z Y (u.2:Int)])).run U w = .ok () w'/\ag w' (dy t m (im O fd u)*F)/\aj w w'/\oI w w':=by
 obtain ⟨y,i,h4,g,e⟩:=ag.mapUpdate (P:=U) underlying95 underlying3 (h.to (by unfold dy;ac_rfl:_=mp m (lf O)*(pt t.f (gS t (.map (W m)))*F))) fd (C9 u);rw [F5] at h4;exact ⟨y,i,h4.to (by unfold dy;ac_rfl),g,e⟩
def Qe (G:aM O fd=V) (h:ag w (cX t s m O*F)) :
  Calls U 25 #[az t.f,Z Y fd,Z Y o,Z Y wh] w fun e w'=>e = N (I #[Z Y 0,Z Y 5])/\aj w w'/\ag w' (cX t s m O*F):=by
 refine aF fun S i=>?_;have C:ag w (dy t m O*(lI t s*F)):=h.to (by unfold cX dy;ac_rfl);have g:=(((C.alloc (X #[Z Y o] 2 (0,0))).alloc (X #[Z Y wh] 3 (0,0)))).right.right;have u:=(((aj.refl w).alloc (X #[Z Y o] 2 (0,0))).alloc (X #[Z Y wh] 3 (0,0)))
 generalize b0:(w.alloc (X #[Z Y o] 2 (0,0))).alloc (X #[Z Y wh] 3 (0,0))=w1 at *;have hl:=LQ G g;have c1:=jN g;have E:=(g.alloc (X #[Z Y 0,Z Y 0] 100 (0,0))).right;have y:=u.alloc (X #[Z Y 0,Z Y 0] 100 (0,0));have M:=ae (i.o _ _ ⟨rfl,y,E.to (by unfold cX dy;ac_rfl)⟩);clear h C g u E y G i
 go_in
 exact Zz M.o
def Lw (t:Pl) (s:Ds) (m:Nat) (O:jj) (fd:Int) (id g at':Nat) (o wh:Int) (F:ai) (w:R) (e:Ending) (w':R):Prop:=
 ∃ s',aj w w'/\s.Rd s'/\((kx g at' o wh≠0/\e = N (I #[Z Y 0,Z Y (kx g at' o wh)])/\ag w' (cX t s' m O*F)) \/
  (kx g at' o wh=0/\e = N (I #[Z Y (gg g at' o wh),Z Y 0])/\ag w' (cX t s' m (im O fd (id,(gg g at' o wh).toNat))*F)))
def NS {f:AF} {id at':Nat} (hf:kM t q s T k) (hB:s.B<=1000000) (hy:aM O fd=W (id,at')) (hT:T id=W (.file f)) (ha:at'<=122880) (hO:-9223372036854775808<=o/\o<=9223372036854775807) (e0:ag w (cX t s m O*F)) :
  Calls U 25 #[az t.f,Z Y fd,Z Y o,Z Y wh] w (Lw t s m O fd id f.sz at' o wh F w):=by
 refine aF fun k0 h=>?_;have E:f.sz<=122880:=(hf.at_.has.wf (gL hT)).1.sz;have h1:ag w (dy t m O*(lI t s*F)):=e0.to (by unfold cX dy;ac_rfl);have hA:=(((h1.alloc (X #[Z Y o] 2 (0,0))).alloc (X #[Z Y wh] 3 (0,0))))
 simp only [A1] at hA;have dA:=(((aj.refl w).alloc (X #[Z Y o] 2 (0,0))).alloc (X #[Z Y wh] 3 (0,0)))
 generalize j0:(w.alloc (X #[Z Y o] 2 (0,0))).alloc (X #[Z Y wh] 3 (0,0))=G at *;have y:ag G (dy t m O*(cO w.heap.size o*(aE (w.heap.size+1) wh*(lI t s*F)))):=hA.to (by unfold cO aE;ac_rfl);have hl:=Eb hy y;have c1:=jN y;have b0:=((y.alloc (X #[Z Y (id:Int),Z Y (at':Int)] 100 (0,0))).alloc (X #[Z Y 0] 2 (0,0)))
 simp only [A1] at b0;have dB:=ae ((dA.alloc (X #[Z Y (id:Int),Z Y (at':Int)] 100 (0,0))).alloc (X #[Z Y 0] 2 (0,0)))
 have hd:=ae fun (oc qc pc tc:Nat) (w':R) (h':ag w' (cX t s m O*((cO oc o*(aE qc wh*(cY pc (id,at')*cO tc 0)))*F)))=>
  pd hf hB 64 #[az oc,az qc,az pc,az tc] (cO oc o*(aE qc wh*(cY pc (id,at')*cO tc 0))) (kx f.sz at' o wh) (cO oc o*(aE qc wh*(cY pc (id,at')*cO tc (gg f.sz at' o wh)))) (cO oc o*(aE qc wh*(cY pc (id,at')*Pv tc))) (enters func64 Kr0 rfl)
   (fun x v b G g0 i=>(OI (x:=x) (b:=b) (v:=v) (k:=k) (oc:=oc) (qc:=qc) (pc:=pc) (tc:=tc) (F:=dy t m O*g0) hT ha E hO (i.u00)).mono fun h0 w' hq=>by simpa only [ay] using hq) h'
 have HB:=ae b0
 have f0:kx f.sz at' o wh=0->∃ z:Nat,gg f.sz at' o wh=(z:Int):=fun e=>by
  unfold kx at e
  by_cases hh:(-122880<=o/\o<=122880)/\(wh=0\/wh=1\/wh=2)/\(0<=gg f.sz at' o wh/\gg f.sz at' o wh<=122880)
  .exact ⟨(gg f.sz at' o wh).toNat,Om0⟩
  .rw [if_neg hh] at e;cases e
 have M:=ae f0;unfold Lw at h;clear e0 h1 hA y dA b0 E hf hB hy hT hO ha f0;generalize kx f.sz at' o wh=c at *;generalize gg f.sz at' o wh=zz at *
 go_in
 go_wp2_with fail
 generalize (G.alloc (X #[Z Y (id:Int),Z Y (at':Int)] 100 (0,0))).alloc (X #[Z Y 0] 2 (0,0))=w2 at *;generalize G.heap.size=pc at *;generalize w.heap.size=oc at *;refine (hd.o oc (oc+1) pc (pc+1) _ (HB.o.to (by unfold cX dy cO cY;ac_rfl))).mono ?_;rintro h0 w3 ⟨s',rfl,d3,C,g⟩;have u:=ae (dB.o.trans d3);clear hd dB d3 HB j0 hl c1
 by_cases e:c=0
 .subst e
  obtain ⟨z,rfl⟩:=M.o rfl;rw [if_pos rfl] at g;have d0:=ae fun (w':R) (d:aj w w') (E:ag w' (cX t s' m (im O fd (id,z))*F))=>h.o _ _ ⟨s',d,C,.inr ⟨rfl,rfl,by rw [D8];exact E⟩⟩;have h4:=g.to (by unfold cX dy cY;ac_rfl:_=pt pc (X #[Z Y (id:Int),Z Y (at':Int)] 100 (0,0))*(dy t m O*(cO (pc+1) (z:Int)*(cO oc o*(aE (oc+1) wh*(lI t s'*F))))));have t0:w3.cell? ⟨pc+1,0,V⟩=W (Z Y (z:Int)):=h4.au.cell 0;have p1:w3.cell? ⟨pc,1,V⟩=W (Z Y (at':Int)):=h4.cell 1;have g1:=h4.frozen 1;have h5:=h4.setCell 1 (Z Y (z:Int));simp only [A3,A2,B1] at h5;have D5:=ae (u.o.setCell ⟨pc,1,V⟩ (Z Y (z:Int)));have H5:=ae h5;clear g h4 h5 h u M C
  go_wp2_with fail
  generalize w3.setCell ⟨pc,1,V⟩ (Z Y (z:Int))=w4 at *
  have jD:∀ (O:jj) (wr:R),ag wr (dy t m O*(pt pc (X #[Z Y (id:Int),Z Y (z:Int)] 100 (0,0))*(cO (pc+1) (z:Int)*(cO oc o*(aE (oc+1) wh*(lI t s'*F))))))->wr.cell? ⟨t.f,1,V⟩=W (.map (W m))/\wr.cell? ⟨pc,0,V⟩=W (Z Y (id:Int))/\wr.cell? ⟨pc,1,V⟩=W (Z Y (z:Int)):=fun O wr i=>
   ⟨jN i,i.ah.cell 0,i.ah.cell 1⟩
  have S:=H5.o.t00 (dy t m O*(pt pc (X #[Z Y (id:Int),Z Y (z:Int)] 100 (0,0))*(cO (pc+1) (z:Int)*(cO oc o*(aE (oc+1) wh*(lI t s'*F))))));obtain ⟨e1,e2,e3⟩:=jD _ _ S;obtain ⟨w5,i0,h7,d7,ce⟩:=Ky S.drew fd (id,z);obtain ⟨f1,f2,f3⟩:=jD _ _ h7;have c0:=ae (d0.o w5 (D5.o.drew.trans d7) ((h7.to (by unfold cX dy;ac_rfl:_=(pt pc (X #[Z Y (id:Int),Z Y (z:Int)] 100 (0,0))*(cO (pc+1) (z:Int)*(cO oc o*aE (oc+1) wh)))*(cX t s' m (im O fd (id,z))*F))).right));dsimp only at i0;clear jD S h7 d7 ce D5 H5 d0 t0 p1 g1
  go_region_held3 (fun w'=>w'.cell? ⟨t.f,1,V⟩=W (.map (W m))/\w'.cell? ⟨pc,0,V⟩=W (Z Y (id:Int))/\w'.cell? ⟨pc,1,V⟩=W (Z Y (z:Int))) (go_keep) (fail)
  exact Zz c0.o
 .rw [if_neg e] at g
  have c0:=ae (h.o _ _ ⟨s',u.o,C,.inl ⟨e,rfl,(g.t00 ((cO oc o*(aE (oc+1) wh*(cY pc (id,at')*Pv (pc+1))))*(cX t s' m O*F))).right⟩⟩);clear g h C u M
  exact Zz c0.o
end
def eE (a:Nat) (v:L):ai:=pt a (X #[v] 23 (0,0))
def DE (a:Nat) (l:List UInt8):ai:=ex fun u=>bs 5 u l*eE a u
def BK {w:R} {a:Nat} {l:List UInt8} {F:ai}:ag w (DE a l*F)↔∃ u,ag w (bs 5 u l*(eE a u*F)):=by
 unfold DE;rw [ag.aw];exact exists_congr fun u=>by rw [ay]
end Go.Proofs.Cl
namespace Go.SL
def Tidy.file {n id:Nat} {T:Tr} {f f':AF} (h:Tidy n T) (u:T id=W (.file f)) (E:f'.kd=f.kd) (G:f'.lk=f.lk):Tidy n (df T id (W (.file f'))):=by
 have M:=h.lt u
 have S:id≠1:=by
  rintro rfl;obtain ⟨y,C⟩:=h.root;rw [C] at u;cases u
 refine ⟨?_,fun i y g=>?_,fun i b0 g=>?_,fun i=>?_,fun i g=>?_⟩
 .obtain ⟨y,C⟩:=h.root
  exact ⟨y,by unfold df;rw [if_neg (Ne.symm S)];exact C⟩
 .unfold df at g
  split at g
  .cases g
  .exact h.mz _ _ g
 .unfold df at g
  split at g
  .cases g;rw [E];exact h.files _ _ u
  .exact h.files _ _ g
 .have:=rS M (T:=T) (W (.file f')) i
  rw [u] at this;have e:refs n (df T id (W (.file f'))) i=refs n T i:=by simpa [dN] using this
  rw [e,h.ref];unfold df
  split
  .rename_i e;subst e;rw [u];exact G.symm
  .rfl
 .unfold df
  rw [if_neg (by omega)];exact h.out _ g
def Sl (z:Int):Int:=if 0<=z/\z<=122880 then 0 else 1
def Qt (T:Tr) (k id:Nat) (f:AF) (z:Int) (c:Int) (e:Tr) (g:Nat):Prop:=
 c=Sl z/\(c=0->e=df T id (W (.file (f.cut z.toNat)))/\g=k+bE f.pr-bE (f.cut z.toNat).pr)
end Go.SL
namespace Go.Proofs.Cl
open RowKit SL Proofs.Nn Proofs.Ba Proofs.Su Proofs.Fs
attribute [local go_sem] Oper.semAt_some
section
variable {n:Nat} {x:Fx n} {b v nc pc id at' k:Nat} {T:Tr} {w:R} {F:ai} {z:Int}
def OT {f:AF} (M:Tidy n T) (C:T id=W (.file f)) (h:ag w (vA x b v T k*((aE nc z*cY pc (id,at'))*F))) :
  Calls U 65 #[az v,az nc,az pc] w (Rw x b v (Qt T k id f z) ((aE nc z*cY pc (id,at'))*F) w):=by
 refine aF fun h0 y=>?_;have G:=h.t00 (vA x b v T k*(aE nc z*(cY pc (id,at')*F)));have n0:w.cell? ⟨nc,0,V⟩=W (Z Y z):=G.ah.cell 0;have g0:=ae oG;have d0:=ae qD
 by_cases u:0<=z/\z<=122880
 .have i:Sl z=0:=if_pos u
  obtain ⟨r1,r2⟩:=u;obtain ⟨m,rfl⟩:∃ m:Nat,z=(m:Int):=⟨z.toNat,Om0⟩
  have hm:m<=122880:=Om0
  have b0:=ae fun (w':R) (d:aj w w') (hs:ag w' (vA (x.more 4) b v (df T id (W (.file (f.cut m)))) (k+bE f.pr-bE (f.cut m).pr)*((aE nc (m:Int)*cY pc (id,at'))*F)))=>
   y.o (N (I #[])) w' ⟨0,_,_,4,⟨i.symm,fun _=>⟨by rw [D8],by rw [D8]⟩⟩,fun _=>M.file (f':=f.cut m) C rfl rfl,.inl ⟨rfl,rfl⟩,d,De0,hs⟩
  have g:=h.to (by unfold vA cY aE;ac_rfl:_=dx x b (eH T) k*(pt v (bq b n)*(pt nc (X #[Z Y (m:Int)] 3 (0,0))*(pt pc (X #[Z Y (id:Int),Z Y (at':Int)] 100 (0,0))*F))));have E:w.cell? ⟨v,0,V⟩=W (az b)/\w.cell? ⟨v,1,V⟩=W (Z Y (n:Int))/\w.cell? ⟨pc,0,V⟩=W (Z Y (id:Int))/\w.cell? ⟨nc,0,V⟩=W (Z Y (m:Int)):=⟨g.ah.cell 0,g.ah.cell 1,g.aA.cell 0,g.au.cell 0⟩
  have ha:=ae fun w' (h':ag w' (dx x b (eH T) k*(pt v (bq b n)*(pt nc (X #[Z Y (m:Int)] 3 (0,0))*(pt pc (X #[Z Y (id:Int),Z Y (at':Int)] 100 (0,0))*F)))))=>Ae h' (gL C) m hm;have Hk:=ae fun w=>cR w;have H1:=ae g;have K0:=ae E;clear h G g C M i y E hm;have hm:(m:Int)<=122880:=r2
  go_in
  go_wp2_with fail
  apply (g0.o _).mono;rintro e w2 ⟨rfl,rfl⟩
  go_wp2_with fail
  have E:=K0.o
  go_region_held3 (fun w'=>w'.cell? ⟨v,0,V⟩=W (az b)/\w'.cell? ⟨v,1,V⟩=W (Z Y (n:Int))/\w'.cell? ⟨pc,0,V⟩=W (Z Y (id:Int))/\w'.cell? ⟨nc,0,V⟩=W (Z Y (m:Int)))
   (first|exact E|exact k1|go_keep)
   (first
    | (go_at_call 66;apply (ha.o _ H1.o.drew).mono;rintro e S ⟨rfl,d4,h4⟩;have k1:S.cell? ⟨v,0,V⟩=W (az b)/\S.cell? ⟨v,1,V⟩=W (Z Y (n:Int))/\S.cell? ⟨pc,0,V⟩=W (Z Y (id:Int))/\S.cell? ⟨nc,0,V⟩=W (Z Y (m:Int)):=⟨h4.ah.cell 0,h4.ah.cell 1,h4.aA.cell 0,h4.au.cell 0⟩)
    | (go_at_call 34;apply (Hk.o _).mono;rintro e w5 ⟨rfl,rfl⟩))
  rename_i e0;clear e0 E k1 K0 ha H1;rw [show df (eH T) id (W (f.cut m))=eH (df T id (W (.file (f.cut m)))) from qu T id (.file (f.cut m))] at h4;have f0:=ae (b0.o _ ((aj.refl w).drew.trans d4) (h4.to (by unfold vA cY aE;ac_rfl)));clear h4 d4 b0
  exact Zy f0.o
 .have i:Sl z=1:=if_neg u
  have c0:=ae (y.o (.panicked (jB 1)) w ⟨1,T,k,0,⟨i.symm,fun h=>absurd h De0⟩,fun h=>absurd h De0,.inr ⟨De0,rfl⟩,aj.refl w,De0,(ag.mY (x:=x) 0 (mV h |>.to (aD _ _ _))).to (by unfold vA;ac_rfl)⟩)
  by_cases r1:0<=z
  .have r2:¬ z<=122880:=fun h=>u ⟨r1,h⟩
   clear i y h G u M C
   go_in
   go_wp2_with fail
   apply (d0.o _).mono;rintro e w2 ⟨rfl,rfl⟩;exact ⟨rfl,c0.o⟩
  .clear i y h G u M C
   go_in
   go_wp2_with fail
   apply (d0.o _).mono;rintro e w2 ⟨rfl,rfl⟩;exact ⟨rfl,c0.o⟩
end
section
variable {t:Pl} {q:Dk t.n} {s s':Ds} {T:Tr} {k m:Nat} {O:jj} {w:R} {F:ai} {fd z:Int}
def LU (G:aM O fd=V) (h:ag w (cX t s m O*F)) :
  Calls U 26 #[az t.f,Z Y fd,Z Y z] w fun e w'=>e = N (Z Y 5)/\aj w w'/\ag w' (cX t s m O*F):=by
 refine aF fun S i=>?_;have C:ag w (dy t m O*(lI t s*F)):=h.to (by unfold cX dy;ac_rfl);have g:=(C.alloc (X #[Z Y z] 3 (0,0))).right;have u:=(aj.refl w).alloc (X #[Z Y z] 3 (0,0));generalize b0:w.alloc (X #[Z Y z] 3 (0,0))=w1 at *;have hl:=LQ G g;have c1:=jN g;have E:=(g.alloc (X #[Z Y 0,Z Y 0] 100 (0,0))).right;have y:=u.alloc (X #[Z Y 0,Z Y 0] 100 (0,0));have M:=ae (i.o _ _ ⟨rfl,y,E.to (by unfold cX dy;ac_rfl)⟩);clear h C g u E y G i
 go_in
 exact Zz M.o
def Kc {f:AF} {id at':Nat} (i:kM t q s T k) (hB:s.B<=1000000) (hy:aM O fd=W (id,at')) (hT:T id=W (.file f)) (h:ag w (cX t s m O*F)) :
  Calls U 26 #[az t.f,Z Y fd,Z Y z] w (OC t q m s O (Qt T k id f z) F w):=by
 refine aF fun f0 y=>?_;have M:ag w (dy t m O*(lI t s*F)):=h.to (by unfold cX dy;ac_rfl);have hA:=M.alloc (X #[Z Y z] 3 (0,0));have E:=(aj.refl w).alloc (X #[Z Y z] 3 (0,0));generalize e0:w.alloc (X #[Z Y z] 3 (0,0))=g at *;have e:ag g (dy t m O*(aE w.heap.size z*(lI t s*F))):=hA.to (by unfold aE;ac_rfl);have hl:=Eb hy e;have c1:=jN e;have b0:=e.alloc (X #[Z Y (id:Int),Z Y (at':Int)] 100 (0,0));have G:=ae (E.alloc (X #[Z Y (id:Int),Z Y (at':Int)] 100 (0,0)))
 have hd:=ae fun (nc pc:Nat) (w':R) (h':ag w' (cX t s m O*((aE nc z*cY pc (id,at'))*F)))=>
  kF i hB 65 #[az nc,az pc] (aE nc z*cY pc (id,at')) (Qt T k id f z) (enters func65 Kr0 rfl)
   (fun x v b g c0 hw=>(OT (x:=x) (b:=b) (v:=v) (k:=k) (nc:=nc) (pc:=pc) (F:=dy t m O*c0) (z:=z) i.ty hT hw)) h'
 have u:=ae b0;clear h M hA e E b0 i hB hy hT
 go_in
 go_wp2_with fail
 generalize g.alloc (X #[Z Y (id:Int),Z Y (at':Int)] 100 (0,0))=w2 at *;generalize g.heap.size=pc at *;generalize w.heap.size=nc at *;refine (hd.o nc pc _ (u.o.to (by unfold cX dy cY;ac_rfl))).mono ?_;rintro g0 w3 ⟨c,T',k',s',hR,rfl,C,hr,S⟩;have d0:=ae (y.o _ _ ⟨c,T',k',s',hR,rfl,G.o.trans C,hr,(S.t00 ((aE nc z*cY pc (id,at'))*(cX t s' m O*F))).right⟩);clear hd G C u e0 hl c1 S hr y hR
 exact Zz d0.o
end
end Go.Proofs.Cl
namespace Go.SL
def sS (k at':Nat) (f:AF) (l:List UInt8):Int:=
 if 4096<l.length then 1 else if 122880<at'+l.length then 9 else if l=[] then 0 else if k+bE f.pr<bE (f.wr at' l).pr then 7 else 0
def fX (T:Tr) (k id at':Nat) (f:AF) (l:List UInt8) (c:Int) (e:Tr) (g:Nat):Prop:=
 c=sS k at' f l/\(c=0->(l=[]/\e=T/\g=k)\/(l≠[]/\e=df T id (W (.file (f.wr at' l)))/\g=k+bE f.pr-bE (f.wr at' l).pr))
end Go.SL
namespace Go.Proofs.Cl
open RowKit SL Proofs.Nn Proofs.Ba Proofs.Su Proofs.Fs
attribute [local go_sem] Oper.semAt_some
section
variable {n:Nat} {x:Fx n} {b v nc pc id at' k:Nat} {T:Tr} {w:R} {F D:ai} {l:List UInt8} {va:Option Addr} {vc:Nat}
def I1 {f:AF} (ht:Tidy n T) (S:T id=W (.file f)) (ha:at'<=122880) (k0:l.length<=9223372036854775807) (i:l.length<=vc) (hD:∀ j0 P,ag j0 (D*P)->Rd j0 (Q va l.length vc) l) (h:ag w (vA x b v T k*((eE nc (Q va l.length vc)*cY pc (id,at'))*(D*F)))) :
  Calls U 44 #[az v,az nc,az pc] w (Rw x b v (fX T k id at' f l) ((eE nc (Q va l.length vc)*cY pc (id,at'))*(D*F)) w):=by
 refine aF fun m0 C=>?_;have b0:=ae fun (c:Int) (hc:c≠0) (he:c=sS k at' f l)=>C.out (.panicked (jB c)) w ⟨c,T,k,0,⟨he,fun h=>absurd h hc⟩,fun h=>absurd h hc,.inr ⟨hc,rfl⟩,aj.refl w,by decide,(ag.mY (x:=x) 0 (mV h |>.to (aD _ _ _))).to (by unfold vA;ac_rfl)⟩;have g:=h.to (by unfold vA cY eE;ac_rfl:_=dx x b (eH T) k*(D*(pt v (bq b n)*(pt nc (X #[Q va l.length vc] 23 (0,0))*(pt pc (X #[Z Y (id:Int),Z Y (at':Int)] 100 (0,0))*F)))));have n0:w.cell? ⟨nc,0,V⟩=W (Q va l.length vc):=g.aA.cell 0;have p0:w.cell? ⟨pc,0,V⟩=W (Z Y (id:Int)):=g.aJ.cell 0;have p1:w.cell? ⟨pc,1,V⟩=W (Z Y (at':Int)):=g.aJ.cell 1;have d0:=ae oG;have l0:=ae qD;have hC:sS k at' f l=if 4096<l.length then 1 else if 122880<at'+l.length then 9 else if l=[] then 0 else if k+bE f.pr<bE (f.wr at' l).pr then 7 else 0:=rfl
 have y:=ae hC;have HT:=ae ht;have HA:=ae ha;have HL:=ae k0;have q0:(l.length:Int)<=9223372036854775807:=by omega
 have o0:(at':Int)<=122880:=by omega
 clear hC ht ha k0
 by_cases r1:(l.length:Int)<=4096
 .by_cases r2:(at':Int)+(l.length:Int)<=122880
  .by_cases r3:(l.length:Int)=0
   .have E:l=[]:=List.length_eq_zero_iff.1 (by omega)
    have g0:=ae (C.out (N (I #[])) w ⟨0,T,k,0,⟨by rw [y.out,if_neg (by omega),if_neg (by omega),if_pos E],fun _=>.inl ⟨E,rfl,rfl⟩⟩,fun _=>HT.out,.inl ⟨rfl,rfl⟩,aj.refl w,by decide,(ag.mY (x:=x) 0 (mV h |>.to (aD _ _ _))).to (by unfold vA;ac_rfl)⟩);have e0:=ae i;clear b0 y h g HT HA HL C S i E;generalize l.length=M at *
    go_enter func44,ntmps44
    go_wp2_with fail
    refine (d0.out _).mono ?_;rintro e w2 ⟨rfl,rfl⟩
    go_wp2_with fail
    go_end0
    exact g0.out
   .have E:l≠[]:=fun e=>r3 (by rw [e];rfl)
    have H1:=ae g;have G:w.cell? ⟨v,0,V⟩=W (az b)/\w.cell? ⟨v,1,V⟩=W (Z Y (n:Int))/\w.cell? ⟨pc,0,V⟩=W (Z Y (id:Int))/\w.cell? ⟨pc,1,V⟩=W (Z Y (at':Int))/\w.cell? ⟨nc,0,V⟩=W (Q va l.length vc):=⟨g.au.cell 0,g.au.cell 1,p0,p1,n0⟩
    by_cases hk:k+bE f.pr<bE (f.wr at' l).pr
    .have c0:=ae fun (w':R) (d:aj w w') (hs:ag w' (vA x b v T k*((eE nc (Q va l.length vc)*cY pc (id,at'))*(D*F))))=>C.out (.panicked (jB 7)) w' ⟨7,T,k,0,⟨by rw [y.out,if_neg (by omega),if_neg (by omega),if_neg E,if_pos hk],fun h=>absurd h (by decide)⟩,fun h=>absurd h (by decide),.inr ⟨by decide,rfl⟩,d,by decide,(ag.mY (x:=x) 0 (mV hs |>.to (aD _ _ _))).to (by unfold vA;ac_rfl)⟩
     have ha:=ae fun w' h'=>Cy (x:=x) (b:=b) (k:=k) (w:=w') (F:=pt v (bq b n)*(pt nc (X #[Q va l.length vc] 23 (0,0))*(pt pc (X #[Z Y (id:Int),Z Y (at':Int)] 100 (0,0))*F))) (gL S) at' hD i (by omega) (by omega) hk h';have Hc:=ae fun (w:R)=>cC w 7 (by decide);have K0:=ae G;have e0:=ae i;clear b0 y h g HT HA HL C S i E hk G hD;generalize l.length=M at *
     go_enter func44,ntmps44
     go_wp2_with fail
     refine (d0.out _).mono ?_;rintro e w2 ⟨rfl,rfl⟩
     go_wp2_with fail
     have G:=K0.out;refine wp_region_held_drew (S:=fun w'=>w'.cell? ⟨v,0,V⟩=W (az b)/\w'.cell? ⟨v,1,V⟩=W (Z Y (n:Int))/\w'.cell? ⟨pc,0,V⟩=W (Z Y (id:Int))/\w'.cell? ⟨pc,1,V⟩=W (Z Y (at':Int))/\w'.cell? ⟨nc,0,V⟩=W (Q va M vc)) (by kernel_rfl) G (fun f0=>?_);refine tk 0 ?_;refine tk 1 ?_;refine tk 2 ?_;refine tk 3 ?_;refine tk 4 ?_;refine tk 5 ?_;refine tk 6 ?_;refine tk 7 ?_;refine tk 8 ?_;refine tr 9 fun i0 hK=>?_
     go_simp
     go_wp2_with (go_at_call 45;refine (ha.out _ H1.out.drew).mono ?_;rintro e u ⟨rfl,d4,h4⟩)
     have k1:u.cell? ⟨v,0,V⟩=W (az b)/\u.cell? ⟨v,1,V⟩=W (Z Y (n:Int))/\u.cell? ⟨pc,0,V⟩=W (Z Y (id:Int))/\u.cell? ⟨pc,1,V⟩=W (Z Y (at':Int))/\u.cell? ⟨nc,0,V⟩=W (Q va M vc):=⟨h4.au.cell 0,h4.au.cell 1,h4.aJ.cell 0,h4.aJ.cell 1,h4.aA.cell 0⟩
     have H4:=h4.to (by unfold vA cY eE;ac_rfl:_=vA x b v T k*((eE nc (Q va M vc)*cY pc (id,at'))*(D*F)));refine hK.out _ _ k1 (fun f0=>?_);clear hK i0;refine tr 10 fun i0 hK=>?_
     go_simp
     go_wp2_with (go_at_call 34;refine (Hc.out _).mono ?_;rintro e w5 ⟨rfl,rfl⟩;exact ⟨rfl,c0.out _ ((aj.refl w).drew.trans d4) H4⟩)
    .have h0:=ae fun (w':R) (d:aj w w') (hs:ag w' (vA (x.more (l.length/480+5)) b v (df T id (W (.file (f.wr at' l)))) (k+bE f.pr-bE (f.wr at' l).pr)*((eE nc (Q va l.length vc)*cY pc (id,at'))*(D*F))))=>
      C.out (N (I #[])) w' ⟨0,_,_,l.length/480+5,⟨by rw [y.out,if_neg (by omega),if_neg (by omega),if_neg E,if_neg hk],fun _=>.inr ⟨E,rfl,rfl⟩⟩,fun _=>HT.out.file (f':=f.wr at' l) S rfl rfl,.inl ⟨rfl,rfl⟩,d,by omega,hs⟩
     have ha:=ae fun w' h'=>zt (x:=x) (b:=b) (k:=k) (w:=w') (F:=pt v (bq b n)*(pt nc (X #[Q va l.length vc] 23 (0,0))*(pt pc (X #[Z Y (id:Int),Z Y (at':Int)] 100 (0,0))*F))) (gL S) at' hD i (by omega) (by omega) (by omega) h';have Hk:=ae fun w=>cR w;have K0:=ae G;have e0:=ae i;clear b0 y h g HT HA HL C S i E hk G hD;generalize l.length=M at *
     go_enter func44,ntmps44
     go_wp2_with fail
     refine (d0.out _).mono ?_;rintro e w2 ⟨rfl,rfl⟩
     go_wp2_with fail
     have G:=K0.out
     go_region_held3 (fun w'=>w'.cell? ⟨v,0,V⟩=W (az b)/\w'.cell? ⟨v,1,V⟩=W (Z Y (n:Int))/\w'.cell? ⟨pc,0,V⟩=W (Z Y (id:Int))/\w'.cell? ⟨pc,1,V⟩=W (Z Y (at':Int))/\w'.cell? ⟨nc,0,V⟩=W (Q va M vc))
      (first|exact G|exact k1|go_keep)
      (first
       | (go_at_call 45;refine (ha.out _ H1.out.drew).mono ?_;rintro e u ⟨rfl,d4,h4⟩;have k1:u.cell? ⟨v,0,V⟩=W (az b)/\u.cell? ⟨v,1,V⟩=W (Z Y (n:Int))/\u.cell? ⟨pc,0,V⟩=W (Z Y (id:Int))/\u.cell? ⟨pc,1,V⟩=W (Z Y (at':Int))/\u.cell? ⟨nc,0,V⟩=W (Q va M vc):=⟨h4.au.cell 0,h4.au.cell 1,h4.aJ.cell 0,h4.aJ.cell 1,h4.aA.cell 0⟩)
       | (go_at_call 34;refine (Hk.out _).mono ?_;rintro e w5 ⟨rfl,rfl⟩))
     rename_i f0;clear f0 G k1 K0 ha H1;rw [show df (eH T) id (W (f.wr at' l))=eH (df T id (W (.file (f.wr at' l)))) from qu T id (.file (f.wr at' l))] at h4;have g0:=ae (h0.out _ ((aj.refl w).drew.trans d4) (h4.to (by unfold vA cY eE;ac_rfl)));clear h4 d4 h0
     go_wp2_with fail
     go_end0
     exact g0.out
  .have c0:=ae (b0.out 9 (by decide) (by rw [y.out,if_neg (by omega),if_pos (by omega)]))
   have Hc:=ae fun (w:R)=>cC w 9 (by decide);have e0:=ae i;clear b0 y h g HT HA HL C S i;generalize l.length=M at *
   go_enter func44,ntmps44
   go_wp2_with fail
   refine (d0.out _).mono ?_;rintro e w2 ⟨rfl,rfl⟩
   go_wp2_with fail
   refine (Hc.out _).mono ?_;rintro e w2 ⟨rfl,rfl⟩;exact ⟨rfl,c0.out⟩
 .have c0:=ae (b0.out 1 (by decide) (by rw [y.out,if_pos (by omega)]))
  clear b0 y h g HT HA HL C S i;generalize l.length=M at *
  go_enter func44,ntmps44
  go_wp2_with fail
  refine (l0.out _).mono ?_;rintro e w2 ⟨rfl,rfl⟩;exact ⟨rfl,c0.out⟩
end
section
variable {t:Pl} {q:Dk t.n} {s s':Ds} {T:Tr} {k m:Nat} {O:jj} {w:R} {F D:ai} {fd z:Int} {l:List UInt8} {va:Option Addr} {vc:Nat}
def MF {G:L} (d0:∃ a n c,G = Q a n c) (b0:aM O fd=V) (h:ag w (cX t s m O*F)) :
  Calls U 16 #[az t.f,Z Y fd,G] w fun c0 w'=>c0 = N (Z Y 5)/\aj w w'/\ag w' (cX t s m O*F):=by
 obtain ⟨g,u,i,rfl⟩:=d0;refine aF fun f0 y=>?_;have M:ag w (dy t m O*(lI t s*F)):=h.to (by unfold cX dy;ac_rfl);have e:=(M.alloc (X #[Q g u i] 23 (0,0))).right;have C:=(aj.refl w).alloc (X #[Q g u i] 23 (0,0));generalize g0:w.alloc (X #[Q g u i] 23 (0,0))=w1 at *;have hl:=LQ b0 e;have c1:=jN e;have S:=(e.alloc (X #[Z Y 0,Z Y 0] 100 (0,0))).right;have E:=C.alloc (X #[Z Y 0,Z Y 0] 100 (0,0));have e0:=ae (y.o _ _ ⟨rfl,E,S.to (by unfold cX dy;ac_rfl)⟩);clear h M e C S E b0 y
 go_in
 exact Zz e0.o
def gE (t:Pl) (q:Dk t.n) (m:Nat) (s:Ds) (O:jj) (fd:Int) (o:Nat × Nat) (i:Int->Tr->Nat->Prop) (F:ai) (w:R) (e:Ending) (w':R):Prop:=
 ∃ c g h s',i c g h/\e = N (Z Y c)/\aj w w'/\((c≠0/\s.Rd s'/\ag w' (cX t s' m O*F))\/(c=0/\kM t q s' g h/\s.Go t.n H s'/\ag w' (cX t s' m (im O fd o)*F)))
def yg {f:AF} {id at':Nat} (hf:kM t q s T k) (hB:s.B<=1000000) (hy:aM O fd=W (id,at')) (hT:T id=W (.file f)) (ha:at'<=122880) (j0:l.length<=9223372036854775807) (i0:l.length<=vc) (hD:∀ g0 P,ag g0 (D*P)->Rd g0 (Q va l.length vc) l) (h:ag w (cX t s m O*(D*F))) :
  Calls U 16 #[az t.f,Z Y fd,Q va l.length vc] w (gE t q m s O fd (id,at'+l.length) (fX T k id at' f l) (D*F) w):=by
 refine aF fun s0 u=>?_;have h1:ag w (dy t m O*(lI t s*(D*F))):=h.to (by unfold cX dy;ac_rfl);have hA:=h1.alloc (X #[Q va l.length vc] 23 (0,0));have dA:=(aj.refl w).alloc (X #[Q va l.length vc] 23 (0,0));generalize r0:w.alloc (X #[Q va l.length vc] 23 (0,0))=w1 at *;have b0:ag w1 (dy t m O*(eE w.heap.size (Q va l.length vc)*(lI t s*(D*F)))):=hA.to (by unfold eE;ac_rfl);have hl:=Eb hy b0;have c1:=jN b0;have h0:=b0.alloc (X #[Z Y (id:Int),Z Y (at':Int)] 100 (0,0));have dB:=ae (dA.alloc (X #[Z Y (id:Int),Z Y (at':Int)] 100 (0,0)))
 have hd:=ae fun (nc pc:Nat) (w':R) (h':ag w' (cX t s m O*(((eE nc (Q va l.length vc)*cY pc (id,at'))*D)*F)))=>
  kF hf hB 44 #[az nc,az pc] ((eE nc (Q va l.length vc)*cY pc (id,at'))*D) (fX T k id at' f l) (enters func44 Kr0 rfl)
   (fun x v b w1 m0 G=>(I1 (x:=x) (b:=b) (v:=v) (k:=k) (nc:=nc) (pc:=pc) (F:=dy t m O*m0) hf.ty hT ha j0 i0 hD (G.u00)).mono fun n0 w' hq=>by simpa only [ay] using hq) h'
 have HB:=ae h0;have o0:fX T k id at' f l 0 T k\/True:=.inr trivial
 have l0:∀ y M,fX T k id at' f l 0 y M->l.length<=4096:=fun y M g=>by
  have:=g.1;unfold sS at this
  by_cases h4:4096<l.length
  .rw [if_pos h4] at this;cases this
  .omega
 have c0:=ae l0;have D0:(at':Int)<=122880:=Om0
 unfold gE at u;clear h h1 hA b0 dA h0 hf hB hy hT l0 ha j0 hD o0 i0;generalize fX T k id at' f l=u0 at *
 go_in
 go_wp2_with fail
 generalize w1.alloc (X #[Z Y (id:Int),Z Y (at':Int)] 100 (0,0))=w2 at *;generalize w1.heap.size=pc at *;generalize w.heap.size=nc at *;refine (hd.o nc pc _ (HB.o.to (by unfold cX dy cY;ac_rfl))).mono ?_;rintro n0 w3 ⟨c,y,M,s',E,rfl,d3,g,C⟩;have S:=ae (dB.o.trans d3);clear hd dB d3 HB r0 hl c1
 by_cases hc:c=0
 .subst hc
  have k0:=c0.o _ _ E;have i:=g.elim (fun h=>absurd rfl h.1) (fun h=>h.2);have d0:=ae fun (w':R) (d:aj w w') (hs:ag w' (cX t s' m (im O fd (id,at'+l.length))*(D*F)))=>u.o _ w' ⟨0,y,M,s',E,rfl,d,.inr ⟨rfl,i.1,i.2,hs⟩⟩;obtain ⟨z,hz⟩:=Nm l.length
  rw [hz] at C k0 d0 ⊢;have h4:=C.to (by unfold cX dy cY eE;ac_rfl:_=pt pc (X #[Z Y (id:Int),Z Y (at':Int)] 100 (0,0))*(pt nc (X #[Q va z vc] 23 (0,0))*(dy t m O*(D*(lI t s'*F)))));have t0:w3.cell? ⟨nc,0,V⟩=W (Q va z vc):=h4.ah.cell 0;have p1:w3.cell? ⟨pc,1,V⟩=W (Z Y (at':Int)):=h4.cell 1;have g1:=h4.frozen 1;have h5:=h4.setCell 1 (Z Y ((at'+z:Nat):Int));simp only [A3,A2,B1] at h5;have D5:=ae (S.o.setCell ⟨pc,1,V⟩ (Z Y ((at'+z:Nat):Int)));have H5:=ae h5;have G0:(z:Int)<=4096:=Om0
  have f0:((at'+z:Nat):Int)=(at':Int)+(z:Int):=Om0
  rw [f0] at H5 D5;have F0:0<=(z:Int):=Om0
  have x0:0<=(at':Int):=Om0
  clear C h4 h5 u S g i E c0 hz k0;generalize p0:at'+z=e at *
  go_wp2_with fail
  rw [<- f0] at H5 D5 ⊢;generalize w3.setCell ⟨pc,1,V⟩ (Z Y (e:Int))=w4 at *
  have jD:∀ (O:jj) (wr:R),ag wr (dy t m O*(pt pc (X #[Z Y (id:Int),Z Y (e:Int)] 100 (0,0))*(pt nc (X #[Q va z vc] 23 (0,0))*(D*(lI t s'*F)))))->wr.cell? ⟨t.f,1,V⟩=W (.map (W m))/\wr.cell? ⟨pc,0,V⟩=W (Z Y (id:Int))/\wr.cell? ⟨pc,1,V⟩=W (Z Y (e:Int)):=fun O wr G=>
   ⟨jN G,G.ah.cell 0,G.ah.cell 1⟩
  have h6:=H5.o.t00 (dy t m O*(pt pc (X #[Z Y (id:Int),Z Y (e:Int)] 100 (0,0))*(pt nc (X #[Q va z vc] 23 (0,0))*(D*(lI t s'*F)))));obtain ⟨e1,e2,e3⟩:=jD _ _ h6;obtain ⟨w5,q0,h7,d7,ce⟩:=Ky h6.drew fd (id,e);obtain ⟨f1,f2,f3⟩:=jD _ _ h7;have e0:=ae (d0.o w5 (D5.o.drew.trans d7) ((h7.to (by unfold cX dy;ac_rfl:_=(pt pc (X #[Z Y (id:Int),Z Y (e:Int)] 100 (0,0))*pt nc (X #[Q va z vc] 23 (0,0)))*(cX t s' m (im O fd (id,e))*(D*F)))).right));dsimp only at q0;clear jD h6 h7 d7 ce D5 H5 d0 t0 p1 g1 f0 p0
  go_region_held3 (fun w'=>w'.cell? ⟨t.f,1,V⟩=W (.map (W m))/\w'.cell? ⟨pc,0,V⟩=W (Z Y (id:Int))/\w'.cell? ⟨pc,1,V⟩=W (Z Y (e:Int))) (go_keep) (fail)
  exact Zz e0.o
 .have i:=g.elim (fun h=>h.2) (fun h=>absurd h.1 hc)
  have e0:=ae (u.o _ _ ⟨c,y,M,s',E,rfl,S.o,.inl ⟨hc,i,(C.t00 ((eE nc (Q va l.length vc)*cY pc (id,at'))*(cX t s' m O*(D*F)))).right⟩⟩);clear C u g i E S c0
  exact Zz e0.o
end
section
variable {n:Nat} {x:Fx n} {b v nc mc k:Nat} {T:Tr} {w:R} {F:ai}
def NK (h:ag w (vA x b v T k*(aE nc 0*(aE mc 0*F)))) :
  Calls U 39 #[az v,az nc,az mc] w (Rp 0 (vA x b v T k*(aE nc (n:Int)*(aE mc (k:Int)*F))) (vA x b v T k*(aE nc 0*(aE mc 0*F))) w):=by
 refine aF fun b0 y=>?_;have i:=h.to (by unfold vA;ac_rfl:_=dx x b (eH T) k*(pt v (bq b n)*(aE nc 0*(aE mc 0*F))));have v0:w.cell? ⟨v,0,V⟩=W (az b):=i.ah.cell 0;have M:w.cell? ⟨v,1,V⟩=W (Z Y (n:Int)):=i.ah.cell 1;have G:=ae (RU i);have hk:=ae cR;clear h i
 go_in
 go_wp2_with fail
 apply G.o.mono;rintro e u ⟨rfl,C,E⟩;have g:=E.to (by unfold aE;ac_rfl:_=pt nc (X #[Z Y 0] 3 (0,0))*(pt mc (X #[Z Y 0] 3 (0,0))*(pt v (bq b n)*(dx x b (eH T) k*F))));clear v0 M;have v0:u.cell? ⟨v,0,V⟩=W (az b):=g.au.cell 0;have M:u.cell? ⟨v,1,V⟩=W (Z Y (n:Int)):=g.au.cell 1;have n0:u.cell? ⟨nc,0,V⟩=W (Z Y 0):=g.cell 0;have m0:u.cell? ⟨mc,0,V⟩=W (Z Y 0):=g.ah.cell 0;have g0:=g.frozen 0;have g1:=g.ah.frozen 0;have h4:=g.setCell 0 (Z Y (n:Int));have h5:=(h4.ah.setCell 0 (Z Y (k:Int)))
 simp only [A3,A2] at h5;have g2:=h4.ah.frozen 0;have m1:=h4.ah.cell 0;have S:=ae (y.o (N (I #[])) _ ⟨(C.setCell ⟨nc,0,V⟩ (Z Y (n:Int))).setCell ⟨mc,0,V⟩ (Z Y (k:Int)),.inl ⟨rfl,rfl,h5.to (by unfold vA aE;ac_rfl)⟩⟩);clear E g h4 h5 y G C
 go_wp2_with fail
 apply (hk.o _).mono;rintro e w3 ⟨rfl,rfl⟩
 exact Zy S.o
end
section
variable {t:Pl} {q:Dk t.n} {s s':Ds} {T:Tr} {k m:Nat} {O:jj} {w:R} {F:ai}
def EL (u:kM t q s T k) (hB:s.B<=1000000) (h:ag w (cX t s m O*F)) :
  Calls U 10 #[az t.f] w
   (WK t q m false s T k O (I #[Z Y (t.n:Int),Z Y (k:Int),Z Y 0]) F w):=by
 refine aF fun f0 G=>?_;have i:=(h.alloc (X #[Z Y 0] 3 (0,0))).alloc (X #[Z Y 0] 3 (0,0));simp only [A1] at i;have S:=ae (((aj.refl w).alloc (X #[Z Y 0] 3 (0,0))).alloc (X #[Z Y 0] 3 (0,0)))
 have hd:=ae fun (nc mc:Nat) (w':R) (h':ag w' (cX t s m O*((aE nc 0*aE mc 0)*F)))=>
  pd u hB 39 #[az nc,az mc] (aE nc 0*aE mc 0) 0 (aE nc (t.n:Int)*aE mc (k:Int)) (aE nc 0*aE mc 0) (enters func39 Kr0 rfl)
   (fun x v b w1 b0 hw=>(NK (x:=x) (b:=b) (v:=v) (k:=k) (nc:=nc) (mc:=mc) (F:=dy t m O*b0) (hw.u00)).mono fun c0 w' hq=>by simpa only [ay] using hq) h'
 have E:=ae u;have C:=ae i;clear h i hB u
 go_in
 go_wp2_with fail
 generalize (w.alloc (X #[Z Y 0] 3 (0,0))).alloc (X #[Z Y 0] 3 (0,0))=w1 at *;generalize w.heap.size=nc at *;refine (hd.o nc (nc+1) _ (C.o.to (by unfold aE;ac_rfl))).mono ?_;rintro c0 w2 ⟨s',rfl,M,y,g⟩;rw [if_pos trivial] at g;have e:=g.t00 (aE nc (t.n:Int)*(aE (nc+1) (k:Int)*(cX t s' m O*F)));have n0:w2.cell? ⟨nc,0,V⟩=W (Z Y (t.n:Int)):=e.cell 0;have m0:w2.cell? ⟨nc+1,0,V⟩=W (Z Y (k:Int)):=e.ah.cell 0;have e0:=ae (G.o _ _ ⟨s',rfl,(S.o.trans M).drew,.inl y,E.o.rd y,e.right.right.drew⟩);clear hd S C M y g e G E
 go_wp2_with fail
 go_region_held3 (fun w'=>w'.cell? ⟨nc,0,V⟩=W (Z Y (t.n:Int))/\w'.cell? ⟨nc+1,0,V⟩=W (Z Y (k:Int))) (go_keep) (fail)
 rename_i d0;clear d0 n0 m0
 exact Zz (bodyPost_ret Kr0 rfl e0.o)
end
end Go.Proofs.Cl
namespace Go.SL
def iB (T:Tr) (p:List UInt8) (a c:Int):Int:=if 0<=a/\0<=c/\c<=4096 then (if (bO T p).1≠0 then (bO T p).1 else match T (bO T p).2 with
 | some (.file _)=>0
 | _=>8) else 1
def lR (T:Tr) (p:List UInt8) (a c:Int):List UInt8:=match T (bO T p).2 with
 | some (.file f)=>f.sub a.toNat c.toNat
 | _=>[]
end Go.SL
namespace Go.Proofs.Cl
open RowKit SL Proofs.Nn Proofs.Ba Proofs.Su Proofs.Fs
attribute [local go_sem] Oper.semAt_some
section
variable {n:Nat} {x:Fx n} {b v pc ac nc rc k:Nat} {T:Tr} {w:R} {F:ai} {p:List UInt8} {a c:Int}
def LJ (ht:Tidy n T) (e0:ag w (vA x b v T k*(ax pc p*(aE ac a*(aE nc c*(eE rc (Q V 0 0)*F)))))) :
  Calls U 35 #[az v,az pc,az ac,az nc,az rc] w (Rp (iB T p a c) (vA x b v T k*(ax pc p*(aE ac a*(aE nc c*(DE rc (lR T p a c)*F))))) (vA x b v T k*(ax pc p*(aE ac a*(aE nc c*(eE rc (Q V 0 0)*F))))) w):=by
 refine aF fun x0 HQ=>?_;have cp:w.cell? ⟨pc,0,V⟩=W (K (str p)):=e0.ah.cell 0;have M:=ae e0;have HT:=ae ht
 have E:Hid (∀ e,e≠0->e=iB T p a c->∀ (w':R),aj w w'->ag w' (vA x b v T k*(ax pc p*(aE ac a*(aE nc c*(eE rc (Q V 0 0)*F)))))->x0 (.panicked (jB e)) w'):=fun e u he w' d S=>
  HQ.o _ _ ⟨d,.inr ⟨by rw [<- he];exact u,by rw [he],S⟩⟩
 have p0:=ae oG;have k0:=ae qD;clear e0
 cases S:bh p with
 | none=>
  have G:=ae (fg (w:=w) S);have u:(1:Int)=iB T p a c:=by unfold iB;rw [qO S];split <;> rfl
  clear ht S
  go_in
  go_wp2_with fail
  apply G.o.mono;rintro e C ⟨rfl,h,i⟩;exact ⟨rfl,E.o 1 De0 u _ h (i.cM M.o)⟩
 | some y=>
  obtain ⟨F0,hl⟩:=dO S;have r0:=gy (T:=T) S;have G:=ae (dJ (w:=w) S);have hy:=fun h0=>ht.walk y ht.root.choose_spec h0;have HL:=ae hl;have d0:=ae r0;have HY:=ae hy;clear ht S hl F0 r0 hy
  by_cases hr:0<=a/\0<=c/\c<=4096
  .have c0:=ae (show iB T p a c=if (aO T 1 y).1≠0 then (aO T 1 y).1 else match T (aO T 1 y).2 with|some (.file _)=>0|_=>8 by unfold iB;rw [if_pos hr,d0.o])
   have i0:=ae (show lR T p a c=match T (aO T 1 y).2 with|some (.file f)=>f.sub a.toNat c.toNat|_=>[] by unfold lR;rw [d0.o]);obtain ⟨r1,r2,r3⟩:=hr
   go_in
   go_wp2_with fail
   apply G.o.mono;rintro e C ⟨b0,rfl,h,i⟩;have g:=(i.under M.o)
   have a0:C.cell? ⟨ac,0,V⟩=W (Z Y a):=g.aA.cell 0;have n0:C.cell? ⟨nc,0,V⟩=W (Z Y c):=g.aJ.cell 0;have hw:=ae (gw HT.o HL.o eY g.ah);generalize aO T 1 y=pw at *;obtain ⟨wc,id⟩:=pw;dsimp only at hw HY c0 i0;clear cp G i g HL d0
   go_wp2_with fail
   apply (p0.o _).mono;rintro e m0 ⟨rfl,rfl⟩;clear p0 k0
   go_wp2_with fail
   apply hw.o.mono;rintro e w3 ⟨he,d3,g⟩;clear hw;have D3:=ae (h.trans d3);clear h d3;rcases he with ⟨rfl,rfl⟩|⟨u,rfl⟩
   .obtain ⟨s0,hy⟩:=HY.o rfl
    have o0:=ae (oN hy g);clear g HY a0 n0
    go_wp2_with fail
    apply o0.o.mono;rintro e w5 hq;rcases hq with ⟨j0,z,rfl,G0,H0,K0,L0,d5,h5⟩|⟨j0,rfl,d5,h5⟩
    .cases s0 with
     | dir u0=>exact absurd j0 (by show ¬ (2:Int)=1;decide)
     | file f=>
      rw [hy] at c0 i0;have l0:iB T p a c=0:=c0.o;have q0:lR T p a c=f.sub a.toNat c.toNat:=i0.o;rw [l0,q0] at HQ;obtain ⟨ma,rfl⟩:∃ m:Nat,a=(m:Int):=⟨a.toNat,Om0⟩
      obtain ⟨mc,rfl⟩:∃ m:Nat,c=(m:Int):=⟨c.toNat,Om0⟩
      simp only [D8] at HQ;have hb:=ae (Eo hy ma mc h5);have h6:=h5.t00 (aE ac (ma:Int)*(aE nc (mc:Int)*(vA x b v T k*(bR b0 y*(ax pc p*(eE rc (Q V 0 0)*F))))));have a0:w5.cell? ⟨ac,0,V⟩=W (Z Y (ma:Int)):=h6.cell 0;have n0:w5.cell? ⟨nc,0,V⟩=W (Z Y (mc:Int)):=h6.ah.cell 0;have D5:=ae (D3.o.trans d5);clear hy c0 i0 l0 q0 E h5 h6 o0 G0 H0 K0 L0 d5 D3 j0 M;generalize f.sub ma mc=l at *
      go_wp2_with fail
      apply hb.o.mono;rintro e w6 ⟨u2,rfl,d6,h6⟩;have g:=h6.to (by unfold eE;ac_rfl:_=pt rc (X #[Q V 0 0] 23 (0,0))*(bs 5 u2 l*(vA x b v T k*(ax pc p*(aE ac (ma:Int)*(aE nc (mc:Int)*(bR b0 y*F)))))));have t0:w6.cell? ⟨rc,0,V⟩=W (Q V 0 0):=g.cell 0;have g0:=g.frozen 0;have h4:=g.setCell 0 u2;simp only [A3,A2] at h4;obtain ⟨ua,uc,rfl⟩:=aC h4.ah;have h5:ag (w6.setCell ⟨rc,0,V⟩ (Q ua l.length uc)) (DE rc l*(vA x b v T k*(ax pc p*(aE ac (ma:Int)*(aE nc (mc:Int)*(bR b0 y*F)))))):=BK.2 ⟨_,h4.to (by unfold eE;ac_rfl)⟩;have D0:=ae (HQ.o _ _ ⟨(D5.o.trans d6).setCell ⟨rc,0,V⟩ (Q ua l.length uc),.inl ⟨rfl,rfl,(h5.t00 (bR b0 y*(vA x b v T k*(ax pc p*(aE ac (ma:Int)*(aE nc (mc:Int)*(DE rc l*F))))))).right⟩⟩);clear g h4 h5 h6 HQ hb d6 D5
      exact Zy D0.o
    .have l0:(8:Int)=iB T p a c:=by
      rw [c0.o,if_neg De0,hy]
      cases s0 with
      | dir u0=>rfl
      | file f=>exact absurd (HT.o.files _ _ hy) j0
     exact ⟨rfl,E.o 8 De0 l0 _ (D3.o.trans d5) (h5.t00 (bR b0 y*(vA x b v T k*(ax pc p*(aE ac a*(aE nc c*(eE rc (Q V 0 0)*F))))))).right⟩
   .exact ⟨rfl,E.o _ u (by rw [c0.o,if_pos u]) _ D3.o (g.t00 (bR b0 y*(vA x b v T k*(ax pc p*(aE ac a*(aE nc c*(eE rc (Q V 0 0)*F))))))).right⟩
  .have u:(1:Int)=iB T p a c:=by unfold iB;rw [if_neg hr]
   by_cases r1:0<=a
   .by_cases r2:0<=c
    .have r3:¬ c<=4096:=fun e0=>hr ⟨r1,r2,e0⟩
     clear hr
     go_in
     go_wp2_with fail
     apply G.o.mono;rintro e C ⟨b0,rfl,h,i⟩;have g:=(i.under M.o)
     have a0:C.cell? ⟨ac,0,V⟩=W (Z Y a):=g.aA.cell 0;have n0:C.cell? ⟨nc,0,V⟩=W (Z Y c):=g.aJ.cell 0;have f0:=ae (E.o 1 De0 u _ h g.right);clear E u h i g G M HT HL d0 HY HQ cp
     go_wp2_with fail
     rw [show decide (c<=4096)=false from decide_eq_false Om0];apply (k0.o _).mono;rintro e m0 ⟨rfl,rfl⟩;exact ⟨rfl,f0.o⟩
    .clear hr
     go_in
     go_wp2_with fail
     apply G.o.mono;rintro e C ⟨b0,rfl,h,i⟩;have g:=(i.under M.o)
     have a0:C.cell? ⟨ac,0,V⟩=W (Z Y a):=g.aA.cell 0;have n0:C.cell? ⟨nc,0,V⟩=W (Z Y c):=g.aJ.cell 0;have f0:=ae (E.o 1 De0 u _ h g.right);clear E u h i g G M HT HL d0 HY HQ cp
     go_wp2_with fail
     apply (k0.o _).mono;rintro e m0 ⟨rfl,rfl⟩;exact ⟨rfl,f0.o⟩
   .clear hr
    go_in
    go_wp2_with fail
    apply G.o.mono;rintro e C ⟨b0,rfl,h,i⟩;have g:=(i.under M.o)
    have a0:C.cell? ⟨ac,0,V⟩=W (Z Y a):=g.aA.cell 0;have n0:C.cell? ⟨nc,0,V⟩=W (Z Y c):=g.aJ.cell 0;have f0:=ae (E.o 1 De0 u _ h g.right);clear E u h i g G M HT HL d0 HY HQ cp
    go_wp2_with fail
    apply (k0.o _).mono;rintro e m0 ⟨rfl,rfl⟩;exact ⟨rfl,f0.o⟩
end
section
variable {t:Pl} {q:Dk t.n} {s s':Ds} {T:Tr} {k m:Nat} {O:jj} {w:R} {F:ai} {p:List UInt8} {a c:Int}
def zg (t:Pl) (m:Nat) (s:Ds) (O:jj) (c:Int) (l:List UInt8) (F:ai) (w:R) (e:Ending) (w':R):Prop:=
 ∃ s',aj w w'/\s.Rd s'/\((c≠0/\e = N (I #[Q V 0 0,Z Y c])/\ag w' (cX t s' m O*F)) \/
  (c=0/\∃ u,e = N (I #[u,Z Y 0])/\ag w' (bs 5 u l*(cX t s' m O*F))))
def Nl (E:kM t q s T k) (hB:s.B<=1000000) (b0:ag w (cX t s m O*F)) :
  Calls U 9 #[az t.f,K (str p),Z Y a,Z Y c] w (zg t m s O (iB T p a c) (lR T p a c) F w):=by
 refine aF fun e0 g=>?_;have y:=((((b0.alloc (X #[K (str p)] 9 (0,0))).alloc (X #[Z Y a] 3 (0,0))).alloc (X #[Z Y c] 3 (0,0))).alloc (X #[Q V 0 0] 23 (0,0)))
 simp only [A1] at y;have dA:=ae (((((aj.refl w).alloc (X #[K (str p)] 9 (0,0))).alloc (X #[Z Y a] 3 (0,0))).alloc (X #[Z Y c] 3 (0,0))).alloc (X #[Q V 0 0] 23 (0,0)))
 have hd:=ae fun (pc ac nc rc:Nat) (w':R) (h':ag w' (cX t s m O*((ax pc p*(aE ac a*(aE nc c*eE rc (Q V 0 0))))*F)))=>
  pd E hB 35 #[az pc,az ac,az nc,az rc] (ax pc p*(aE ac a*(aE nc c*eE rc (Q V 0 0)))) (iB T p a c) (ax pc p*(aE ac a*(aE nc c*DE rc (lR T p a c)))) (ax pc p*(aE ac a*(aE nc c*eE rc (Q V 0 0)))) (enters func35 Kr0 rfl)
   (fun x v b w1 c0 hw=>(LJ (x:=x) (b:=b) (v:=v) (k:=k) (pc:=pc) (ac:=ac) (nc:=nc) (rc:=rc) (F:=dy t m O*c0) (p:=p) E.ty (hw.u00)).mono fun d0 w' hq=>by simpa only [ay] using hq) h'
 have HA:=ae y;unfold zg at g;clear b0 y hB E;generalize iB T p a c=cc at *;generalize lR T p a c=l at *
 go_in
 go_wp2_with fail
 generalize (((w.alloc (X #[K (str p)] 9 (0,0))).alloc (X #[Z Y a] 3 (0,0))).alloc (X #[Z Y c] 3 (0,0))).alloc (X #[Q V 0 0] 23 (0,0))=w1 at *;generalize w.heap.size=pc at *;refine (hd.o pc (pc+1) (pc+1+1) (pc+1+1+1) _ (HA.o.to (by unfold ax aE eE;ac_rfl))).mono ?_;rintro d0 w2 ⟨s',rfl,d2,u,e⟩;have h:=ae (dA.o.trans d2);clear hd dA HA d2
 by_cases C:cc=0
 .subst C
  rw [if_pos rfl] at e;obtain ⟨f0,i⟩:=(BK (a:=pc+1+1+1)).1 (e.t00 (DE (pc+1+1+1) l*(cX t s' m O*(ax pc p*(aE (pc+1) a*(aE (pc+1+1) c*F))))));obtain ⟨M,S,rfl⟩:=aC i;have t0:w2.cell? ⟨pc+1+1+1,0,V⟩=W (Q M l.length S):=i.ah.cell 0;have G:=ae (g.o _ _ ⟨s',h.o,u,.inr ⟨rfl,_,rfl,(i.t00 ((eE (pc+1+1+1) (Q M l.length S)*(ax pc p*(aE (pc+1) a*aE (pc+1+1) c)))*(bs 5 (Q M l.length S) l*(cX t s' m O*F)))).right⟩⟩);clear e i g u h
  exact Zz G.o
 .rw [if_neg C] at e
  have G:=ae (g.o _ _ ⟨s',h.o,u,.inl ⟨C,rfl,(e.t00 ((ax pc p*(aE (pc+1) a*(aE (pc+1+1) c*eE (pc+1+1+1) (Q V 0 0))))*(cX t s' m O*F))).right⟩⟩);clear e g u h
  exact Zz G.o
end
end Go.Proofs.Cl

/- Steps. -/
import Derived.Test.YtiomanbgcfjblaaGreatDoorLP42
import Derived.Test.YtiomanbgcfjblaaGreatDoorLP39
set_option linter.all false
set_option maxRecDepth 99999
set_option maxHeartbeats 0
open Go.SL
open Go.Value renaming int->Z,slice->Q,string->K,tuple->Z'
open Go.IntKind renaming i64->Y
open Go.Obj renaming cells->X
open Go.Ending renaming returned->N
open Go renaming World->R,Value->L
open Go.Proofs.Tryz renaming prog->V
open Option renaming some->W,none->U
open Bool renaming true->I
open Go.Proofs.Tryz
open Prod renaming fst->A1
open List renaming length_map->B3,setIfInBounds_toArray->D8,set_cons_zero->E5,set_cons_succ->E3,getElem?_eq_getElem->E1
open Go.World renaming size_alloc->E4
open Option renaming isSome_map->E2
namespace Go.Proofs.Cl
open RowKit SL Proofs.Nn Proofs.Ba Proofs.Su Proofs.Fs
def Ak (s j k:Nat) (w:R) (h:w.cell? ⟨s,0,U⟩=W (ax j)):(method (k+1) 101 (ax s) "Read").run V w = .ok (122,ax j) w:=by
 have e:(method (k+1) 101 (ax s) "Read").run V w=(do let v <- loadVar 130 ⟨s,0,U⟩; pure (122,v):Sem (FuncId×L)).run V w:=Kr0
 rw [e];simp [go_sem,h]
def Gh (e:Array L) (w:R):(callFunc 122 e).run V w = .ok (.enter 122 e) w:=Kr0
structure Pl where
 f:Nat
 s:Nat
 j:Nat
 d:Nat
 n:Nat
 P:Nat
def AP (t:Pl) (Sd:Hp):Cx (Jr × aw):=⟨101,ax t.s,122,ax t.j,fun w=>w.cell? ⟨t.s,0,U⟩=W (ax t.j),Ut,RD t.s t.j t.d t.n t.P Sd⟩
section
variable {w w':R} {s j d n P:Nat} {Sd:Hp} {x:Jr × aw} {F:ai}
def ot (h:ah w (RD s j d n P Sd x*F)):(x.1.Ok/\x.2.Ok)/\ah w (dz s j d n P x.1*(aD Sd d x.2*(al Sd*F))):=by
 obtain ⟨e,g⟩:=ah.ao.1 (h.to (ar _ _ _));exact ⟨e,g.u00⟩
def BU (e:x.1.Ok) (g:x.2.Ok) (h:ah w (dz s j d n P x.1*(aD Sd d x.2*(al Sd*F)))):ah w (RD s j d n P Sd x*F):=
 (ah.ao.2 ⟨⟨e,g⟩,h.t00 ((dz s j d n P x.1*(aD Sd d x.2*al Sd))*F)⟩:ah w (fact _*_)).to (ar _ _ _).symm
def sQ {J:Jr} (h:ah w (dz s j d n P J*F)):w.cell? ⟨s,0,U⟩=W (ax j):=by
 have e:ah w (pt s (X #[ax j,Z Y (n:Int),Z Y (P:Int)] 134 (0,0))*(nA j d J*F)):=h.to (by unfold dz;ac_rfl);exact e.cell 0
end
def Pp (t:Pl) (Sd:Hp):(AP t Sd).Ok:=by
 refine ⟨fun x F w h=>?_,fun k w h=>Ak t.s t.j k w h,fun y w=>Gh y w,fun x id F w h=>?_,fun x id _=>?_⟩
 .exact sQ (ot (F:=F) h).2
 .obtain ⟨J,D⟩:=x
  obtain ⟨⟨g,i⟩,E⟩:=ot (F:=F) h;have g:=g;have i:=i;have:=yJ w Sd t.j t.d J D id (pt t.s (X #[ax t.j,Z Y (t.n:Int),Z Y (t.P:Int)] 134 (0,0))*F) (E.to (by unfold dz;ac_rfl)) g i;apply this.mono;rintro e w' ⟨u,rfl,h4,C⟩;obtain ⟨G,H⟩:=OU g i id;refine ⟨u,rfl,?_,C⟩;have h5:ah w' (dz t.s t.j t.d t.n t.P (J.read D id).2.1*(aD Sd t.d (J.read D id).2.2*(al Sd*(nL 5 (J.read D id).1 u*F)))):=h4.to (by unfold dz;ac_rfl);exact (BU (x:=((J.read D id).2.1,(J.read D id).2.2)) G H h5).t00 (nL 5 (J.read D id).1 u*(RD t.s t.j t.d t.n t.P Sd ((J.read D id).2.1,(J.read D id).2.2)*F))
 .show (Jr.read x.1 x.2 id).1.2.length<=1000000
  have:=oh x.1 x.2 id;omega
abbrev xV:Hp:=fun _=>U
def il (t:Pl) (e:L):Obj:=X #[ax t.s,e] 106 (0,0)
def yc {P:Program} {w:R} {t h e:TypeId} (g:P.underlying t=W (.map h e)) (ty:TypeId) :
  (Builtin.len_ #[t] ty #[.map U]).run P w = .ok (Z Y 0) w:=by
 simp [Builtin.len_,run_underlying g,goInt]
def tR {w:R} {S:Hp} {b:Nat} {rd:L} {i:Int} {g D:CB} {F:ai} (h:ah w (aR 211 5 S b rd i g D*(al S*F))):(g.map A1).Nodup:=by
 obtain ⟨x,y⟩:=h.dZ;obtain ⟨u,E,C,_⟩:=(y.t00 (aL 5 S x.wv x.ws g*(al S*(pt b (X (x.cells rd i) 211 (0,0))*(aL 5 S x.tv x.ts D*(fD x.av*F)))))).mi;have e:(g.map A1).Perm (u.map A1):=Gr0
 exact e.nodup_iff.2 C
def Qu (w:R) (S:Hp) (b:Nat) (rd:L) (u:Int) (g D:CB) (F:ai)
  (h:ah w (aR 211 5 S b rd u g D*(al S*F))) :
  Calls V 92 #[.pointer (W ⟨b,0,U⟩)] w fun e w'=>e = N (Z Y g.length)/\w=w':=by
 obtain ⟨x,C⟩:=h.dZ;have b0:w.cell? ⟨b,2,U⟩=W x.wv:=C.cell 2
 have c0:(Builtin.len_ #[207] 3 #[x.wv]).run V w = .ok (Z Y g.length) w:=by
  obtain ⟨i,z1,z2,z3,H,_⟩:=(C.t00 (aL 5 S x.wv x.ws g*(al S*(pt b (X (x.cells rd u) 211 (0,0))*(aL 5 S x.tv x.ts D*(fD x.av*F)))))).mi;have y:g.length=i.length:=by have:=z1.length_eq;simpa using this.symm
  rcases H with ⟨hv,M⟩|⟨m,o,hv,E,G⟩
  .have:i=[]:=by simpa using M
   rw [y,hv,this,yc underlying207];rfl
  .rw [y,hv,C9 E G underlying207];simp
 go_in
 go_wp2
 go_ret
 exact ⟨rfl,rfl⟩
def Ct {P:Program} {i:Func} {C:Ending->R->Prop} {t G:Array L} (he:∀ w,(results i t).run P w=(results i G).run P w):∀ (g:List Deferred) (u:FrameMode) (w:R),Leaves P i t C g u w->Leaves P i G C g u w:=by
 intro g
 induction g with
 | nil=>
  intro u w h
  cases u with
  | run=>exact h
  | returning=>
   obtain ⟨v,hr,hR⟩:=h;exact ⟨v,(he w).symm.trans hr,hR⟩
  | panicking c=>exact h
 | cons d g E=>
  intro u w h;obtain ⟨d0,S,M,f,H,e0,c0,b0⟩:=h;refine ⟨d0,S,M,f,H,e0,c0,b0.mono fun e u' w' y=>?_⟩
  cases e with
  | returned v=>exact E _ _ y
  | panicked c=>exact E _ _ y
  | outgrown=>exact y
def Sb {e:Ending->R->Prop} {c:List PanicEntry} {a:Act} {w:R} {k:Nat} {v:L} (g:k≠4) (h:bodyPostD V Tryz.f39 e (.panic c) (a.put (W k) v) w):bodyPostD V Tryz.f39 e (.panic c) a w:=by
 refine Ct (fun w=>?_) _ _ _ h;simp [results,Tryz.results39,Act.put,Array.getElem?_setIfInBounds,g]
def FW {e:Array Oper} {C:Region.Mode} {S:R->Prop} {u:Exit->Act->R->Prop} (i:Nat) {g:Oper} {v:L} {E:Nat} {y:Array Bool} {a:Act} {w:R} {q:Prop} (h:q)
  (hi:e[i]?=W g:=by rfl) (hs:Region.noSelect e=I:=by kernel_rfl) (hf:Region.free C e y i=I:=by kernel_rfl) (hr:(Region.ready C e y).contains i=I:=by kernel_rfl)
  (G:∀ c a w,u (.panic c) (a.put g.dst v) w->u (.panic c) a w:=by exact fun _ _ _ h=>Sb De0 h) (hw:Region.wanted g (yielded e a.tmps)=I:=by kernel_rfl)
  (hv:∀ w,S w->(execOp a.eval g).run V w = .ok (.value v) w:=by intro w M;(try dsimp only at M);go_simp;try with_reducible rfl) (H:S w:=by assumption)
  (hk:q->wpAnyH V C e u S E (y.setIfInBounds i I) (a.put g.dst v) w:=by intro hx;(try simp only [Go.SL.tz,Go.Act.put]);exact hx):wpAnyH V C e u S (E+1) y a w:=
 wpAnyH_take hi hs hf hr G (.inl ⟨hw,hv⟩) H (hk h)
def LG {n:Int} {e:List Wr} (h:Batch n (bU e)):JM n e:=by
 have E:(bU e).length=e.length:=by unfold bU;rw [B3]
 refine ⟨by rw [<- E];exact h.n0,by rw [<- E];exact h.n1,fun k y=>?_⟩;have C:k<(bU e).length:=Om0
 have G:=List.getElem_mem C;have g:(e.getD k Wr.nil).1=(bU e)[k].1:=by rw [List.getD,E1 y];simp [bU]
 have S:(e.getD k Wr.nil).2.2=(bU e)[k].2:=by rw [List.getD,E1 y];simp [bU]
 have u:=h.id _ G;refine ⟨by rw [g];exact u.1,by rw [g];exact u.2,by rw [S];exact h.UA _ G,?_⟩;rw [g];intro hx;obtain ⟨z,M,b0⟩:=List.mem_map.1 hx;rw [List.mem_take_iff_getElem] at M;obtain ⟨i,hi,rfl⟩:=M;have e3:(e[i]'Om0).1=((bU e)[i]'Om0).1:=by simp [bU]
 have H:=h.nd;rw [List.Nodup,List.pairwise_iff_getElem] at H;have:=H i k (by rw [B3];omega) (by rw [B3];exact C) Om0;apply this;rw [List.getElem_map,List.getElem_map,<- b0,e3]
def XX (t:Pl) (J:Jr) (D:aw) (H:ai) (w:R) (e:Ending) (w':R):Prop:=
 ∃ S,e = N (Z Y 0)/\ak w w'/\ah w' (dz t.s t.j t.d t.n t.P J*(aD S t.d D*(al S*H)))
def Be (t:Pl) (w:R) (S g:Hp) (v:L) (h:CB) (J u:Jr) (D i:aw) (has:Has) (H:ai) (C:dp J D has) (M:Batch J.n h) (d0:dJ J D I h=(0,u,i))
  (c0:ah w (gX 179 5 g v h*(dz t.s t.j t.d t.n t.P J*(aD S t.d D*(al S*(al g*H)))))) :
  Calls V 93 #[ax t.j,v] w (XX t u i H w):=by
 obtain ⟨e,E,hV,h1⟩:=c0.mC;have G:e.length=h.length:=by rw [<- E,B3]
 obtain ⟨h2,e1,e2⟩:=ah.Ca (h1.t00 (al S*(al g*(aD S t.d D*(dz t.s t.j t.d t.n t.P J*(sl 179 2 v h.length (rQ e)*H))))));have h3:=(h2.t00 (aD S t.d D*(al (join S g)*(dz t.s t.j t.d t.n t.P J*(sl 179 2 v h.length (rQ e)*H))))).ib (yE e1)
 have h4:ah w (nA t.j t.d J*(aD (join S g) t.d D*(al (join S g)*(sl 179 2 v e.length (bK e)*(pt t.s (X #[ax t.j,Z Y (t.n:Int),Z Y (t.P:Int)] 134 (0,0))*H))))):=by
  rw [G];exact h3.to (by unfold dz;show _*(_*(_*(sl _ 2 v _ (rQ e)*H)))=_*(_*(_*(sl _ 2 v _ (rQ e)*_)));ac_rfl)
 have hp:bU e=h:=E
 have hr:Reads (join S g) v e (sl 179 2 v e.length (bK e)*(pt t.s (X #[ax t.j,Z Y (t.n:Int),Z Y (t.P:Int)] 134 (0,0))*H)):=by
  intro S' b0 w' hE hs;refine ⟨yP (hs.t00 (sl 179 2 v e.length (bK e)*(b0*(al S'*(pt t.s (X #[ax t.j,Z Y (t.n:Int),Z Y (t.P:Int)] 134 (0,0))*H))))),fun z hz=>?_⟩;exact ((hV z hz).mono (e2.trans hE)).rd hs.aj
 have:=tF w (join S g) t.j t.d J D _ v e h4 C.ok C.nums C.pH (by rw [G];have:=M.n1;omega) hr I ⟨fun _=>LG (by rw [hp];exact M),fun _=>rfl⟩;rw [hp,d0] at this;apply this.mono;rintro e0 w' ⟨y,-,rfl,h5,d5⟩;refine ⟨y,rfl,d5,?_⟩;exact (h5.to (by unfold dz;ac_rfl:_=sl 179 2 v e.length (bK e)*(dz t.s t.j t.d t.n t.P u*(aD y t.d i*(al y*H))))).right
def WC (n P:Nat) (w:R) (e:Ending) (w':R):Prop:=e = N (.agg #[Z Y (n:Int),Z Y (P:Int)])/\ah w' (whole w)/\ak w w'
def XH (t:Pl) (S:Hp) (u:L) (v b:Nat) (i:Int->iM (Jr × aw)->ai->Prop) (H:ai) (y:R) (e:Ending) (w':R):Prop:=
 ∃ c h M g,i c M g/\((c=0/\e = N (Z' #[]))\/(c≠0/\e = .panicked (pF c)))/\ak y w' /\
  ah w' (pt t.f (il t u)*(pt v (bV b t.n)*(eu (AP t S) h b M*(al h*(g*H)))))
def TK (t:Pl) (S:Hp) (g:L) (J:Jr) (D:aw) (u:FuncId) (i:Array L) (G:ai) (h:Int->iM (Jr × aw)->ai->Prop):Prop:=
 ∀ (v b:Nat) (e:R) (H:ai),ah e (pt t.f (il t g)*(pt v (bV b t.n)*(eu (AP t S) xV b ⟨0,[],[],(J,D)⟩*(al xV*(G*H)))))->Calls V u (#[ax v]++i) e (XH t S g v b h H e)
def YA (t:Pl) (i:Int->iM (Jr × aw)->ai->Prop):Prop:=
 ∀ c M g,i c M g->c=0->(M.W.map A1).Nodup->M.W≠[]->∃ has h e,dp M.s.1 M.s.2 has/\M.s.1.n=(t.n:Int)/\Batch (t.n:Int) (iI M.W)/\dJ M.s.1 M.s.2 I (iI M.W)=(0,h,e)
def Yy (t:Pl) (C:L) (y:Int->iM (Jr × aw)->ai->Prop) (F:ai) (w:R) (e:Ending) (w':R):Prop:=
 ∃ c M i u h g,y c M i/\(M.W.map A1).Nodup/\e = N (Z Y c)/\ak w w' /\
  ah w' (pt t.f (il t C)*(dz t.s t.j t.d t.n t.P h*(aD u t.d g*(al u*(i*F))))) /\
  (c=0->M.W≠[]->dJ M.s.1 M.s.2 I (iI M.W)=(0,h,g))/\((c≠0\/M.W=[])->M.s=(h,g))
def DV (t:Pl) (w:R) (S:Hp) (J:Jr) (D:aw) (g:L) (jf:FuncId) (H0:Array L) (g0 F:ai) (Pj:Int->iM (Jr × aw)->ai->Prop) (hJ:J.Ok) (hD:D.Ok)
  (lV:∀ (G0:Array L) (w:R),(callFunc jf G0).run V w = .ok (.enter jf G0) w) (hj:TK t S g J D jf H0 g0 Pj) (hm:YA t Pj)
  (h:ah w (pt t.f (il t g)*(dz t.s t.j t.d t.n t.P J*(aD S t.d D*(al S*(g0*F)))))) :
  Calls V 39 #[ax t.f,.func (.func jf) #[] H0] w (Yy t g Pj F w):=by
 refine aK fun m1 HQ=>?_;have Hj:=ae hj;have Hm:=ae hm;have HJ:=ae hJ;have HD:=ae hD;have cf:w.cell? ⟨t.f,0,U⟩=W (ax t.s):=h.cell 0;have h1:t.f<w.heap.size:=h.lt;clear hj hm hJ hD
 go_enter_defers func39,ntmps39
 have H1:=h.alloc (X #[Z Y 0] 31 (0,0));have D1:=(ak.refl w).alloc (X #[Z Y 0] 31 (0,0))
 go_wp2_with fail
 generalize w.alloc (X #[Z Y 0] 31 (0,0))=w3 at *;generalize w.heap.size=u at *;obtain ⟨o0,i0⟩:∃ b0,b0=pt u (X #[Z Y 0] 31 (0,0))*(pt t.f (il t g)*(dz t.s t.j t.d t.n t.P J*(aD S t.d D*(al S*(g0*F))))):=⟨_,rfl⟩
 have hF:∀ w' b0,ah w' (b0*o0)->w'.cell? ⟨t.f,0,U⟩=W (ax t.s):=fun w' b0 hx=>by
  rw [i0] at hx;exact hx.au.cell 0
 have hG:∀ w' b0,ah w' (b0*o0)->Calls V 91 #[ax t.s] w' (WC t.n t.P w'):=fun w' b0 hx=>by
  rw [i0] at hx;exact OM w' t.s t.j t.d t.n t.P J _ (hx.to (by ac_rfl:_=dz t.s t.j t.d t.n t.P J*(b0*(pt u (X #[Z Y 0] 31 (0,0))*(pt t.f (il t g)*(aD S t.d D*(al S*(g0*F))))))))
 rw [<- i0] at H1;have c0:=hF w3 emp (H1.to (cy _).symm);have HF:=ae hF;have HG:=ae hG;have o1:∀ w,(Instr.field 132 (.agg #[Z Y (t.n:Int),Z Y (t.P:Int)]) 0).run V w = .ok (Z Y (t.n:Int)) w:=fun w=>by kernel_rfl
 have H3:=ae H1;have D3:=ae D1;have HB:=ae i0;clear H1 D1 hF hG i0 cf h h1
 go_cut [5] from 17 to 33 (fun u5 wx=>∃ v b,u5=ax v/\ah wx (pt v (bV b t.n)*(aR 211 5 xV b (.iface 101 (ax t.s)) 0 [] []*o0))/\ak w wx)
 case first=>
  refine wp_region_held_drew (S:=(fun w'=>w'.cell? ⟨t.f,0,U⟩=W (ax t.s))) (by kernel_rfl) ?_ (fun l0=>?_)
  .first|exact c0|exact c1|exact c2|exact bF _ _ _ _ c1|exact bF _ _ _ _ c2
  refine FW 0 ?_;refine FW 1 ?_;refine FW 2 ?_;refine FW 3 ?_;refine FW 4 ?_;refine FW 5 ?_;refine FW 7 ?_;refine FW 8 ?_;refine FW 9 ?_;refine FW 10 ?_;refine FW 11 ?_;refine wpAnyH_ready (rs:=[6]) (by kernel_rfl) (by simp) ?_;refine AllReadyH.cons rfl (fun h0 hK=>?_) AllReadyH.nil
  go_simp
  go_wp2_with (go_at_call 90;go_loud ((with_reducible refine (Ba.AY _ 101 (ax t.s)).mono ?_);rintro d0 M ⟨b,rfl,h4,d4⟩;have hn:=(h4 xV).under H3.out.drew;have c1:M.cell? ⟨t.f,0,U⟩=W (ax t.s):=HF.out M _ hn))
  refine hK.out _ _ ?_ (fun l0=>?_)
  .first|exact c0|exact c1|exact c2|exact bF _ _ _ _ c1|exact bF _ _ _ _ c2
  clear hK h0;refine wpAnyH_ready (rs:=[12]) (by kernel_rfl) (by simp) ?_;refine AllReadyH.cons rfl (fun h0 hK=>?_) AllReadyH.nil
  go_simp
  go_wp2_with (go_at_call 91;go_loud ((with_reducible refine (HG.out M _ hn).mono ?_);rintro d0 w5 ⟨rfl,h5,d5⟩;have hg:=((h5.to (cy _).symm).under hn).right;have c2:w5.cell? ⟨t.f,0,U⟩=W (ax t.s):=HF.out w5 _ hg))
  refine hK.out _ _ ?_ (fun l0=>?_)
  .first|exact c0|exact c1|exact c2|exact bF _ _ _ _ c1|exact bF _ _ _ _ c2
  clear hK h0;refine FW 13 ?_;refine FW 14 ?_;refine FW 15 ?_;refine wpAnyH_ready (rs:=[16]) (by kernel_rfl) (by simp) ?_;refine AllReadyH.cons rfl (fun h0 hK=>?_) AllReadyH.nil
  go_simp
  refine hK.out _ _ ?_ (fun l0=>?_)
  .first|exact c0|exact c1|exact c2|exact bF _ _ _ _ c1|exact bF _ _ _ _ c2
  clear hK h0;refine FW 17 ?_;refine wpAnyH_done (by kernel_rfl) ?_ _
  go_wp2_with fail
  go_meet
  exact ⟨_,b,rfl,(hg.alloc (bV b t.n)).to (by ac_rfl),((D3.out.drew.trans d4).trans d5).alloc _⟩
 case rest=>
  clear c0 HF HG H3 D3;obtain ⟨v,b,rfl,S0,i1⟩:=hcut;rw [HB.out] at S0
  have e1:ah wc (pt t.f (il t g)*(pt v (bV b t.n)*(eu (AP t S) xV b ⟨0,[],[],(J,D)⟩*(al xV*(g0*(pt u (X #[Z Y 0] 31 (0,0))*F)))))):=by
   have h6:ah wc (fact (J.Ok/\D.Ok)*_):=ah.ao.2 ⟨⟨HJ.out,HD.out⟩,ah.zY S0⟩;have d0:eu (AP t S) xV b ⟨0,[],[],(J,D)⟩=aR 211 5 xV b (.iface 101 (ax t.s)) 0 [] []*(fact (J.Ok/\D.Ok)*(dz t.s t.j t.d t.n t.P J*(aD S t.d D*al S))):=rfl;rw [d0];exact h6.to (by show fact _*(al xV*_)=_;ac_rfl)
  have L0:=ae (Hj.out v b wc _ e1);have F0:=ae i1
  go_wp2_with fail
  refine L0.out.mono ?_;clear L0;rintro d0 M ⟨c,i,q0,H,hP,he,d4,h4⟩;have HP:=ae hP;have D4:=ae (F0.out.trans d4);clear hP d4 F0;rcases he with ⟨rfl,rfl⟩|⟨hc,rfl⟩
  .obtain ⟨E,e,y,C,G⟩:=q0
   have e0:ah M (aR 211 5 i b (.iface 101 (ax t.s)) E e y*(al i*(RD t.s t.j t.d t.n t.P S (C,G)*(pt t.f (il t g)*(pt v (bV b t.n)*(H*(pt u (X #[Z Y 0] 31 (0,0))*F))))))):=h4.to (by unfold eu AP Cx.rd;ac_rfl);have n0:=tR e0;have m0:=ae (Qu M i b _ E e y _ e0);have c1:M.cell? ⟨v,0,U⟩=W (ax b):=h4.aj.cell 0;obtain ⟨⟨s0,r0⟩,h5⟩:=ot (e0.to (by ac_rfl:_=RD t.s t.j t.d t.n t.P S (C,G)*(aR 211 5 i b (.iface 101 (ax t.s)) E e y*(al i*(pt t.f (il t g)*(pt v (bV b t.n)*(H*(pt u (X #[Z Y 0] 31 (0,0))*F))))))));dsimp only at h5 s0 r0;have H5:=ae h5;have p0:=ae n0;clear h4 e0 h5 n0
   by_cases hw:e=[]
   .subst hw
    have l1:=ae s0;have j1:=ae r0;clear Hm s0 r0 lV;have h6:=H5.out.to (by ac_rfl:_=pt u (X #[Z Y 0] 31 (0,0))*((aR 211 5 i b (.iface 101 (ax t.s)) E [] y*(al i*pt v (bV b t.n)))*(pt t.f (il t g)*(dz t.s t.j t.d t.n t.P C*(aD S t.d G*(al S*(H*F)))))));have z0:=h6.cell 0;have f0:M.frozen? ⟨u,0,U⟩=false:=h6.frozen 0;have h7:=h6.setCell 0 (Z Y 0);have Z0:=ae (h7.cell 0);have H7:=ae h7.right.right;have D7:=ae (D4.out.setCell ⟨u,0,U⟩ (Z Y 0));clear h6 h7 H5
    go_wp2_with fail
    refine m0.out.mono ?_;rintro d0 w5 ⟨rfl,rfl⟩;clear m0
    go_wp2_with fail
    refine zk rfl Z0.out (HQ.out _ _ ⟨0,⟨E,[],y,C,G⟩,H,S,C,G,HP.out,p0.out,rfl,D7.out,H7.out,fun _ h=>absurd rfl h,fun _=>rfl⟩)
   .obtain ⟨has,J2,D2,hI,R0,K0,N0⟩:=Hm.out 0 _ _ HP.out rfl p0.out hw
    dsimp only at hI R0 K0 N0;have p1:(0:Int)<(e.length:Int):=by have:=List.length_pos_iff.2 hw;omega
    have HI:=ae hI;have u0:=ae K0;have x0:=ae N0;have W0:=ae R0;have Hw:=ae hw;have hX:=H5.out.to (by ac_rfl:_=aR 211 5 i b (.iface 101 (ax t.s)) E e y*(al i*(dz t.s t.j t.d t.n t.P C*(aD S t.d G*(al S*(pt t.f (il t g)*(pt v (bV b t.n)*(H*(pt u (X #[Z Y 0] 31 (0,0))*F)))))))));have b1:e.length<=1000000:=by have:=u0.out.n1;rw [zF] at this;omega
    have g1:=fun w' h=>PT w' i b (.iface 101 (ax t.s)) E e y (dz t.s t.j t.d t.n t.P C*(aD S t.d G*(al S*(pt t.f (il t g)*(pt v (bV b t.n)*(H*(pt u (X #[Z Y 0] 31 (0,0))*F))))))) b1 h;have k0:M.cell? ⟨t.f,0,U⟩=W (ax t.s)/\M.cell? ⟨t.s,0,U⟩=W (ax t.j)/\M.cell? ⟨v,0,U⟩=W (ax b):=⟨(hX.et).cell 0,sQ (hX.au),c1⟩
    have HX:=ae hX;have Y0:=ae g1;have f1:∀ (w':R) (b0:ai) (J3:Jr) ,ah w' (pt t.f (il t g)*(dz t.s t.j t.d t.n t.P J3*(pt v (bV b t.n)*b0)))->w'.cell? ⟨t.f,0,U⟩=W (ax t.s)/\w'.cell? ⟨t.s,0,U⟩=W (ax t.j)/\w'.cell? ⟨v,0,U⟩=W (ax b):=fun w' b0 J3 h=>⟨h.cell 0,sQ h.aj,h.au.cell 0⟩
    have D0:=ae f1;have d1:=fun w' S2 vL h=>Be t w' S S2 vL (iI e) C J2 G D2 has (aR 211 5 S2 b (.iface 101 (ax t.s)) E e y*(pt t.f (il t g)*(pt v (bV b t.n)*(H*(pt u (X #[Z Y 0] 31 (0,0))*F))))) HI.out (by rw [W0.out];exact u0.out) x0.out h;have V0:=ae d1;have T0:=ae fun w=>dK w
    go_wp2_with fail
    refine m0.out.mono ?_;rintro d0 w5 ⟨rfl,rfl⟩;clear m0
    go_wp2_with fail
    go_region_held3 (fun w'=>w'.cell? ⟨t.f,0,U⟩=W (ax t.s)/\w'.cell? ⟨t.s,0,U⟩=W (ax t.j)/\w'.cell? ⟨v,0,U⟩=W (ax b))
     (first|exact k0|exact k1|exact k2|exact k3|go_keep)
     (first
      | (go_at_call 94;refine (Y0.out _ HX.out.drew).mono ?_;rintro d0 w6 ⟨S2,vL,n1,rfl,hL,dL⟩;have k1:=D0.out w6 _ C (hL.to (by ac_rfl:_=pt t.f (il t g)*(dz t.s t.j t.d t.n t.P C*(pt v (bV b t.n)*(gX 179 5 S2 vL (iI e)*(aR 211 5 S2 b (.iface 101 (ax t.s)) E e y*(al S2*(aD S t.d G*(al S*(H*(pt u (X #[Z Y 0] 31 (0,0))*F))))))))))))
      | (go_at_call 93;refine (V0.out _ S2 vL (hL.to (by ac_rfl))).mono ?_;rintro d0 w7 ⟨S3,rfl,d7,h7⟩;have k2:=D0.out w7 _ J2 (h7.to (by ac_rfl:_=pt t.f (il t g)*(dz t.s t.j t.d t.n t.P J2*(pt v (bV b t.n)*(aD S3 t.d D2*(al S3*(aR 211 5 S2 b (.iface 101 (ax t.s)) E e y*(H*(pt u (X #[Z Y 0] 31 (0,0))*F))))))))))
      | (go_at_call 46;refine (T0.out _).mono ?_;rintro d0 w8 ⟨rfl,rfl⟩))
    rename_i l0;have h8:=h7.to (by ac_rfl:_=pt u (X #[Z Y 0] 31 (0,0))*((aR 211 5 S2 b (.iface 101 (ax t.s)) E e y*pt v (bV b t.n))*(pt t.f (il t g)*(dz t.s t.j t.d t.n t.P J2*(aD S3 t.d D2*(al S3*(H*F)))))));have z0:=h8.cell 0;have f0:w7.frozen? ⟨u,0,U⟩=false:=h8.frozen 0;have h9:=h8.setCell 0 (Z Y 0);have a1:=ae (h9.cell 0);have H9:=ae h9.right.right;have D9:=ae (((D4.out.drew.trans dL).trans d7).setCell ⟨u,0,U⟩ (Z Y 0));clear h7 h8 h9 dL d7
    go_wp2_with fail
    refine zk rfl a1.out (HQ.out _ _ ⟨0,⟨E,e,y,C,G⟩,H,S3,J2,D2,HP.out,p0.out,rfl,D9.out,H9.out,fun _ _=>x0.out,fun h=>?_⟩);rcases h with h|h
    .exact absurd rfl h
    .exact absurd h Hw.out
  .have hd:(c:Int)≠0:=hc
   have h5:ah M (pt u (X #[Z Y 0] 31 (0,0))*(pt t.f (il t g)*(pt v (bV b t.n)*(eu (AP t S) i b q0*(al i*(H*F)))))):=h4.to (by ac_rfl);obtain ⟨E,e,y,C,G⟩:=q0;have e0:ah M (aR 211 5 i b (.iface 101 (ax t.s)) E e y*(al i*(RD t.s t.j t.d t.n t.P S (C,G)*(pt t.f (il t g)*(pt v (bV b t.n)*(H*(pt u (X #[Z Y 0] 31 (0,0))*F))))))):=h4.to (by unfold eu AP Cx.rd;ac_rfl);have n0:=tR e0;refine JV hc rfl h5 fun w' h6 d6=>HQ.out _ _ ⟨c,⟨E,e,y,C,G⟩,H,S,C,G,HP.out,n0,rfl,D4.out.trans d6,?_,fun h=>absurd h hc,fun _=>rfl⟩;have h7:ah w' (RD t.s t.j t.d t.n t.P S (C,G)*((aR 211 5 i b (.iface 101 (ax t.s)) E e y*(al i*pt v (bV b t.n)))*(pt t.f (il t g)*(H*F)))):=h6.to (by unfold eu AP Cx.rd;ac_rfl);obtain ⟨-,h8⟩:=ot h7;exact (h8.to (by ac_rfl:_=(aR 211 5 i b (.iface 101 (ax t.s)) E e y*(al i*pt v (bV b t.n)))*(pt t.f (il t g)*(dz t.s t.j t.d t.n t.P C*(aD S t.d G*(al S*(H*F))))))).right
structure Ds where
 J:Jr
 D:aw
 has:Has
 B:Nat
structure Ds.Rd (s s':Ds):Prop where
 J:s'.J=s.J
 D:∃ r,s'.D={ s.D with cr:=r }
 has:s'.has=s.has
 B:s'.B=s.B
def Ds.Cm (n:Nat) (s s':Ds):Prop:=∃ r e,Batch (n:Int) e/\dJ s.J { s.D with cr:=r } I e=(0,s'.J,s'.D)/\s'.has=kR s.has e/\s'.B=s.B+1
structure SF {n:Nat} (q:Dk n) (s:Ds) (A:Nat->Option AF) (k:Nat):Prop where
 q:q.Q s.B s.J s.D s.has
 has:Go.SL.Has n ⟨eH s.has,eH s.has 0⟩ A k
def SF.rd {n:Nat} {q:Dk n} {s s':Ds} {A:Nat->Option AF} {k:Nat} (h:SF q s A k) (r:s.Rd s'):SF q s' A k:=by
 obtain ⟨E,C,G,y⟩:=s';obtain ⟨e,⟨r,g⟩,i,u⟩:=r;dsimp only at e g i u;subst e;subst g;subst i;subst u;exact ⟨q.cr h.q r,h.has⟩
def oO (t:Pl) (s:Ds):ai:=ex fun S=>dz t.s t.j t.d t.n t.P s.J*(aD S t.d s.D*al S)
section
variable {t:Pl} {s:Ds} {w:R} {F:ai}
def qD (h:ah w (oO t s*F)):∃ S,ah w (dz t.s t.j t.d t.n t.P s.J*(aD S t.d s.D*(al S*F))):=by
 obtain ⟨S,e⟩:=ah.aq.1 h;exact ⟨S,e.u00⟩
def kY {S:Hp} (h:ah w (dz t.s t.j t.d t.n t.P s.J*(aD S t.d s.D*(al S*F)))):ah w (oO t s*F):=
 ah.aq.2 ⟨S,h.u00⟩
end
def XO (t:Pl) (u:L) (x:Fx t.n) (v b:Nat) (P:Int->Nat->(Nat->Option AF)->Nat->ai->Prop) (H:ai) (y:R) (e:Ending) (w':R):Prop:=
 ∃ c g i h m,P c m g i h/\((c=0/\e = N (Z' #[]))\/(c≠0/\e = .panicked (pF c)))/\ak y w'/\m<=24 /\
  ah w' (pt t.f (il t u)*(pt v (bV b t.n)*(eK (x.more m) b g i*(h*H))))
def XM (t:Pl) (u:L) (q:Dk t.n) (s:Ds) (P:Int->Nat->(Nat->Option AF)->Nat->ai->Prop) (F:ai) (w:R) (e:Ending) (w':R):Prop:=
 ∃ c m g i h s',P c m g i h/\e = N (Z Y c)/\ak w w'/\ah w' (pt t.f (il t u)*(oO t s'*(h*F))) /\
  (m=0->s.Rd s')/\((c≠0/\s.Rd s')\/(c=0/\SF q s' g i/\(s.Rd s'\/s.Cm t.n s')))
def Sz (t:Pl) (q:Dk t.n) (h4:4<=t.n) (hn:t.n<=3840) (w:R) (s:Ds) (A:Nat->Option AF) (k:Nat) (C:L) (jf:FuncId) (g0:Array L) (b0 F:ai) (P:Int->Nat->(Nat->Option AF)->Nat->ai->Prop)
  (ha:SF q s A k) (hB:s.B<=1000000) (lV:∀ (l0:Array L) (w:R),(callFunc jf l0).run V w = .ok (.enter jf l0) w)
  (hj:∀ (x:Fx t.n) (v b:Nat) (w1:R) (H:ai),x.C=0->ah w1 (pt t.f (il t C)*(pt v (bV b t.n)*(eK x b A k*(b0*H))))->Calls V jf (#[ax v]++g0) w1 (XO t C x v b P H w1))
  (h:ah w (pt t.f (il t C)*(oO t s*(b0*F)))) :
  Calls V 39 #[ax t.f,.func (.func jf) #[] g0] w (XM t C q s P F w):=by
 obtain ⟨J,D,has,B⟩:=s;obtain ⟨d0,h1⟩:=qD (h.to (by ac_rfl:_=oO t ⟨J,D,has,B⟩*(pt t.f (il t C)*(b0*F))));have hq:q.Q B J D has:=ha.q;have hh:Go.SL.Has t.n ⟨eH has,eH has 0⟩ A k:=ha.has;have hB:B<=1000000:=hB
 let x:Fx t.n:=⟨Jr × aw,AP t d0,eH has,IJ J D,Pp t d0,yB hq,h4,hn,fun _=>emp,fun _ _ _ _ h=>h,0⟩
 have m0:∀ (M:iM (Jr × aw)) i u,se t.n (eH has) (IJ J D) M i u->M.W.length<=24->(M.W.map A1).Nodup->M.W≠[] ->
   ∃ r g e,M.s=(J,{ D with cr:=r })/\q.Q B J { D with cr:=r } has/\Batch (t.n:Int) (iI M.W)/\dJ J { D with cr:=r } I (iI M.W)=(0,g,e)/\q.Q (B+1) g e (kR has (iI M.W)):=by
  intro M i u E hl c0 k0;obtain ⟨S,r,e2⟩:=E.gL.inv;have hb:=yy E c0 hl (List.length_pos_iff.2 k0);obtain ⟨g,e,e3,e4⟩:=q.nS (q.cr hq r) hB hb;exact ⟨r,g,e,Prod.ext S e2,q.cr hq r,hb,e3,e4⟩
 refine (DV t w d0 J D C jf g0 b0 F (fun c M y=>∃ m i u,P c m i u y/\se t.n (eH has) (IJ J D) M i u/\M.W.length<=m/\m<=24) (q.inv hq).ok (q.inv hq).pH lV ?_ ?_ (h1.to Ac0)).mono ?_
 .intro v b w1 H G
  have q0:ah w1 (T8 x b ⟨0,[],[],(J,D)⟩*(pt t.f (il t C)*(pt v (bV b t.n)*(b0*H)))):=
   ah.yn (x:=x) (S:=xV) (S':=xV) (fun _ _ h=>h) (G.to (by show _=eu (AP t d0) xV b ⟨0,[],[],(J,D)⟩*(al xV*(emp*(pt t.f (il t C)*(pt v (bV b t.n)*(b0*H)))));rw [cy];ac_rfl))
  have r0:=ah.we (x:=x) (A:=A) (k:=k) ⟨Lj hh,Nat.zero_le _⟩ q0;refine (hj x v b w1 H rfl (r0.to Ac0)).mono ?_;rintro i0 w2 ⟨c,i,u,y,m,hP,he,d,hm,hs⟩;obtain ⟨M,hM,h2⟩:=ah.ug (x:=x.more m) (hs.to (by ac_rfl:_=eK (x.more m) b i u*(pt t.f (il t C)*(pt v (bV b t.n)*(y*H)))));obtain ⟨S',h3⟩:=ah.vo (x:=x.more m) h2;refine ⟨c,S',M,y,⟨m,i,u,hP,hM.1,Nat.le_trans hM.2 (by show 0+m<=m;omega),hm⟩,he,d,?_⟩;have h4:ah w2 (eu (AP t d0) S' b M*(al S'*(emp*(pt t.f (il t C)*(pt v (bV b t.n)*(y*H)))))):=h3;rw [cy] at h4;exact h4.to Ac0
 .rintro c M y ⟨m,i,u,-,E,hl,hm⟩-c0 k0
  obtain ⟨r,g,e,S,e2,e3,e4,-⟩:=m0 M i u E Om0 c0 k0;refine ⟨has,g,e,?_,?_,e3,?_⟩
  .rw [S];exact q.inv e2
  .rw [S];exact q.jn e2
  .rw [S];exact e4
 .rintro i0 w' ⟨c,M,y,S',g,e,⟨m,i,u,hP,E,hl,hm⟩,c0,rfl,d,hs,n0,o0⟩
  obtain ⟨S,r,e2⟩:=E.gL.inv
  have f0:(c≠0\/M.W=[])->Ds.Rd ⟨J,D,has,B⟩ ⟨g,e,has,B⟩:=fun h=>by
   have i0:=o0 h;rw [i0] at S e2;exact ⟨S,⟨r,e2⟩,rfl,rfl⟩
  have p0:m=0->M.W=[]:=fun h=>List.eq_nil_of_length_eq_zero Om0
  by_cases h0:c=0
  .by_cases G:M.W=[]
   .refine ⟨c,m,i,u,y,⟨g,e,has,B⟩,hP,rfl,d,(kY (s:=⟨g,e,has,B⟩) (hs.to Ac0)).to (by ac_rfl:oO t ⟨g,e,has,B⟩*(pt t.f (il t C)*(y*F))=_),fun _=>f0 (.inr G),.inr ⟨h0,?_,.inl (f0 (.inr G))⟩⟩
    exact SF.rd (s:=⟨J,D,has,B⟩) ⟨hq,uh E G⟩ (f0 (.inr G))
   .obtain ⟨r',J2,D2,f1,f2,f3,f4,f5⟩:=m0 M i u E Om0 c0 G
    have e0:=n0 h0 G;rw [f1] at e0;have e0:dJ J { D with cr:=r' } I (iI M.W)=(0,g,e):=e0;rw [e0] at f4;simp only [Prod.mk.injEq,true_and] at f4;obtain ⟨rfl,rfl⟩:=f4
    exact ⟨c,m,i,u,y,⟨g,e,kR has (iI M.W),B+1⟩,hP,rfl,d,(kY (s:=⟨g,e,kR has (iI M.W),B+1⟩) (hs.to Ac0)).to (by ac_rfl:oO t ⟨g,e,kR has (iI M.W),B+1⟩*(pt t.f (il t C)*(y*F))=_),
     fun h=>absurd (p0 h) G,.inr ⟨h0,⟨f5,wG E c0⟩,.inr ⟨r',iI M.W,f3,e0,rfl,rfl⟩⟩⟩
  .exact ⟨c,m,i,u,y,⟨g,e,has,B⟩,hP,rfl,d,(kY (s:=⟨g,e,has,B⟩) (hs.to Ac0)).to (by ac_rfl:oO t ⟨g,e,has,B⟩*(pt t.f (il t C)*(y*F))=_),fun _=>f0 (.inl h0),.inl ⟨h0,f0 (.inl h0)⟩⟩
end Go.Proofs.Cl
namespace Go.Proofs.Cl
open RowKit SL Proofs.Nn Proofs.Ba Proofs.Su Proofs.Fs
attribute [local go_sem] Oper.semAt_some
abbrev po:=List (Int × (Nat × Nat))
def nr (O:po):KV:=O.map fun o=>(o.1,.agg #[Z Y (o.2.1:Int),Z Y (o.2.2:Int)])
def eL (t:Pl) (s:Ds) (m:Nat) (O:po):ai:=pt t.f (il t (.map (W m)))*(oO t s*mp m (nr O))
structure mx (t:Pl) (q:Dk t.n) (s:Ds) (T:Tr) (k:Nat):Prop where
 at_:SF q s (gJ T) k
 ty:Tidy t.n T
 h4:4<=t.n
 hn:t.n<=3840
def Ds.Go (n:Nat) (wr:Bool) (s s':Ds):Prop:=s.Rd s'\/(wr=I/\s.Cm n s')
def Yt (t:Pl) (q:Dk t.n) (m:Nat) (wr:Bool) (s:Ds) (h:Tr) (i:Nat) (g:po) (v:L) (F:ai) (w:R) (e:Ending) (w':R):Prop:=
 ∃ s',e = N v/\ak w w'/\s.Go t.n wr s'/\mx t q s' h i/\ah w' (eL t s' m g*F)
section
variable {t:Pl} {q:Dk t.n} {s s':Ds} {T:Tr} {k m:Nat} {O:po} {w:R} {F:ai} {p:List UInt8}
def mx.rd (h:mx t q s T k) (r:s.Rd s'):mx t q s' T k:=⟨h.at_.rd r,h.ty,h.h4,h.hn⟩
def gN (t:Pl) (m:Nat) (O:po):ai:=pt t.f (il t (.map (W m)))*mp m (nr O)
def mW (E:mx t q s T k) (hB:s.B<=1000000) (h:FuncId) (y:Array L) (G:ai) (c:Int) (i u:ai)
  (lV:∀ (S:Array L) (w:R),(callFunc h S).run V w = .ok (.enter h S) w)
  (hj:∀ (x:Fx t.n) (v b:Nat) (g:R) (H:ai),ah g (vA x b v T k*(G*(gN t m O*H)))->Calls V h (#[ax v]++y) g (Qd c (vA x b v T k*(i*(gN t m O*H))) (vA x b v T k*(u*(gN t m O*H))) g))
  (b0:ah w (eL t s m O*(G*F))) :
  Calls V 39 #[ax t.f,.func (.func h) #[] y] w fun e w'=>
   ∃ s',e = N (Z Y c)/\ak w w'/\s.Rd s'/\ah w' (eL t s' m O*((if c=0 then i else u)*F)):=by
 have h1:ah w (pt t.f (il t (.map (W m)))*(oO t s*((G*mp m (nr O))*F))):=b0.to (by unfold eL;ac_rfl);refine (Sz t q E.h4 E.hn w s (gJ T) k (.map (W m)) h y (G*mp m (nr O)) F (fun c' m' A' k' M=>c'=c/\m'=0/\M=(if c=0 then i else u)*mp m (nr O)) E.at_ hB lV ?_ h1).mono ?_
 .intro x v b g H hC hw
  have h2:ah g (vA x b v T k*(G*(gN t m O*H))):=hw.to (by unfold vA gN;ac_rfl);refine (hj x v b g _ h2).mono ?_;rintro e w' ⟨d,⟨rfl,rfl,C⟩|⟨hc,rfl,C⟩⟩
  .exact ⟨0,gJ T,k,_,0,⟨rfl,rfl,rfl⟩,.inl ⟨rfl,rfl⟩,d,De0,(ah.IE (x:=x) 0 (C.to (by unfold vA gN;ac_rfl:_=eK x b (gJ T) k*(pt t.f (il t (.map (W m)))*(pt v (bV b t.n)*((i*mp m (nr O))*H)))))).to (by rw [if_pos rfl];ac_rfl)⟩
  .exact ⟨c,gJ T,k,_,0,⟨rfl,rfl,rfl⟩,.inr ⟨hc,rfl⟩,d,De0,(ah.IE (x:=x) 0 (C.to (by unfold vA gN;ac_rfl:_=eK x b (gJ T) k*(pt t.f (il t (.map (W m)))*(pt v (bV b t.n)*((u*mp m (nr O))*H)))))).to (by rw [if_neg hc];ac_rfl)⟩
 .rintro e w' ⟨c',m',A',k',M,s',⟨rfl,rfl,rfl⟩,rfl,d,hs,hr,-⟩
  exact ⟨s',rfl,d,hr rfl,hs.to (by unfold eL;ac_rfl)⟩
def Vy (z:Int × Int × Int):L:=.agg #[Z Y z.1,Z Y z.2.1,Z Y z.2.2]
def rW {w:R} {g:Array L} {rc:Nat} {z:Int × Int × Int} {e:L} {F:ai} (h4:g[4]?=W (ax rc)) (h5:g[5]?=W e) (h:ah w (fw rc z*F)) :
  (results Tryz.f9 g).run V w = .ok (Z' #[Vy z,e]) w:=by
 have i:=ah.cell h 0;have u:=ah.cell h 1;have y:=ah.cell h 2;have C:g.getD 4 undef=ax rc:=by simp [h4]
 have E:g.getD 5 undef=e:=by simp [h5]
 simp at i u y;simp [results,Tryz.results9,h4,h5,asAddr,ax,go_sem,i,u,y,Vy]
def wV (H:mx t q s T k) (hB:s.B<=1000000) (b0:ah w (eL t s m O*F)) :
  Calls V 9 #[ax t.f,K (str p)] w
   (Yt t q m false s T k O (Z' #[Vy (if (bL T p).1=0 then qM (T (bL T p).2) else (0,0,0)),Z Y (bL T p).1]) F w):=by
 refine aK fun e0 u=>?_;have hA:=(((b0.alloc (X #[K (str p)] 9 (0,0))).alloc (X #[Z Y 0,Z Y 0,Z Y 0] 34 (0,0))).alloc (X #[Z Y 0,Z Y 0,Z Y 0] 34 (0,0)))
 simp only [E4] at hA;have dA:=ae ((((ak.refl w).alloc (X #[K (str p)] 9 (0,0))).alloc (X #[Z Y 0,Z Y 0,Z Y 0] 34 (0,0))).alloc (X #[Z Y 0,Z Y 0,Z Y 0] 34 (0,0)))
 have hd:=ae fun (pc g:Nat) (F':ai) (w':R) (h':ah w' (eL t s m O*((aB pc p*fw g (0,0,0))*F')))=>
  mW H hB 40 #[ax pc,ax g] (aB pc p*fw g (0,0,0)) (bL T p).1 (aB pc p*fw g (qM (T (bL T p).2))) (aB pc p*fw g (0,0,0)) (enters func40 Kr0 rfl)
   (fun x v b w1 c0 hw=>(NZ (x:=x) (b:=b) (v:=v) (k:=k) (pc:=pc) (sc:=g) (F:=gN t m O*c0) (p:=p) H.ty (hw.u00)).mono fun d0 w' hq=>by simpa only [ar] using hq) h'
 have HF:=ae H;have HA:=ae hA;clear b0 hA hB H;generalize bL T p=pw at *;obtain ⟨c,id⟩:=pw;dsimp only at hd u
 go_in
 go_wp2_with fail
 generalize ((w.alloc (X #[K (str p)] 9 (0,0))).alloc (X #[Z Y 0,Z Y 0,Z Y 0] 34 (0,0))).alloc (X #[Z Y 0,Z Y 0,Z Y 0] 34 (0,0))=w1 at *;generalize w.heap.size+1+1=g at *;generalize w.heap.size+1=rc at *;generalize w.heap.size=pc at *;refine (hd.o pc g (fw rc (0,0,0)*F) _ (HA.o.to (by unfold aB fw;ac_rfl))).mono ?_;rintro d0 h ⟨s',rfl,d2,hr,i⟩;have E:=ae (dA.o.trans d2);have G:=ae hr;clear hd dA HA d2 hr
 by_cases h0:c=0
 .subst h0
  rw [if_pos rfl] at i u;generalize qM (T id)=z at *;obtain ⟨y,C,z3⟩:=z;have e:=i.to (by unfold fw;ac_rfl:_=pt rc (X #[Z Y 0,Z Y 0,Z Y 0] 34 (0,0))*(pt g (X #[Z Y y,Z Y C,Z Y z3] 34 (0,0))*(aB pc p*(eL t s' m O*F))));have s0:h.cell? ⟨g,0,U⟩=W (Z Y y):=e.aj.cell 0;have s1:h.cell? ⟨g,1,U⟩=W (Z Y C):=e.aj.cell 1;have s2:h.cell? ⟨g,2,U⟩=W (Z Y z3):=e.aj.cell 2;have r0:h.cell? ⟨rc,0,U⟩=W (Z Y 0):=e.cell 0;have r1:h.cell? ⟨rc,1,U⟩=W (Z Y 0):=e.cell 1;have r2:h.cell? ⟨rc,2,U⟩=W (Z Y 0):=e.cell 2;have f0:=e.frozen 0;have f1:=e.frozen 1;have f2:=e.frozen 2;have S:=ae (((e.setCell 0 (Z Y y)).setCell 1 (Z Y C)).setCell 2 (Z Y z3));have M:=ae (((E.o.setCell ⟨rc,0,U⟩ (Z Y y)).setCell ⟨rc,1,U⟩ (Z Y C)).setCell ⟨rc,2,U⟩ (Z Y z3));clear i e E
  go_wp2_with fail
  have h5:=S.o;simp only [D8,E5,E3] at h5;exact bodyPost_ret (rW (z:=(y,C,z3)) rfl rfl h5) rfl (u.o _ _ ⟨s',rfl,M.o,.inl G.o,HF.o.rd G.o,h5.right.right.right⟩)
 .rw [if_neg h0] at i u
  have e:=i.to (by unfold fw;ac_rfl:_=pt rc (X #[Z Y 0,Z Y 0,Z Y 0] 34 (0,0))*((aB pc p*fw g (0,0,0))*(eL t s' m O*F)));have r0:h.cell? ⟨rc,0,U⟩=W (Z Y 0):=e.cell 0;have r1:h.cell? ⟨rc,1,U⟩=W (Z Y 0):=e.cell 1;have r2:h.cell? ⟨rc,2,U⟩=W (Z Y 0):=e.cell 2;have f0:=e.frozen 0;have f1:=e.frozen 1;have f2:=e.frozen 2;have S:=ae (((e.setCell 0 (Z Y 0)).setCell 1 (Z Y 0)).setCell 2 (Z Y 0));have M:=ae (((E.o.setCell ⟨rc,0,U⟩ (Z Y 0)).setCell ⟨rc,1,U⟩ (Z Y 0)).setCell ⟨rc,2,U⟩ (Z Y 0));clear i e E
  go_wp2_with fail
  have h5:=S.o;simp only [D8,E5,E3] at h5;exact bodyPost_ret (rW (z:=(0,0,0)) rfl rfl h5) rfl (u.o _ _ ⟨s',rfl,M.o,.inl G.o,HF.o.rd G.o,h5.right.right⟩)
end
def VA (t:Pl) (q:Dk t.n) (m:Nat) (s:Ds) (O:po) (i:Int->Tr->Nat->Prop) (F:ai) (w:R) (e:Ending) (w':R):Prop:=
 ∃ c g h s',i c g h/\e = N (Z Y c)/\ak w w'/\((c≠0/\s.Rd s')\/(c=0/\mx t q s' g h/\s.Go t.n I s'))/\ah w' (eL t s' m O*F)
section
variable {t:Pl} {q:Dk t.n} {s s':Ds} {T:Tr} {k m:Nat} {O:po} {w:R} {F:ai} {p:List UInt8}
def xA (i:mx t q s T k) (hB:s.B<=1000000) (u:FuncId) (E:Array L) (G:ai) (C:Int->Tr->Nat->Prop)
  (lV:∀ (b0:Array L) (w:R),(callFunc u b0).run V w = .ok (.enter u b0) w)
  (hj:∀ (x:Fx t.n) (v b:Nat) (g:R) (H:ai),ah g (vA x b v T k*(G*(gN t m O*H)))->Calls V u (#[ax v]++E) g (Xp x b v C (G*(gN t m O*H)) g))
  (h:ah w (eL t s m O*(G*F))) :
  Calls V 39 #[ax t.f,.func (.func u) #[] E] w (VA t q m s O C (G*F) w):=by
 have M:ah w (pt t.f (il t (.map (W m)))*(oO t s*((G*mp m (nr O))*F))):=h.to (by unfold eL;ac_rfl);refine (Sz t q i.h4 i.hn w s (gJ T) k (.map (W m)) u E (G*mp m (nr O)) F (fun c _ A' y G'=>∃ e,C c e y/\(c=0->Tidy t.n e/\A'=gJ e)/\G'=G*mp m (nr O)) i.at_ hB lV ?_ M).mono ?_
 .intro x v b g H hC hw
  have h2:ah g (vA x b v T k*(G*(gN t m O*H))):=hw.to (by unfold vA gN;ac_rfl);refine (hj x v b g _ h2).mono ?_;rintro c0 w' ⟨c,e,y,j,S,hT,he,d,d0,h3⟩;exact ⟨c,gJ e,y,_,j,⟨e,S,fun h=>⟨hT h,rfl⟩,rfl⟩,he,d,d0,h3.to (by unfold vA gN;ac_rfl)⟩
 .rintro c0 w' ⟨c,j,A',y,G',s',⟨e,S,hT,rfl⟩,rfl,d,hs,-,hr⟩
  refine ⟨c,e,y,s',S,rfl,d,?_,hs.to (by unfold eL;ac_rfl)⟩;rcases hr with hr|⟨h0,ha,hg⟩
  .exact .inl hr
  .obtain ⟨M,rfl⟩:=hT h0
   exact .inr ⟨h0,⟨ha,M,i.h4,i.hn⟩,hg.imp id fun h=>⟨rfl,h⟩⟩
def Cu {kd:Int} (f0:kd=1\/kd=2) (g:mx t q s T k) (G:s.B<=1000000) (e0:gF T k p=0) (h:ah w (eL t s m O*F)) :
  Calls V 53 #[ax t.f,K (str p),Z Y kd] w (VA t q m s O (n7 t.n T k kd p) F w):=by
 refine aK fun g0 HQ=>?_;have i:=((h.alloc (X #[K (str p)] 9 (0,0))).alloc (X #[Z Y kd] 3 (0,0)))
 rw [E4] at i;have C:=ae (((ak.refl w).alloc (X #[K (str p)] 9 (0,0))).alloc (X #[Z Y kd] 3 (0,0)))
 have M:=ae fun (pc e:Nat) (w':R) (h':ah w' (eL t s m O*((aB pc p*aU e kd)*F)))=>
  xA g G 109 #[ax pc,ax e] (aB pc p*aU e kd) (n7 t.n T k kd p) (enters func109 Kr0 rfl)
   (fun x v b w1 b0 hw=>(Qa (x:=x) (b:=b) (v:=v) (k:=k) (pc:=pc) (kc:=e) (F:=gN t m O*b0) (p:=p) f0 g.hn g.ty e0 (hw.u00)).mono fun c0 w' hq=>by simpa only [ar] using hq) h'
 have u:=ae i;clear h i G g
 go_in
 go_wp2_with fail
 generalize (w.alloc (X #[K (str p)] 9 (0,0))).alloc (X #[Z Y kd] 3 (0,0))=w1 at *;generalize w.heap.size+1=e at *;generalize w.heap.size=pc at *;refine (M.o pc e _ (u.o.to (by unfold aB aU;ac_rfl))).mono ?_;rintro c0 w2 ⟨c,T',k',s',H,rfl,y,S,E⟩;have d0:=ae (HQ.o _ _ ⟨c,T',k',s',H,rfl,C.o.trans y,S,(E.t00 ((aB pc p*aU e kd)*(eL t s' m O*F))).right⟩);clear M C u y S H E
 exact Zz d0.o
def vz (y:mx t q s T k) (i:s.B<=1000000) (S:gF T k p=0) (h:ah w (eL t s m O*F)) :
  Calls V 15 #[ax t.f,K (str p)] w (VA t q m s O (n7 t.n T k 1 p) F w):=by
 refine aK fun b0 G=>?_;have C:=ae (Cu (p:=p) (kd:=1) (.inl rfl) y i S h);clear h y i
 go_in
 go_wp2_with fail
 apply C.o.mono;rintro c0 w2 ⟨c,H,k',s',u,rfl,e,E,g⟩;have M:=ae (G.o _ _ ⟨c,H,k',s',u,rfl,e,E,g⟩);clear C e E u g
 exact Zz M.o
def Kr (y:mx t q s T k) (i:s.B<=1000000) (S:gF T k p=0) (h:ah w (eL t s m O*F)) :
  Calls V 27 #[ax t.f,K (str p)] w (VA t q m s O (n7 t.n T k 2 p) F w):=by
 refine aK fun b0 G=>?_;have C:=ae (Cu (p:=p) (kd:=2) (.inr rfl) y i S h);clear h y i
 go_in
 go_wp2_with fail
 apply C.o.mono;rintro c0 w2 ⟨c,H,k',s',u,rfl,e,E,g⟩;have M:=ae (G.o _ _ ⟨c,H,k',s',u,rfl,e,E,g⟩);clear C e E u g
 exact Zz M.o
end
def LS (o:Nat × Nat):L:=.agg #[Z Y (o.1:Int),Z Y (o.2:Int)]
def B8 (O:po) (fd:Int):aA (nr O) fd=(aA O fd).map LS:=by
 induction O with
 | nil=>rfl
 | cons o O e=>
  rw [nr,List.map_cons,jZ,jZ]
  by_cases h:o.1=fd
  .rw [if_pos h,if_pos h];rfl
  .rw [if_neg h,if_neg h];exact e
section
variable {t:Pl} {q:Dk t.n} {s s':Ds} {T:Tr} {k m:Nat} {O:po} {w:R} {F:ai} {p:List UInt8} {fd:Int}
def yO (h:ah w (gN t m O*F)) (fd:Int):(Instr.lookup 104 (.map (W m)) (Z Y fd) I).run V w = .ok (Z' #[(((aA O fd).map LS).getD (LS (0,0))),.bool (aA O fd).isSome]) w:=by
 have e:ah w (mp m (nr O)*(pt t.f (il t (.map (W m)))*F)):=h.to (by unfold gN;ac_rfl);obtain ⟨o,i,g,-⟩:=e.qh;have:=eU (P:=V) (z:=LS (0,0)) underlying104 underlying3 Kr0 g i fd I;rw [B8] at this;rw [this,if_pos rfl,E2]
def mS (h:ah w (gN t m O*F)):Calls V 55 #[ax t.f,Z Y fd] w fun e w'=>e = N (.bool (aA O fd).isSome)/\ak w w'/\ah w' (gN t m O*F):=by
 refine aK fun H g=>?_;have C:=yO h fd
 obtain ⟨u,E⟩:∃ u,((aA O fd).map LS).getD (LS (0,0))=LS u:=by
  cases aA O fd with
  | none=>exact ⟨_,rfl⟩
  | some o=>exact ⟨o,rfl⟩
 rw [E] at C;have M:w.cell? ⟨t.f,1,U⟩=W (.map (W m)):=(h.to (by unfold gN;ac_rfl:_=pt t.f (il t (.map (W m)))*(mp m (nr O)*F))).cell 1;have y:=(h.alloc (X #[Z Y (u.1:Int),Z Y (u.2:Int)] 109 (0,0))).right;have i:=(ak.refl w).alloc (X #[Z Y (u.1:Int),Z Y (u.2:Int)] 109 (0,0));have G:=ae (g.o _ _ ⟨rfl,i,y⟩);unfold LS at C;clear h E y i g;generalize (aA O fd).isSome=S at *
 go_in
 exact Zz G.o
def gI (T:Tr) (O:po) (p:List UInt8):Int:=if (bL T p).1≠0 then (bL T p).1 else match T (bL T p).2 with
 | some (.file _)=>if 16<=O.length then 9 else 0
 | _=>8
def cq (t:Pl) (a:Nat):ai:=pt a (X #[ax t.f] 28 (0,0))
def Nj (a:Nat):ai:=ex fun z=>aU a z
def Q3 {a:Nat} {z:Int} (h:ah w (aU a z*F)):ah w (Nj a*F):=ah.aq.2 ⟨z,h⟩
def My {x:Fx t.n} {b v pc nc fc:Nat} (G:Tidy t.n T) (i0:ah w (vA x b v T k*((aB pc p*(aU nc 0*cq t fc))*(gN t m O*F)))) :
  Calls V 54 #[ax v,ax pc,ax nc,ax fc] w (Qd (gI T O p) (vA x b v T k*((aB pc p*(aU nc ((bL T p).2:Nat)*cq t fc))*(gN t m O*F))) (vA x b v T k*((aB pc p*(Nj nc*cq t fc))*(gN t m O*F))) w):=by
 refine aK fun h0 HQ=>?_;have C:=i0.t00 (vA x b v T k*(aB pc p*(aU nc 0*(cq t fc*(gN t m O*F)))));have cp:w.cell? ⟨pc,0,U⟩=W (K (str p)):=C.aj.cell 0;have e0:=ae C;have HT:=ae G
 have S:Hid (∀ c,c≠0->c=gI T O p->∀ (z:Int) (w':R),ak w w'->ah w' (vA x b v T k*(aB pc p*(aU nc z*(cq t fc*(gN t m O*F)))))->h0 (.panicked (pF c)) w'):=fun c y he z w' d h=>
  HQ.o _ _ ⟨d,.inr ⟨by rw [<- he];exact y,by rw [he],(Q3 (h.t00 (aU nc z*(vA x b v T k*(aB pc p*(cq t fc*(gN t m O*F))))))).u00⟩⟩
 clear i0 C
 cases h:aW p with
 | none=>
  have hk:=ae (yD (w:=w) h);have y:(1:Int)=gI T O p:=by unfold gI;rw [rU h];rfl
  clear G h
  go_in
  go_wp2_with fail
  apply hk.o.mono;rintro e w2 ⟨rfl,d2,h2⟩;exact ⟨rfl,S.o 1 De0 y 0 _ d2 (h2.cU e0.o)⟩
 | some g=>
  obtain ⟨D0,hl⟩:=dG h;have q0:=eR (T:=T) h;have hk:=ae (ei (w:=w) h);have hy:=fun C=>G.walk g G.root.choose_spec C;have HL:=ae hl;have c0:=ae q0;have HY:=ae hy;clear G h hl D0 q0 hy
  go_in
  go_wp2_with fail
  apply hk.o.mono;rintro e w2 ⟨u,rfl,d2,h2⟩;have i:=(h2.under e0.o).aj;have hw:=ae (gq HT.o HL.o jr i);have g0:=ae (show ∀ e w',Qd (gI T O p) (vA x b v T k*((aB pc p*(aU nc ((aV T 1 g).2:Nat)*cq t fc))*(gN t m O*F))) (vA x b v T k*((aB pc p*(Nj nc*cq t fc))*(gN t m O*F))) w e w'->h0 e w' by rw [<- c0.o];exact fun e w'=>HQ.o e w');have p0:gI T O p=if (aV T 1 g).1≠0 then (aV T 1 g).1 else match T (aV T 1 g).2 with|some (.file _)=>if 16<=O.length then 9 else 0|_=>8:=by unfold gI;rw [c0.o]
  have M:=ae p0;clear p0;generalize aV T 1 g=pw at *;obtain ⟨c,id⟩:=pw;dsimp only at hw HY g0 M;clear cp hk h2 i HL HQ c0
  go_wp2_with fail
  apply hw.o.mono;rintro e w3 ⟨he,d3,i⟩;clear hw;have D3:=ae (d2.trans d3);clear d2 d3;rcases he with ⟨rfl,rfl⟩|⟨y,rfl⟩
  .obtain ⟨r0,hy⟩:=HY.o rfl
   have h4:=i.to (by unfold aU;ac_rfl:_=pt nc (X #[Z Y 0] 3 (0,0))*(vA x b v T k*(aB pc p*(cq t fc*(gN t m O*(fu u g*F))))));have n0:w3.cell? ⟨nc,0,U⟩=W (Z Y 0):=h4.cell 0;have f0:=h4.frozen 0;have h5:=h4.setCell 0 (Z Y (id:Int));simp only [D8,E5] at h5;have n1:=h5.cell 0;have k0:=ae (oA hy h5.aj);have D5:=ae (D3.o.setCell ⟨nc,0,U⟩ (Z Y (id:Int)))
   have E:gI T O p=if r0.af.kd=1 then (if 16<=O.length then 9 else 0) else 8:=by
    rw [M.o,if_neg De0,hy]
    cases r0 with
    | file f=>have:=HT.o.files _ _ hy;show _=if f.kd=1 then _ else _;rw [if_pos this]
    | dir L0=>rfl
   have HC:=ae E;clear i h4 h5 hy HY M E D3
   go_wp2_with fail
   generalize w3.setCell ⟨nc,0,U⟩ (Z Y (id:Int))=w4 at *;apply k0.o.mono;rintro e w5 hq;rcases hq with ⟨b0,z,rfl,F0,G0,H0,K0,d5,h5⟩|⟨b0,rfl,d5,h5⟩
   .have h6:=h5.to (by unfold aU;ac_rfl:_=gN t m O*(vA x b v T k*(aU nc (id:Int)*(aB pc p*(cq t fc*(fu u g*F))))))
    have h7:ah w5 (mp m (nr O)*(pt t.f (il t (.map (W m)))*(vA x b v T k*(aU nc (id:Int)*(aB pc p*(cq t fc*(fu u g*F))))))):=h6.to (by unfold gN;ac_rfl);have m0:=h7.Wb (P:=V) underlying104 3;have o0:(nr O).length=O.length:=by unfold nr;exact B3 _
    rw [o0] at m0;have c1:w5.cell? ⟨t.f,1,U⟩=W (.map (W m)):=h7.aj.cell 1;have cf:w5.cell? ⟨fc,0,U⟩=W (ax t.f):=(h7.to (by unfold cq;ac_rfl:_=pt fc (X #[ax t.f] 28 (0,0))*(mp m (nr O)*(pt t.f (il t (.map (W m)))*(vA x b v T k*(aU nc (id:Int)*(aB pc p*(fu u g*F)))))))).cell 0;have H6:=ae h6;have D6:=ae (D5.o.trans d5);have E:gI T O p=if 16<=O.length then 9 else 0:=by rw [HC.o,if_pos b0]
    have H:=ae E;obtain ⟨ln,l0⟩:=Nm O.length
    rw [l0] at m0 H;clear h5 h6 h7 k0 n1 F0 G0 H0 K0 d5 D5 HC E l0 o0 b0
    by_cases d0:16<=ln
    .have s0:(16:Int)<=(ln:Int):=Om0
     have u0:=ae fun w=>eo w 9 De0
     go_wp2_with fail
     apply (u0.o _).mono;rintro e w7 ⟨rfl,rfl⟩;exact ⟨rfl,S.o 9 De0 (by rw [H.o,if_pos d0]) _ _ D6.o (H6.o.t00 (fu u g*(vA x b v T k*(aB pc p*(aU nc (id:Int)*(cq t fc*(gN t m O*F))))))).right⟩
    .have s0:(ln:Int)<16:=Om0
     have x0:=ae (g0.o _ _ ⟨D6.o,.inl ⟨by rw [H.o,if_neg d0],rfl,(H6.o.t00 (fu u g*(vA x b v T k*((aB pc p*(aU nc (id:Int)*cq t fc))*(gN t m O*F))))).right⟩⟩);clear d0 H
     exact Zy x0.o
   .exact ⟨rfl,S.o 8 De0 (by rw [HC.o,if_neg b0]) _ _ (D5.o.trans d5) (h5.to (by unfold aU;ac_rfl:_=fu u g*(vA x b v T k*(aB pc p*(aU nc (id:Int)*(cq t fc*(gN t m O*F))))))).right⟩
  .exact ⟨rfl,S.o _ y (by rw [M.o,if_pos y]) 0 _ D3.o (i.t00 (fu u g*(vA x b v T k*(aB pc p*(aU nc 0*(cq t fc*(gN t m O*F))))))).right⟩
end
end Go.Proofs.Cl
namespace Go.SL
open RowKit
def M0 {u:Type} (M:List (Int × u)) (x:Int) (h:(aA M x).isSome=I):(del M x).length+1<=M.length:=by
 have i:∃ p ∈ M,(!(p.1 == x))=false:=by
  unfold aA at h;rw [E2,List.find?_isSome] at h;obtain ⟨p,g,e⟩:=h;exact ⟨p,g,by simpa using e⟩
 obtain ⟨p,g,e⟩:=i;unfold del
 have:(M.filter fun p => !(p.1 == x)).length<M.length:=by
  rw [List.length_filter_lt_length_iff_exists];exact ⟨p,g,by rw [e];decide⟩
 omega
def yQ {e:Type}:∀ (m:Nat) (M:List (Int × e)),(∀ j:Nat,j<m->(aA M (j:Int)).isSome=I)->m<=M.length
 | 0,_,_=>Nat.zero_le _
 | m+1,M,h=>by
  have g:=M0 M (m:Int) (h m Om0);have i:=yQ m (del M (m:Int)) fun j u=>by rw [C2,if_neg Om0];exact h j Om0
  omega
end Go.SL
namespace Go.Proofs.Cl
open RowKit SL Proofs.Nn Proofs.Ba Proofs.Su Proofs.Fs
attribute [local go_sem] Oper.semAt_some
section
variable {t:Pl} {q:Dk t.n} {s s':Ds} {T:Tr} {k m:Nat} {O:po} {w:R} {F:ai} {p:List UInt8}
def _root_.Go.SL.lX (O:List (Int × (Nat × Nat))) (fd:Int) (o:Nat × Nat):List (Int × (Nat × Nat)):=Go.SL.dM O fd o
def G9 (O:po) (fd:Int) (o:Nat × Nat):Go.SL.dM (nr O) fd (LS o)=nr (lX O fd o):=by
 unfold lX Go.SL.dM;rw [B8,E2];unfold nr
 split
 .rw [List.map_map,List.map_map]
  apply List.map_congr_left;intro p _;simp only [Function.comp]
  split <;> rfl
 .rw [List.map_append];rfl
def tL (t:Pl) (q:Dk t.n) (m:Nat) (s:Ds) (T:Tr) (k:Nat) (O:po) (p:List UInt8) (F:ai) (w:R) (e:Ending) (w':R):Prop:=
 ∃ s',ak w w'/\s.Rd s'/\((gI T O p≠0/\e = N (Z' #[Z Y 0,Z Y (gI T O p)])/\ah w' (eL t s' m O*F)) \/
  (gI T O p=0/\∃ fd:Nat,(∀ j:Nat,j<fd->(aA O (j:Int)).isSome=I)/\aA O (fd:Int)=U/\e = N (Z' #[Z Y (fd:Int),Z Y 0])/\ah w' (eL t s' m (lX O fd ((bL T p).2,0))*F)))
def W8 (t:Pl) (m:Nat) (O:po) (e:ai) (w0:R) (u:L) (wr:R):Prop:=
 ∃ fd:Nat,u = Z Y (fd:Int)/\(∀ j:Nat,j<fd->(aA O (j:Int)).isSome=I)/\ak w0 wr/\ah wr (gN t m O*e)
def kE (hf:mx t q s T k) (hB:s.B<=1000000) (hO:O.length<=1000) (h:ah w (eL t s m O*F)) :
  Calls V 16 #[ax t.f,K (str p)] w (tL t q m s T k O p F w):=by
 refine aK fun s0 E=>?_;have hA:=(((h.alloc (X #[ax t.f] 28 (0,0))).alloc (X #[K (str p)] 9 (0,0))).alloc (X #[Z Y 0] 3 (0,0)))
 simp only [E4] at hA;have dA:=ae ((((ak.refl w).alloc (X #[ax t.f] 28 (0,0))).alloc (X #[K (str p)] 9 (0,0))).alloc (X #[Z Y 0] 3 (0,0)))
 have hd:=ae fun (pc nc e:Nat) (w':R) (h':ah w' (eL t s m O*((aB pc p*(aU nc 0*cq t e))*F)))=>
  mW hf hB 54 #[ax pc,ax nc,ax e] (aB pc p*(aU nc 0*cq t e)) (gI T O p) (aB pc p*(aU nc ((bL T p).2:Nat)*cq t e)) (aB pc p*(Nj nc*cq t e)) (enters func54 Kr0 rfl)
   (fun x v b w1 o0 C=>My (x:=x) (b:=b) (v:=v) (k:=k) (pc:=pc) (nc:=nc) (fc:=e) (F:=o0) (p:=p) hf.ty C) h'
 have HA:=ae hA;have k0:=ae (yQ (M:=O));have HO:=ae hO;clear h hA hB hf hO;unfold tL at E;generalize gI T O p=c at *;generalize (bL T p).2=id at *
 go_in
 go_wp2_with fail
 generalize ((w.alloc (X #[ax t.f] 28 (0,0))).alloc (X #[K (str p)] 9 (0,0))).alloc (X #[Z Y 0] 3 (0,0))=w1 at *;generalize w.heap.size=e at *;refine (hd.o (e+1) (e+1+1) e _ (HA.o.to (by unfold aB aU cq;ac_rfl))).mono ?_;rintro i0 w2 ⟨s',rfl,d2,hr,i⟩;have D2:=ae (dA.o.trans d2);clear hd dA d2 HA
 by_cases hc:c=0
 .subst hc
  rw [if_pos rfl] at i;have g:ah w2 (gN t m O*(oO t s'*((aB (e+1) p*(aU (e+1+1) (id:Nat)*cq t e))*F))):=i.to (by unfold eL gN;ac_rfl);generalize hZ:oO t s'*((aB (e+1) p*(aU (e+1+1) (id:Nat)*cq t e))*F)=M at g;have HZ:=ae hZ.symm;have H3:=ae g
  have lV:∀ wr,ah wr (gN t m O*M)->wr.cell? ⟨e,0,U⟩=W (ax t.f)/\wr.cell? ⟨e+1+1,0,U⟩=W (Z Y (id:Int))/\wr.cell? ⟨t.f,1,U⟩=W (.map (W m)):=fun wr C=>by
   have r0:=C;rw [HZ.o] at C
   exact ⟨(C.to (by unfold cq;ac_rfl:_=pt e (X #[ax t.f] 28 (0,0))*(gN t m O*(oO t s'*((aB (e+1) p*aU (e+1+1) (id:Nat))*F))))).cell 0,
    (C.to (by unfold aU;ac_rfl:_=pt (e+1+1) (X #[Z Y (id:Int)] 3 (0,0))*(gN t m O*(oO t s'*((aB (e+1) p*cq t e)*F))))).cell 0,
    (r0.to (by unfold gN;ac_rfl:_=pt t.f (il t (.map (W m)))*(mp m (nr O)*M))).cell 1⟩
  have HC:=ae lV;have h0:=ae fun (fd:Nat) (w':R) (d:ak w w') (ha:∀ j:Nat,j<fd->(aA O (j:Int)).isSome=I) (hn:aA O (fd:Int)=U) (hs:ah w' (eL t s' m (lX O (fd:Int) (id,0))*F))=>E.o _ _ ⟨s',d,hr,.inr ⟨rfl,fd,ha,hn,rfl,hs⟩⟩;clear i g hZ lV E
  go_wp2_with fail
  go_loopw [8] (fun f0 wr=>W8 t m O M w f0 wr) (fun f0 _=>O.length+1-(intOf f0).toNat)
  case atStart=>exact ⟨0,rfl,fun j hj=>absurd hj (Nat.not_lt_zero _),D2.o,H3.o⟩
  case round=>
   obtain ⟨fd,rfl,d0,n0,b0⟩:=hrel;have l0:=k0.o fd d0;have p0:fd<=1000:=by have:=HO.o;omega
   obtain ⟨e1,e2,e3⟩:=HC.o wr b0;have u:=ae (mS (fd:=(fd:Int)) b0);have HS:=ae b0;have c0:=ae d0;have D:=ae n0;have g0:=ae l0;have u0:(fd:Int)<=1000:=Om0
   clear b0 d0 n0 l0 p0 e2 e3
   cases y:(aA O (fd:Int)).isSome with
   | true=>
    rw [y] at u;have H:=ae y;clear y
    go_wp2_with fail
    apply u.o.mono;rintro i0 w3 ⟨rfl,G,g⟩;have D3:=ae (D.o.trans G);have H4:=ae g;clear u G g e1
    go_wp2_with fail
    go_roundw
    case rel=>exact ⟨fd+1,by go_num,fun j hj=>by
     rcases Nat.lt_succ_iff_lt_or_eq.1 hj with h|rfl
     .exact c0.o j h
     .exact H.o,D3.o,H4.o⟩
    case measure=>have:=g0.o;simp [intOf];omega
   | false=>
    rw [y] at u;have H:=ae y;clear y
    go_wp2_with fail
    apply u.o.mono;rintro i0 w3 ⟨rfl,G,g⟩;obtain ⟨f1,f2,f3⟩:=HC.o w3 g;obtain ⟨w4,q0,h4,d4,S⟩:=ah.mapUpdate (P:=V) underlying104 underlying3 (w:=w3.drew) (g.drew.to (by unfold gN;ac_rfl:_=mp m (nr O)*(pt t.f (il t (.map (W m)))*M))) (fd:Int) (LS (id,0));rw [G9] at h4
    have m0:aA O (fd:Int)=U:=by
     have:=H.o
     cases hk:aA O (fd:Int) with
     | none=>rfl
     | some o=>rw [hk] at this;cases this
    have e0:=ae (h0.o fd w4 ((D.o.trans G).drew.trans d4) c0.o m0 (by rw [HZ.o] at h4;exact (h4.to (by unfold eL;ac_rfl:_=(aB (e+1) p*(aU (e+1+1) (id:Nat)*cq t e))*(eL t s' m (lX O (fd:Int) (id,0))*F))).right));have g3:w4.cell? ⟨t.f,1,U⟩=W (.map (W m)):=(S.1 _).trans f3;have g2:w4.cell? ⟨e+1+1,0,U⟩=W (Z Y (id:Int)):=(S.1 _).trans f2;have g1:w4.cell? ⟨e,0,U⟩=W (ax t.f):=(S.1 _).trans f1;clear u G g h4 d4 HS c0 D g0 H m0 e1 HC H3 D2 HO k0 h0 S;simp only [LS,Int.ofNat_zero] at q0
    go_wp2_with fail
    go_region_held3 (fun w'=>w'.cell? ⟨e,0,U⟩=W (ax t.f)/\w'.cell? ⟨e+1+1,0,U⟩=W (Z Y (id:Int))/\w'.cell? ⟨t.f,1,U⟩=W (.map (W m))) (go_keep) (fail)
    exact Zz e0.o
 .have e0:=ae (E.o _ _ ⟨s',D2.o,hr,.inl ⟨hc,rfl,by rw [if_neg hc] at i;exact (i.t00 ((aB (e+1) p*(Nj (e+1+1)*cq t e))*(eL t s' m O*F))).right⟩⟩)
  clear i E hr
  exact Zz e0.o
end
section
variable {n:Nat} {x:Fx n} {b v oc qc pc tc id at' k:Nat} {T:Tr} {w:R} {F:ai} {o wh z:Int}
def pK (a:Nat) (p:Nat × Nat):ai:=pt a (X #[Z Y (p.1:Int),Z Y (p.2:Int)] 109 (0,0))
end
section
variable {t:Pl} {q:Dk t.n} {s s':Ds} {T:Tr} {k m:Nat} {O:po} {w:R} {F:ai} {fd o wh:Int}
def Ub {u:Nat × Nat} (hy:aA O fd=W u) (h:ah w (gN t m O*F)):(Instr.lookup 104 (.map (W m)) (Z Y fd) I).run V w = .ok (Z' #[.agg #[Z Y (u.1:Int),Z Y (u.2:Int)],.bool I]) w:=by
 have:=yO h fd;rw [hy] at this;exact this
def Ix (h:ah w (gN t m O*F)):w.cell? ⟨t.f,1,U⟩=W (.map (W m)):=(h.to (by unfold gN;ac_rfl:_=pt t.f (il t (.map (W m)))*(mp m (nr O)*F))).cell 1
def Ue (h:ah w (gN t m O*F)) (fd:Int) (u:Nat × Nat):∃ w',(Instr.mapUpdate 104 (.map (W m)) (Z Y fd) (.agg #[Z Y (u.1:Int),Z Y (u.2:Int)])).run V w = .ok () w'/\ah w' (gN t m (lX O fd u)*F)/\ak w w'/\jm w w':=by
 obtain ⟨y,i,h4,g,e⟩:=ah.mapUpdate (P:=V) underlying104 underlying3 (h.to (by unfold gN;ac_rfl:_=mp m (nr O)*(pt t.f (il t (.map (W m)))*F))) fd (LS u);rw [G9] at h4;exact ⟨y,i,h4.to (by unfold gN;ac_rfl),g,e⟩
end
def fF (a:Nat) (v:L):ai:=pt a (X #[v] 23 (0,0))
def Gk (a:Nat) (l:List UInt8):ai:=ex fun u=>bs 5 u l*fF a u
def Di {w:R} {a:Nat} {l:List UInt8} {F:ai}:ah w (Gk a l*F)↔∃ u,ah w (bs 5 u l*(fF a u*F)):=by
 unfold Gk;rw [ah.aq];exact exists_congr fun u=>by rw [ar]
end Go.Proofs.Cl
namespace Go.SL
def Tidy.file {n id:Nat} {T:Tr} {f f':AF} (h:Tidy n T) (y:T id=W (.file f)) (G:f'.kd=f.kd) (H:f'.lk=f.lk):Tidy n (fH T id (W (.file f'))):=by
 have M:=h.lt y
 have S:id≠1:=by
  rintro rfl;obtain ⟨C,E⟩:=h.root;rw [E] at y;cases y
 refine ⟨?_,fun i C u=>?_,fun i g u=>?_,fun i=>?_,fun i u=>?_⟩
 .obtain ⟨C,E⟩:=h.root
  exact ⟨C,by unfold fH;rw [if_neg (Ne.symm S)];exact E⟩
 .unfold fH at u
  split at u
  .cases u
  .exact h.te _ _ u
 .unfold fH at u
  split at u
  .cases u;rw [G];exact h.files _ _ y
  .exact h.files _ _ u
 .have:=rS M (T:=T) (W (.file f')) i
  rw [y] at this;have e:refs n (fH T id (W (.file f'))) i=refs n T i:=by simpa [fq] using this
  rw [e,h.ref];unfold fH
  split
  .rename_i e;subst e;rw [y];exact H.symm
  .rfl
 .unfold fH
  rw [if_neg (by omega)];exact h.out _ u
def kK (k at':Nat) (f:AF) (l:List UInt8):Int:=
 if 4096<l.length then 1 else if 122880<at'+l.length then 9 else if l=[] then 0 else if k+cF f.pr<cF (f.wr at' l).pr then 7 else 0
def ik (T:Tr) (k id at':Nat) (f:AF) (l:List UInt8) (c:Int) (e:Tr) (g:Nat):Prop:=
 c=kK k at' f l/\(c=0->(l=[]/\e=T/\g=k)\/(l≠[]/\e=fH T id (W (.file (f.wr at' l)))/\g=k+cF f.pr-cF (f.wr at' l).pr))
end Go.SL
namespace Go.Proofs.Cl
open RowKit SL Proofs.Nn Proofs.Ba Proofs.Su Proofs.Fs
attribute [local go_sem] Oper.semAt_some
section
variable {n:Nat} {x:Fx n} {b v nc pc id at' k:Nat} {T:Tr} {w:R} {F D:ai} {l:List UInt8} {va:Option Addr} {vc:Nat}
def I7 {f:AF} (ht:Tidy n T) (c0:kK k at' f l=0) (S:T id=W (.file f)) (C:at'<=122880) (g0:l.length<=1000000000) (E:l.length<=vc) (hD:∀ f0 P,ah f0 (D*P)->Rd f0 (Q va l.length vc) l) (h:ah w (vA x b v T k*((fF nc (Q va l.length vc)*pK pc (id,at'))*(D*F)))) :
  Calls V 67 #[ax v,ax nc,ax pc] w (Xp x b v (ik T k id at' f l) ((fF nc (Q va l.length vc)*pK pc (id,at'))*(D*F)) w):=by
 refine aK fun l0 y=>?_;have e0:=ae fun (c:Int) (hc:c≠0) (he:c=kK k at' f l)=>y.o (.panicked (pF c)) w ⟨c,T,k,0,⟨he,fun h=>absurd h hc⟩,fun h=>absurd h hc,.inr ⟨hc,rfl⟩,ak.refl w,De0,(ah.IE (x:=x) 0 (rA h |>.to (aE _ _ _))).to (by unfold vA;ac_rfl)⟩;have g:=h.to (by unfold vA pK fF;ac_rfl:_=eK x b (gJ T) k*(D*(pt v (bV b n)*(pt nc (X #[Q va l.length vc] 23 (0,0))*(pt pc (X #[Z Y (id:Int),Z Y (at':Int)] 109 (0,0))*F)))));have n0:w.cell? ⟨nc,0,U⟩=W (Q va l.length vc):=g.aC.cell 0;have p0:w.cell? ⟨pc,0,U⟩=W (Z Y (id:Int)):=g.aI.cell 0;have p1:w.cell? ⟨pc,1,U⟩=W (Z Y (at':Int)):=g.aI.cell 1;have h0:=ae yx;have q0:=ae CE;have hC:kK k at' f l=if 4096<l.length then 1 else if 122880<at'+l.length then 9 else if l=[] then 0 else if k+cF f.pr<cF (f.wr at' l).pr then 7 else 0:=rfl
 have u:=ae hC;have M:=ae ht;have HA:=ae C;have HL:=ae g0;have o0:(l.length:Int)<=1000000000:=Om0
 have m0:(at':Int)<=122880:=Om0
 clear hC ht C g0
 by_cases r1:(l.length:Int)<=4096
 .by_cases r2:(at':Int)+(l.length:Int)<=122880
  .by_cases r3:(l.length:Int)=0
   .have i:l=[]:=List.length_eq_zero_iff.1 Om0
    have b0:=ae (y.o (N (Z' #[])) w ⟨0,T,k,0,⟨by rw [u.o,if_neg Om0,if_neg Om0,if_pos i],fun _=>.inl ⟨i,rfl,rfl⟩⟩,fun _=>M.o,.inl ⟨rfl,rfl⟩,ak.refl w,De0,(ah.IE (x:=x) 0 (rA h |>.to (aE _ _ _))).to (by unfold vA;ac_rfl)⟩);have i0:=ae E;clear e0 u h g M HA HL y S E i;generalize l.length=ln at *
    go_in
    go_wp2_with fail
    apply (h0.o _).mono;rintro e w2 ⟨rfl,rfl⟩
    exact Zy b0.o
   .have i:l≠[]:=fun e=>r3 (by rw [e];rfl)
    have H1:=ae g;have G:w.cell? ⟨v,0,U⟩=W (ax b)/\w.cell? ⟨v,1,U⟩=W (Z Y (n:Int))/\w.cell? ⟨pc,0,U⟩=W (Z Y (id:Int))/\w.cell? ⟨pc,1,U⟩=W (Z Y (at':Int))/\w.cell? ⟨nc,0,U⟩=W (Q va l.length vc):=⟨g.au.cell 0,g.au.cell 1,p0,p1,n0⟩
    by_cases hk:k+cF f.pr<cF (f.wr at' l).pr
    .exact absurd ((by rw [u.o,if_neg Om0,if_neg Om0,if_neg i,if_pos hk]:kK k at' f l=7).symm.trans c0) De0
    .have d0:=ae fun (w':R) (d:ak w w') (hs:ah w' (vA (x.more (l.length/480+5)) b v (fH T id (W (.file (f.wr at' l)))) (k+cF f.pr-cF (f.wr at' l).pr)*((fF nc (Q va l.length vc)*pK pc (id,at'))*(D*F))))=>
      y.o (N (Z' #[])) w' ⟨0,_,_,l.length/480+5,⟨by rw [u.o,if_neg Om0,if_neg Om0,if_neg i,if_neg hk],fun _=>.inr ⟨i,rfl,rfl⟩⟩,fun _=>M.o.file (f':=f.wr at' l) S rfl rfl,.inl ⟨rfl,rfl⟩,d,Om0,hs⟩
     have C:=ae fun w' h'=>Iw (x:=x) (b:=b) (k:=k) (w:=w') (F:=pt v (bV b n)*(pt nc (X #[Q va l.length vc] 23 (0,0))*(pt pc (X #[Z Y (id:Int),Z Y (at':Int)] 109 (0,0))*F))) (rP S) at' hD E Om0 Om0 Om0 h';have Hk:=ae fun w=>dK w;have K0:=ae G;have i0:=ae E;clear e0 u h g M HA HL y S E i hk G hD;generalize l.length=ln at *
     go_in
     go_wp2_with fail
     apply (h0.o _).mono;rintro e w2 ⟨rfl,rfl⟩
     go_wp2_with fail
     have G:=K0.o
     go_region_held3 (fun w'=>w'.cell? ⟨v,0,U⟩=W (ax b)/\w'.cell? ⟨v,1,U⟩=W (Z Y (n:Int))/\w'.cell? ⟨pc,0,U⟩=W (Z Y (id:Int))/\w'.cell? ⟨pc,1,U⟩=W (Z Y (at':Int))/\w'.cell? ⟨nc,0,U⟩=W (Q va ln vc))
      (first|exact G|exact k1|go_keep)
      (first
       | (go_at_call 68;apply (C.o _ H1.o.drew).mono;rintro e H ⟨rfl,d4,h4⟩;have k1:H.cell? ⟨v,0,U⟩=W (ax b)/\H.cell? ⟨v,1,U⟩=W (Z Y (n:Int))/\H.cell? ⟨pc,0,U⟩=W (Z Y (id:Int))/\H.cell? ⟨pc,1,U⟩=W (Z Y (at':Int))/\H.cell? ⟨nc,0,U⟩=W (Q va ln vc):=⟨h4.au.cell 0,h4.au.cell 1,h4.aI.cell 0,h4.aI.cell 1,h4.aC.cell 0⟩)
       | (go_at_call 46;apply (Hk.o _).mono;rintro e w5 ⟨rfl,rfl⟩))
     rename_i k0;clear k0 G k1 K0 C H1;rw [show fH (gJ T) id (W (f.wr at' l))=gJ (fH T id (W (.file (f.wr at' l)))) from Af T id (.file (f.wr at' l))] at h4;have b0:=ae (d0.o _ ((ak.refl w).drew.trans d4) (h4.to (by unfold vA pK fF;ac_rfl)));clear h4 d4 d0
     exact Zy b0.o
  .exact absurd ((by rw [u.o,if_neg Om0,if_pos Om0]:kK k at' f l=9).symm.trans c0) De0
 .exact absurd ((by rw [u.o,if_pos Om0]:kK k at' f l=1).symm.trans c0) De0
end
section
variable {t:Pl} {q:Dk t.n} {s s':Ds} {T:Tr} {k m:Nat} {O:po} {w:R} {F D:ai} {fd z:Int} {l:List UInt8} {va:Option Addr} {vc:Nat}
def iu (t:Pl) (q:Dk t.n) (m:Nat) (s:Ds) (O:po) (fd:Int) (o:Nat × Nat) (i:Int->Tr->Nat->Prop) (F:ai) (w:R) (e:Ending) (w':R):Prop:=
 ∃ c g h s',i c g h/\e = N (Z Y c)/\ak w w'/\((c≠0/\s.Rd s'/\ah w' (eL t s' m O*F))\/(c=0/\mx t q s' g h/\s.Go t.n I s'/\ah w' (eL t s' m (lX O fd o)*F)))
def Ke {f:AF} {id at':Nat} (hf:mx t q s T k) (hB:s.B<=1000000) (r0:kK k at' f l=0) (hy:aA O fd=W (id,at')) (hT:T id=W (.file f)) (ha:at'<=122880) (k0:l.length<=1000000000) (i0:l.length<=vc) (hD:∀ g0 P,ah g0 (D*P)->Rd g0 (Q va l.length vc) l) (h:ah w (eL t s m O*(D*F))) :
  Calls V 28 #[ax t.f,Z Y fd,Q va l.length vc] w (iu t q m s O fd (id,at'+l.length) (ik T k id at' f l) (D*F) w):=by
 refine aK fun x0 u=>?_;have h1:ah w (gN t m O*(oO t s*(D*F))):=h.to (by unfold eL gN;ac_rfl);have hA:=h1.alloc (X #[Q va l.length vc] 23 (0,0));have dA:=(ak.refl w).alloc (X #[Q va l.length vc] 23 (0,0));generalize u0:w.alloc (X #[Q va l.length vc] 23 (0,0))=w1 at *;have b0:ah w1 (gN t m O*(fF w.heap.size (Q va l.length vc)*(oO t s*(D*F)))):=hA.to (by unfold fF;ac_rfl);have hl:=Ub hy b0;have c1:=Ix b0;have h0:=b0.alloc (X #[Z Y (id:Int),Z Y (at':Int)] 109 (0,0));have dB:=ae (dA.alloc (X #[Z Y (id:Int),Z Y (at':Int)] 109 (0,0)))
 have hd:=ae fun (nc pc:Nat) (w':R) (h':ah w' (eL t s m O*(((fF nc (Q va l.length vc)*pK pc (id,at'))*D)*F)))=>
  xA hf hB 67 #[ax nc,ax pc] ((fF nc (Q va l.length vc)*pK pc (id,at'))*D) (ik T k id at' f l) (enters func67 Kr0 rfl)
   (fun x v b w1 n0 G=>(I7 (x:=x) (b:=b) (v:=v) (k:=k) (nc:=nc) (pc:=pc) (F:=gN t m O*n0) hf.ty r0 hT ha k0 i0 hD (G.u00)).mono fun o0 w' hq=>by simpa only [ar] using hq) h'
 have HB:=ae h0;have p0:ik T k id at' f l 0 T k\/True:=.inr trivial
 have m0:∀ y H,ik T k id at' f l 0 y H->l.length<=4096:=fun y H g=>by
  have:=g.1;unfold kK at this
  by_cases h4:4096<l.length
  .rw [if_pos h4] at this;cases this
  .omega
 have c0:=ae m0;have G0:(at':Int)<=122880:=Om0
 unfold iu at u;clear h h1 hA b0 dA h0 hf hB hy hT m0 ha k0 hD p0 i0;generalize ik T k id at' f l=D0 at *
 go_in
 go_wp2_with fail
 generalize w1.alloc (X #[Z Y (id:Int),Z Y (at':Int)] 109 (0,0))=w2 at *;generalize w1.heap.size=pc at *;generalize w.heap.size=nc at *;refine (hd.o nc pc _ (HB.o.to (by unfold eL gN pK;ac_rfl))).mono ?_;rintro o0 w3 ⟨c,y,H,s',E,rfl,d3,g,C⟩;have M:=ae (dB.o.trans d3);clear hd dB d3 HB u0 hl c1
 by_cases hc:c=0
 .subst hc
  have l0:=c0.o _ _ E;have i:=g.elim (fun h=>absurd rfl h.1) (fun h=>h.2);have d0:=ae fun (w':R) (d:ak w w') (hs:ah w' (eL t s' m (lX O fd (id,at'+l.length))*(D*F)))=>u.o _ w' ⟨0,y,H,s',E,rfl,d,.inr ⟨rfl,i.1,i.2,hs⟩⟩;obtain ⟨z,hz⟩:=Nm l.length
  rw [hz] at C l0 d0 ⊢;have h4:=C.to (by unfold eL gN pK fF;ac_rfl:_=pt pc (X #[Z Y (id:Int),Z Y (at':Int)] 109 (0,0))*(pt nc (X #[Q va z vc] 23 (0,0))*(gN t m O*(D*(oO t s'*F)))));have t0:w3.cell? ⟨nc,0,U⟩=W (Q va z vc):=h4.aj.cell 0;have p1:w3.cell? ⟨pc,1,U⟩=W (Z Y (at':Int)):=h4.cell 1;have g1:=h4.frozen 1;have h5:=h4.setCell 1 (Z Y ((at'+z:Nat):Int));simp only [D8,E5,E3] at h5;have S:=ae (M.o.setCell ⟨pc,1,U⟩ (Z Y ((at'+z:Nat):Int)));have H5:=ae h5;have K0:(z:Int)<=4096:=Om0
  have f0:((at'+z:Nat):Int)=(at':Int)+(z:Int):=Om0
  rw [f0] at H5 S;have H0:0<=(z:Int):=Om0
  have F0:0<=(at':Int):=Om0
  clear C h4 h5 u M g i E c0 hz l0;generalize q0:at'+z=e at *
  go_wp2_with fail
  rw [<- f0] at H5 S ⊢;generalize w3.setCell ⟨pc,1,U⟩ (Z Y (e:Int))=w4 at *
  have lV:∀ (O:po) (wr:R),ah wr (gN t m O*(pt pc (X #[Z Y (id:Int),Z Y (e:Int)] 109 (0,0))*(pt nc (X #[Q va z vc] 23 (0,0))*(D*(oO t s'*F)))))->wr.cell? ⟨t.f,1,U⟩=W (.map (W m))/\wr.cell? ⟨pc,0,U⟩=W (Z Y (id:Int))/\wr.cell? ⟨pc,1,U⟩=W (Z Y (e:Int)):=fun O wr G=>
   ⟨Ix G,G.aj.cell 0,G.aj.cell 1⟩
  have h6:=H5.o.t00 (gN t m O*(pt pc (X #[Z Y (id:Int),Z Y (e:Int)] 109 (0,0))*(pt nc (X #[Q va z vc] 23 (0,0))*(D*(oO t s'*F)))));obtain ⟨e1,e2,e3⟩:=lV _ _ h6;obtain ⟨w5,s0,h7,d7,ce⟩:=Ue h6.drew fd (id,e);obtain ⟨f1,f2,f3⟩:=lV _ _ h7;have e0:=ae (d0.o w5 (S.o.drew.trans d7) ((h7.to (by unfold eL gN;ac_rfl:_=(pt pc (X #[Z Y (id:Int),Z Y (e:Int)] 109 (0,0))*pt nc (X #[Q va z vc] 23 (0,0)))*(eL t s' m (lX O fd (id,e))*(D*F)))).right));dsimp only at s0;clear lV h6 h7 d7 ce S H5 d0 t0 p1 g1 f0 q0
  go_region_held3 (fun w'=>w'.cell? ⟨t.f,1,U⟩=W (.map (W m))/\w'.cell? ⟨pc,0,U⟩=W (Z Y (id:Int))/\w'.cell? ⟨pc,1,U⟩=W (Z Y (e:Int))) (go_keep) (fail)
  exact Zz e0.o
 .have i:=g.elim (fun h=>h.2) (fun h=>absurd h.1 hc)
  have e0:=ae (u.o _ _ ⟨c,y,H,s',E,rfl,M.o,.inl ⟨hc,i,(C.t00 ((fF nc (Q va l.length vc)*pK pc (id,at'))*(eL t s' m O*(D*F)))).right⟩⟩);clear C u g i E M c0
  exact Zz e0.o
end
end Go.Proofs.Cl
namespace Go.SL
def iE (T:Tr) (p:List UInt8) (a c:Int):Int:=if 0<=a/\0<=c/\c<=4096 then (if (bL T p).1≠0 then (bL T p).1 else match T (bL T p).2 with
 | some (.file _)=>0
 | _=>8) else 1
def nY (T:Tr) (p:List UInt8) (a c:Int):List UInt8:=match T (bL T p).2 with
 | some (.file f)=>f.sub a.toNat c.toNat
 | _=>[]
end Go.SL
namespace Go.Proofs.Cl
open RowKit SL Proofs.Nn Proofs.Ba Proofs.Su Proofs.Fs
attribute [local go_sem] Oper.semAt_some
section
variable {n:Nat} {x:Fx n} {b v pc ac nc rc k:Nat} {T:Tr} {w:R} {F:ai} {p:List UInt8} {a c:Int}
def Mp (ht:Tidy n T) (b0:iE T p a c=0) (i0:ah w (vA x b v T k*(aB pc p*(aU ac a*(aU nc c*(fF rc (Q U 0 0)*F)))))) :
  Calls V 47 #[ax v,ax pc,ax ac,ax nc,ax rc] w (Qd (iE T p a c) (vA x b v T k*(aB pc p*(aU ac a*(aU nc c*(Gk rc (nY T p a c)*F))))) (vA x b v T k*(aB pc p*(aU ac a*(aU nc c*(fF rc (Q U 0 0)*F))))) w):=by
 refine aK fun u0 H=>?_;have cp:w.cell? ⟨pc,0,U⟩=W (K (str p)):=i0.aj.cell 0;have k0:=ae i0;have HT:=ae ht
 have r0:Hid (∀ e,e≠0->e=iE T p a c->∀ (w':R),ak w w'->ah w' (vA x b v T k*(aB pc p*(aU ac a*(aU nc c*(fF rc (Q U 0 0)*F)))))->u0 (.panicked (pF e)) w'):=fun e G S w' d i=>
  H.o _ _ ⟨d,.inr ⟨by rw [<- S];exact G,by rw [S],i⟩⟩
 have m0:=ae yx;have D0:=ae CE;clear i0
 cases i:aW p with
 | none=>
  exact absurd ((by unfold iE;rw [rU i];split <;> rfl:(1:Int)=iE T p a c).trans b0) De0
 | some h=>
  obtain ⟨F0,hl⟩:=dG i;have p0:=eR (T:=T) i;have hk:=ae (ei (w:=w) i);have hy:=fun h0=>ht.walk h ht.root.choose_spec h0;have HL:=ae hl;have f0:=ae p0;have HY:=ae hy;clear ht i hl F0 p0 hy
  by_cases hr:0<=a/\0<=c/\c<=4096
  .have C:=ae (show iE T p a c=if (aV T 1 h).1≠0 then (aV T 1 h).1 else match T (aV T 1 h).2 with|some (.file _)=>0|_=>8 by unfold iE;rw [if_pos hr,f0.o])
   have M:=ae (show nY T p a c=match T (aV T 1 h).2 with|some (.file f)=>f.sub a.toNat c.toNat|_=>[] by unfold nY;rw [f0.o]);obtain ⟨r1,r2,r3⟩:=hr
   go_in
   go_wp2_with fail
   apply hk.o.mono;rintro e w2 ⟨e0,rfl,d2,h2⟩;have g:=(h2.under k0.o)
   have a0:w2.cell? ⟨ac,0,U⟩=W (Z Y a):=g.aC.cell 0;have n0:w2.cell? ⟨nc,0,U⟩=W (Z Y c):=g.aI.cell 0;have hw:=ae (gq HT.o HL.o jr g.aj);generalize aV T 1 h=pw at *;obtain ⟨wc,id⟩:=pw;dsimp only at hw HY C M;clear cp hk h2 g HL f0
   go_wp2_with fail
   apply (m0.o _).mono;rintro e N0 ⟨rfl,rfl⟩;clear m0 D0
   go_wp2_with fail
   apply hw.o.mono;rintro e w3 ⟨S,d3,g⟩;clear hw;have D3:=ae (d2.trans d3);clear d2 d3;rcases S with ⟨rfl,rfl⟩|⟨G,rfl⟩
   .obtain ⟨q0,hy⟩:=HY.o rfl
    have l0:=ae (oA hy g);clear g HY a0 n0
    go_wp2_with fail
    apply l0.o.mono;rintro e w5 hq;rcases hq with ⟨c0,z,rfl,G0,H0,K0,L0,d5,h5⟩|⟨c0,rfl,d5,h5⟩
    .cases q0 with
     | dir s0=>exact absurd c0 (by show ¬ (2:Int)=1;decide)
     | file f=>
      rw [hy] at C M;have d0:iE T p a c=0:=C.o;have o0:nY T p a c=f.sub a.toNat c.toNat:=M.o;rw [d0,o0] at H;obtain ⟨u,rfl⟩:∃ m:Nat,a=(m:Int):=⟨a.toNat,Om0⟩
      obtain ⟨y,rfl⟩:∃ m:Nat,c=(m:Int):=⟨c.toNat,Om0⟩
      simp only [Int.toNat_natCast] at H;have hb:=ae (Fj hy u y h5);have E:=h5.t00 (aU ac (u:Int)*(aU nc (y:Int)*(vA x b v T k*(fu e0 h*(aB pc p*(fF rc (Q U 0 0)*F))))));have a0:w5.cell? ⟨ac,0,U⟩=W (Z Y (u:Int)):=E.cell 0;have n0:w5.cell? ⟨nc,0,U⟩=W (Z Y (y:Int)):=E.aj.cell 0;have D5:=ae (D3.o.trans d5);clear hy C M d0 o0 r0 h5 E l0 G0 H0 K0 L0 d5 D3 c0 k0;generalize f.sub u y=l at *
      go_wp2_with fail
      apply hb.o.mono;rintro e w6 ⟨u2,rfl,d6,E⟩;have g:=E.to (by unfold fF;ac_rfl:_=pt rc (X #[Q U 0 0] 23 (0,0))*(bs 5 u2 l*(vA x b v T k*(aB pc p*(aU ac (u:Int)*(aU nc (y:Int)*(fu e0 h*F)))))));have t0:w6.cell? ⟨rc,0,U⟩=W (Q U 0 0):=g.cell 0;have g0:=g.frozen 0;have h4:=g.setCell 0 u2;simp only [D8,E5] at h4;obtain ⟨ua,uc,rfl⟩:=az h4.aj;have h5:ah (w6.setCell ⟨rc,0,U⟩ (Q ua l.length uc)) (Gk rc l*(vA x b v T k*(aB pc p*(aU ac (u:Int)*(aU nc (y:Int)*(fu e0 h*F)))))):=Di.2 ⟨_,h4.to (by unfold fF;ac_rfl)⟩;have x0:=ae (H.o _ _ ⟨(D5.o.trans d6).setCell ⟨rc,0,U⟩ (Q ua l.length uc),.inl ⟨rfl,rfl,(h5.t00 (fu e0 h*(vA x b v T k*(aB pc p*(aU ac (u:Int)*(aU nc (y:Int)*(Gk rc l*F))))))).right⟩⟩);clear g h4 h5 E H hb d6 D5
      exact Zy x0.o
    .have d0:(8:Int)=iE T p a c:=by
      rw [C.o,if_neg De0,hy]
      cases q0 with
      | dir s0=>rfl
      | file f=>exact absurd (HT.o.files _ _ hy) c0
     exact absurd (d0.trans b0) De0
   .exact absurd ((by rw [C.o,if_pos G]:iE T p a c=_).symm.trans b0) G
  .have G:(1:Int)=iE T p a c:=by unfold iE;rw [if_neg hr]
   exact absurd (G.trans b0) De0
end
section
variable {t:Pl} {q:Dk t.n} {s s':Ds} {T:Tr} {k m:Nat} {O:po} {w:R} {F:ai} {p:List UInt8} {a c:Int}
def zQ (t:Pl) (m:Nat) (s:Ds) (O:po) (c:Int) (l:List UInt8) (F:ai) (w:R) (e:Ending) (w':R):Prop:=
 ∃ s',ak w w'/\s.Rd s'/\((c≠0/\e = N (Z' #[Q U 0 0,Z Y c])/\ah w' (eL t s' m O*F)) \/
  (c=0/\∃ u,e = N (Z' #[u,Z Y 0])/\ah w' (bs 5 u l*(eL t s' m O*F))))
def OZ (E:mx t q s T k) (hB:s.B<=1000000) (c0:iE T p a c=0) (b0:ah w (eL t s m O*F)) :
  Calls V 11 #[ax t.f,K (str p),Z Y a,Z Y c] w (zQ t m s O (iE T p a c) (nY T p a c) F w):=by
 refine aK fun f0 g=>?_;have y:=((((b0.alloc (X #[K (str p)] 9 (0,0))).alloc (X #[Z Y a] 3 (0,0))).alloc (X #[Z Y c] 3 (0,0))).alloc (X #[Q U 0 0] 23 (0,0)))
 simp only [E4] at y;have dA:=ae (((((ak.refl w).alloc (X #[K (str p)] 9 (0,0))).alloc (X #[Z Y a] 3 (0,0))).alloc (X #[Z Y c] 3 (0,0))).alloc (X #[Q U 0 0] 23 (0,0)))
 have hd:=ae fun (pc ac nc rc:Nat) (w':R) (h':ah w' (eL t s m O*((aB pc p*(aU ac a*(aU nc c*fF rc (Q U 0 0))))*F)))=>
  mW E hB 47 #[ax pc,ax ac,ax nc,ax rc] (aB pc p*(aU ac a*(aU nc c*fF rc (Q U 0 0)))) (iE T p a c) (aB pc p*(aU ac a*(aU nc c*Gk rc (nY T p a c)))) (aB pc p*(aU ac a*(aU nc c*fF rc (Q U 0 0)))) (enters func47 Kr0 rfl)
   (fun x v b w1 d0 hw=>(Mp (x:=x) (b:=b) (v:=v) (k:=k) (pc:=pc) (ac:=ac) (nc:=nc) (rc:=rc) (F:=gN t m O*d0) (p:=p) E.ty c0 (hw.u00)).mono fun e0 w' hq=>by simpa only [ar] using hq) h'
 have S:=ae y;clear c0;unfold zQ at g;clear b0 y hB E;generalize iE T p a c=cc at *;generalize nY T p a c=l at *
 go_in
 go_wp2_with fail
 generalize (((w.alloc (X #[K (str p)] 9 (0,0))).alloc (X #[Z Y a] 3 (0,0))).alloc (X #[Z Y c] 3 (0,0))).alloc (X #[Q U 0 0] 23 (0,0))=w1 at *;generalize w.heap.size=pc at *;refine (hd.o pc (pc+1) (pc+1+1) (pc+1+1+1) _ (S.o.to (by unfold aB aU fF;ac_rfl))).mono ?_;rintro e0 w2 ⟨s',rfl,d2,u,e⟩;have h:=ae (dA.o.trans d2);clear hd dA S d2
 by_cases C:cc=0
 .subst C
  rw [if_pos rfl] at e;obtain ⟨g0,i⟩:=(Di (a:=pc+1+1+1)).1 (e.t00 (Gk (pc+1+1+1) l*(eL t s' m O*(aB pc p*(aU (pc+1) a*(aU (pc+1+1) c*F))))));obtain ⟨H,M,rfl⟩:=az i;have t0:w2.cell? ⟨pc+1+1+1,0,U⟩=W (Q H l.length M):=i.aj.cell 0;have G:=ae (g.o _ _ ⟨s',h.o,u,.inr ⟨rfl,_,rfl,(i.t00 ((fF (pc+1+1+1) (Q H l.length M)*(aB pc p*(aU (pc+1) a*aU (pc+1+1) c)))*(bs 5 (Q H l.length M) l*(eL t s' m O*F)))).right⟩⟩);clear e i g u h
  exact Zz G.o
 .rw [if_neg C] at e
  have G:=ae (g.o _ _ ⟨s',h.o,u,.inl ⟨C,rfl,(e.t00 ((aB pc p*(aU (pc+1) a*(aU (pc+1+1) c*fF (pc+1+1+1) (Q U 0 0))))*(eL t s' m O*F))).right⟩⟩);clear e g u h
  exact Zz G.o
end
end Go.Proofs.Cl

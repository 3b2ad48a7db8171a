/- Steps. -/
import Derived.Test.YtebfaobobccikaaGreatDoorSP40
import Derived.Test.YtebfaobobccikaaGreatDoorSP30
set_option linter.all false
set_option maxRecDepth 99999
set_option maxHeartbeats 0
open Go.SL
open Go.Value renaming int->Z,slice->R,string->L,tuple->K
open Go.Obj renaming cells->Y
open Go.Ending renaming returned->Q
open Go renaming World->U,Value->N
open Go.Proofs.Tryz renaming prog->V
open Option renaming some->X,none->W
open Bool renaming true->I
open Go.Proofs.Tryz
open List renaming setIfInBounds_toArray->A1,set_cons_zero->E1,length_map->M1,set_cons_succ->N1,getElem?_eq_getElem->S1
open Go.World renaming size_alloc->K1
open Prod renaming fst->L1
open Int renaming toNat_natCast->O1
open Option renaming isSome_map->R1
namespace Go.Proofs.Cl
open RowKit SL Proofs.Nn Proofs.Ba Proofs.Su Proofs.Fs
theorem Ah (s j k:Nat) (w:U) (h:w.cell? ⟨s,0,W⟩=X (az j)):(method (k+1) 86 (az s) "Read").run V w = .ok (316,az j) w:=by
 have e:(method (k+1) 86 (az s) "Read").run V w=(do let v <- loadVar 122 ⟨s,0,W⟩; pure (316,v):Sem (FuncId×N)).run V w:=by kernel_rfl
 rw [e];simp [go_sem,h]
theorem Fu (e:Array N) (w:U):(callFunc 316 e).run V w = .ok (.enter 316 e) w:=by kernel_rfl
structure Pl where
 f:Nat
 s:Nat
 j:Nat
 d:Nat
 n:Nat
 P:Nat
def zF (t:Pl) (Sd:Hp):Cx (Jr × aC):=⟨86,az t.s,316,az t.j,fun w=>w.cell? ⟨t.s,0,W⟩=X (az t.j),RU,Qc t.s t.j t.d t.n t.P Sd⟩
section
variable {w w':U} {s j d n P:Nat} {Sd:Hp} {x:Jr × aC} {F:ai}
theorem nV (h:ag w (Qc s j d n P Sd x*F)):(x.1.Ok/\x.2.Ok)/\ag w (eX s j d n P x.1*(aV Sd d x.2*(ak Sd*F))):=by
 obtain ⟨e,g⟩:=ag.aq.1 (h.to (ax _ _ _));exact ⟨e,g.to (by ac_rfl)⟩
theorem Be (e:x.1.Ok) (g:x.2.Ok) (h:ag w (eX s j d n P x.1*(aV Sd d x.2*(ak Sd*F)))):ag w (Qc s j d n P Sd x*F):=
 (ag.aq.2 ⟨⟨e,g⟩,h.to (by ac_rfl:_=(eX s j d n P x.1*(aV Sd d x.2*ak Sd))*F)⟩:ag w (fact _*_)).to (ax _ _ _).symm
theorem ti {J:Jr} (h:ag w (eX s j d n P J*F)):w.cell? ⟨s,0,W⟩=X (az j):=by
 have e:ag w (pt s (Y #[az j,Z .i64 (n:Int),Z .i64 (P:Int)] 124 (0,0))*(qz j d J*F)):=h.to (by unfold eX;ac_rfl);exact e.cell 0
end
theorem MV (t:Pl) (Sd:Hp):(zF t Sd).Ok:=by
 refine ⟨fun x F w h=>?_,fun k w h=>Ah t.s t.j k w h,fun y w=>Fu y w,fun x id F w h=>?_,fun x id _=>?_⟩
 .exact ti (nV (F:=F) h).2
 .obtain ⟨J,D⟩:=x
  obtain ⟨⟨g,i⟩,E⟩:=nV (F:=F) h;have g:=g;have i:=i;have:=Ka w Sd t.j t.d J D id (pt t.s (Y #[az t.j,Z .i64 (t.n:Int),Z .i64 (t.P:Int)] 124 (0,0))*F) (E.to (by unfold eX;ac_rfl)) g i;refine this.mono ?_;rintro e w' ⟨u,rfl,h4,C⟩;obtain ⟨H,M⟩:=KL g i id;refine ⟨u,rfl,?_,C⟩;have G:ag w' (eX t.s t.j t.d t.n t.P (J.read D id).2.1*(aV Sd t.d (J.read D id).2.2*(ak Sd*(qv 5 (J.read D id).1 u*F)))):=h4.to (by unfold eX;ac_rfl);exact (Be (x:=((J.read D id).2.1,(J.read D id).2.2)) H M G).to (by ac_rfl:_=qv 5 (J.read D id).1 u*(Qc t.s t.j t.d t.n t.P Sd ((J.read D id).2.1,(J.read D id).2.2)*F))
 .show (Jr.read x.1 x.2 id).1.2.length<=1000000
  have:=qT x.1 x.2 id;omega
abbrev xD:Hp:=fun _=>W
def iD (t:Pl) (e:N):Obj:=Y #[az t.s,e] 91 (0,0)
theorem xW {P:Program} {w:U} {t h e:TypeId} (g:P.underlying t=X (.map h e)) (ty:TypeId) :
  (Builtin.len_ #[t] ty #[.map W]).run P w = .ok (Z .i64 0) w:=by
 simp [Builtin.len_,run_underlying g,goInt]
theorem tP {w:U} {S:Hp} {b:Nat} {rd:N} {i:Int} {g D:CB} {F:ai} (h:ag w (aB 176 5 S b rd i g D*(ak S*F))):(g.map L1).Nodup:=by
 obtain ⟨x,y⟩:=h.eI;obtain ⟨u,E,C,_⟩:=(y.to (by ac_rfl:_=aT 5 S x.wv x.ws g*(ak S*(pt b (Y (x.cells rd i) 176 (0,0))*(aT 5 S x.tv x.ts D*(fL x.av*F)))))).mq;have e:(g.map L1).Perm (u.map L1):=by grind
 exact e.nodup_iff.2 C
theorem QG (w:U) (S:Hp) (b:Nat) (rd:N) (y:Int) (g D:CB) (F:ai)
  (h:ag w (aB 176 5 S b rd y g D*(ak S*F))) :
  Calls V 76 #[.pointer (X ⟨b,0,W⟩)] w fun e w'=>e = Q (Z .i64 g.length)/\w=w':=by
 obtain ⟨x,E⟩:=h.eI;have b0:w.cell? ⟨b,2,W⟩=X x.wv:=E.cell 2
 have c0:(Builtin.len_ #[172] 3 #[x.wv]).run V w = .ok (Z .i64 g.length) w:=by
  obtain ⟨u,z1,z2,z3,M,_⟩:=(E.to (by ac_rfl:_=aT 5 S x.wv x.ws g*(ak S*(pt b (Y (x.cells rd y) 176 (0,0))*(aT 5 S x.tv x.ts D*(fL x.av*F)))))).mq;have C:g.length=u.length:=by have:=z1.length_eq;simpa using this.symm
  rcases M with ⟨i,hz⟩|⟨m,o,i,G,H⟩
  .have:u=[]:=by simpa using hz
   rw [C,i,this,xW underlying172];rfl
  .rw [C,i,CX G H underlying172];simp
 go_enter func76,ntmps76
 go_wp2
 go_ret
 exact ⟨rfl,rfl⟩
theorem C6 {P:Program} {i:Func} {C:Ending->U->Prop} {t G:Array N} (he:∀ w,(results i t).run P w=(results i G).run P w):∀ (g:List Deferred) (u:FrameMode) (w:U),Leaves P i t C g u w->Leaves P i G C g u w:=by
 intro g
 induction g with
 | nil=>
  intro u w h
  cases u with
  | run=>exact h
  | returning=>
   obtain ⟨v,hr,hR⟩:=h;exact ⟨v,(he w).symm.trans hr,hR⟩
  | panicking c=>exact h
 | cons d g E=>
  intro u w h;obtain ⟨d0,S,M,f,H,e0,c0,b0⟩:=h;refine ⟨d0,S,M,f,H,e0,c0,b0.mono fun e u' w' y=>?_⟩
  cases e with
  | returned v=>exact E _ _ y
  | panicked c=>exact E _ _ y
  | outgrown=>exact y
theorem Pb {e:Ending->U->Prop} {c:List PanicEntry} {a:Act} {w:U} {k:Nat} {v:N} (g:k≠4) (h:bodyPostD V Tryz.f29 e (.panic c) (a.put (X k) v) w):bodyPostD V Tryz.f29 e (.panic c) a w:=by
 refine C6 (fun w=>?_) _ _ _ h;simp [results,Tryz.results29,Act.put,Array.getElem?_setIfInBounds,g]
theorem Ep {e:Array Oper} {C:Region.Mode} {S:U->Prop} {u:Exit->Act->U->Prop} (i:Nat) {g:Oper} {v:N} {E:Nat} {y:Array Bool} {a:Act} {w:U} {q:Prop} (h:q)
  (hi:e[i]?=X g:=by rfl) (hs:Region.noSelect e=I:=by kernel_rfl) (hf:Region.free C e y i=I:=by kernel_rfl) (hr:(Region.ready C e y).contains i=I:=by kernel_rfl)
  (G:∀ c a w,u (.panic c) (a.put g.dst v) w->u (.panic c) a w:=by exact fun _ _ _ h=>Pb (by decide) h) (hw:Region.wanted g (yielded e a.tmps)=I:=by kernel_rfl)
  (hv:∀ w,S w->(execOp a.eval g).run V w = .ok (.value v) w:=by intro w M;(try dsimp only at M);go_simp;try with_reducible rfl) (H:S w:=by assumption)
  (hk:q->wpAnyH V C e u S E (y.setIfInBounds i I) (a.put g.dst v) w:=by intro hx;(try simp only [Go.SL.tz,Go.Act.put]);exact hx):wpAnyH V C e u S (E+1) y a w:=
 wpAnyH_take hi hs hf hr G (.inl ⟨hw,hv⟩) H (hk h)
theorem JR {n:Int} {e:List Wr} (h:Batch n (cu e)):IV n e:=by
 have E:(cu e).length=e.length:=by unfold cu;rw [M1]
 refine ⟨by rw [<- E];exact h.n0,by rw [<- E];exact h.n1,fun k y=>?_⟩;have C:k<(cu e).length:=by omega
 have G:=List.getElem_mem C;have g:(e.getD k Wr.nil).1=(cu e)[k].1:=by rw [List.getD,S1 y];simp [cu]
 have S:(e.getD k Wr.nil).2.2=(cu e)[k].2:=by rw [List.getD,S1 y];simp [cu]
 have u:=h.id _ G;refine ⟨by rw [g];exact u.1,by rw [g];exact u.2,by rw [S];exact h.SI _ G,?_⟩;rw [g];intro hx;obtain ⟨z,M,b0⟩:=List.mem_map.1 hx;rw [List.mem_take_iff_getElem] at M;obtain ⟨i,hi,rfl⟩:=M;have e3:(e[i]'(by omega)).1=((cu e)[i]'(by omega)).1:=by simp [cu]
 have H:=h.nd;rw [List.Nodup,List.pairwise_iff_getElem] at H;have:=H i k (by rw [M1];omega) (by rw [M1];exact C) (by omega);apply this;rw [List.getElem_map,List.getElem_map,<- b0,e3]
def Wv (t:Pl) (J:Jr) (D:aC) (H:ai) (w:U) (e:Ending) (w':U):Prop:=
 ∃ S,e = Q (Z .i64 0)/\aj w w'/\ag w' (eX t.s t.j t.d t.n t.P J*(aV S t.d D*(ak S*H)))
theorem Df (t:Pl) (w:U) (S g:Hp) (v:N) (h:CB) (J u:Jr) (D i:aC) (has:Has) (H:ai) (C:fY J D has) (M:Batch J.n h) (d0:fg J D I h=(0,u,i))
  (c0:ag w (gW 188 5 g v h*(eX t.s t.j t.d t.n t.P J*(aV S t.d D*(ak S*(ak g*H)))))) :
  Calls V 77 #[az t.j,v] w (Wv t u i H w):=by
 obtain ⟨e,E,hV,h1⟩:=c0.mU;have G:e.length=h.length:=by rw [<- E,M1]
 obtain ⟨h2,e1,e2⟩:=ag.BS (h1.to (by ac_rfl:_=ak S*(ak g*(aV S t.d D*(eX t.s t.j t.d t.n t.P J*(sl 188 2 v h.length (ri e)*H))))));have h3:=(h2.to (by ac_rfl:_=aV S t.d D*(ak (join S g)*(eX t.s t.j t.d t.n t.P J*(sl 188 2 v h.length (ri e)*H))))).fO (yp e1)
 have h4:ag w (qz t.j t.d J*(aV (join S g) t.d D*(ak (join S g)*(sl 188 2 v e.length (bT e)*(pt t.s (Y #[az t.j,Z .i64 (t.n:Int),Z .i64 (t.P:Int)] 124 (0,0))*H))))):=by
  rw [G];exact h3.to (by unfold eX;show _*(_*(_*(sl _ 2 v _ (ri e)*H)))=_*(_*(_*(sl _ 2 v _ (ri e)*_)));ac_rfl)
 have hp:cu e=h:=E
 have hr:Reads (join S g) v e (sl 188 2 v e.length (bT e)*(pt t.s (Y #[az t.j,Z .i64 (t.n:Int),Z .i64 (t.P:Int)] 124 (0,0))*H)):=by
  intro S' b0 w' hE hs;refine ⟨yi (hs.to (by ac_rfl:_=sl 188 2 v e.length (bT e)*(b0*(ak S'*(pt t.s (Y #[az t.j,Z .i64 (t.n:Int),Z .i64 (t.P:Int)] 124 (0,0))*H))))),fun z hz=>?_⟩;exact ((hV z hz).mono (e2.trans hE)).rd hs.ah
 have:=A9 w (join S g) t.j t.d J D _ v e h4 C.ok C.nums C.Kw (by rw [G];have:=M.n1;omega) hr I ⟨fun _=>JR (by rw [hp];exact M),fun _=>rfl⟩;rw [hp,d0] at this;refine this.mono ?_;rintro e0 w' ⟨y,-,rfl,h5,d5⟩;refine ⟨y,rfl,d5,?_⟩;exact (h5.to (by unfold eX;ac_rfl:_=sl 188 2 v e.length (bT e)*(eX t.s t.j t.d t.n t.P u*(aV y t.d i*(ak y*H))))).right
def UJ (n P:Nat) (w:U) (e:Ending) (w':U):Prop:=e = Q (.agg #[Z .i64 (n:Int),Z .i64 (P:Int)])/\ag w' (whole w)/\aj w w'
def Wd (t:Pl) (S:Hp) (u:N) (v b:Nat) (i:Int->gZ (Jr × aC)->ai->Prop) (H:ai) (y:U) (e:Ending) (w':U):Prop:=
 ∃ c h M g,i c M g/\((c=0/\e = Q (K #[]))\/(c≠0/\e = .panicked (lG c)))/\aj y w' /\
  ag w' (pt t.f (iD t u)*(pt v (bN b t.n)*(cI (zF t S) h b M*(ak h*(g*H)))))
def Ty (t:Pl) (S:Hp) (g:N) (J:Jr) (D:aC) (u:FuncId) (i:Array N) (G:ai) (h:Int->gZ (Jr × aC)->ai->Prop):Prop:=
 ∀ (v b:Nat) (e:U) (H:ai),ag e (pt t.f (iD t g)*(pt v (bN b t.n)*(cI (zF t S) xD b ⟨0,[],[],(J,D)⟩*(ak xD*(G*H)))))->Calls V u (#[az v]++i) e (Wd t S g v b h H e)
def WW (t:Pl) (i:Int->gZ (Jr × aC)->ai->Prop):Prop:=
 ∀ c M g,i c M g->c=0->(M.W.map L1).Nodup->M.W≠[]->∃ has h e,fY M.s.1 M.s.2 has/\M.s.1.n=(t.n:Int)/\Batch (t.n:Int) (iF M.W)/\fg M.s.1 M.s.2 I (iF M.W)=(0,h,e)
def Xb (t:Pl) (C:N) (y:Int->gZ (Jr × aC)->ai->Prop) (F:ai) (w:U) (e:Ending) (w':U):Prop:=
 ∃ c M i u h g,y c M i/\(M.W.map L1).Nodup/\e = Q (Z .i64 c)/\aj w w' /\
  ag w' (pt t.f (iD t C)*(eX t.s t.j t.d t.n t.P h*(aV u t.d g*(ak u*(i*F))))) /\
  (c=0->M.W≠[]->fg M.s.1 M.s.2 I (iF M.W)=(0,h,g))/\((c≠0\/M.W=[])->M.s=(h,g))
theorem Ff (t:Pl) (w:U) (S:Hp) (J:Jr) (D:aC) (g:N) (jf:FuncId) (H0:Array N) (g0 F:ai) (Pj:Int->gZ (Jr × aC)->ai->Prop) (hJ:J.Ok) (hD:D.Ok)
  (jX:∀ (G0:Array N) (w:U),(callFunc jf G0).run V w = .ok (.enter jf G0) w) (hj:Ty t S g J D jf H0 g0 Pj) (hm:WW t Pj)
  (h:ag w (pt t.f (iD t g)*(eX t.s t.j t.d t.n t.P J*(aV S t.d D*(ak S*(g0*F)))))) :
  Calls V 29 #[az t.f,.func (.func jf) #[] H0] w (Xb t g Pj F w):=by
 refine aH fun l1 HQ=>?_;have Hj:=ae hj;have Hm:=ae hm;have HJ:=ae hJ;have HD:=ae hD;have cf:w.cell? ⟨t.f,0,W⟩=X (az t.s):=h.cell 0;have g1:t.f<w.heap.size:=h.lt;clear hj hm hJ hD
 go_enter_defers func29,ntmps29
 have H1:=h.alloc (Y #[Z .i64 0] 28 (0,0));have D1:=(aj.refl w).alloc (Y #[Z .i64 0] 28 (0,0))
 go_wp2_with fail
 generalize w.alloc (Y #[Z .i64 0] 28 (0,0))=w3 at *;generalize w.heap.size=u at *;obtain ⟨o0,i0⟩:∃ b0,b0=pt u (Y #[Z .i64 0] 28 (0,0))*(pt t.f (iD t g)*(eX t.s t.j t.d t.n t.P J*(aV S t.d D*(ak S*(g0*F))))):=⟨_,rfl⟩
 have hF:∀ w' b0,ag w' (b0*o0)->w'.cell? ⟨t.f,0,W⟩=X (az t.s):=fun w' b0 hx=>by
  rw [i0] at hx;exact hx.au.cell 0
 have hG:∀ w' b0,ag w' (b0*o0)->Calls V 75 #[az t.s] w' (UJ t.n t.P w'):=fun w' b0 hx=>by
  rw [i0] at hx;exact KH w' t.s t.j t.d t.n t.P J _ (hx.to (by ac_rfl:_=eX t.s t.j t.d t.n t.P J*(b0*(pt u (Y #[Z .i64 0] 28 (0,0))*(pt t.f (iD t g)*(aV S t.d D*(ak S*(g0*F))))))))
 rw [<- i0] at H1;have c0:=hF w3 emp (H1.to (cW _).symm);have HF:=ae hF;have HG:=ae hG;have n1:∀ w,(Instr.field 118 (.agg #[Z .i64 (t.n:Int),Z .i64 (t.P:Int)]) 0).run V w = .ok (Z .i64 (t.n:Int)) w:=fun w=>by kernel_rfl
 have H3:=ae H1;have D3:=ae D1;have HB:=ae i0;clear H1 D1 hF hG i0 cf h g1
 go_cut [5] from 17 to 33 (fun u5 wx=>∃ v b,u5=az v/\ag wx (pt v (bN b t.n)*(aB 176 5 xD b (.iface 86 (az t.s)) 0 [] []*o0))/\aj w wx)
 case first=>
  refine wp_region_held_drew (S:=(fun w'=>w'.cell? ⟨t.f,0,W⟩=X (az t.s))) (by kernel_rfl) ?_ (fun l0=>?_)
  .first|exact c0|exact c1|exact c2|exact bV _ _ _ _ c1|exact bV _ _ _ _ c2
  refine Ep 0 ?_;refine Ep 1 ?_;refine Ep 2 ?_;refine Ep 3 ?_;refine Ep 4 ?_;refine Ep 5 ?_;refine Ep 7 ?_;refine Ep 8 ?_;refine Ep 9 ?_;refine Ep 10 ?_;refine Ep 11 ?_;refine wpAnyH_ready (rs:=[6]) (by kernel_rfl) (by simp) ?_;refine AllReadyH.cons rfl (fun h0 hK=>?_) AllReadyH.nil
  go_simp
  go_wp2_with (go_at_call 74;go_loud ((with_reducible refine (Ba.zU _ 86 (az t.s)).mono ?_);rintro d0 M ⟨b,rfl,h4,d4⟩;have hn:=(h4 xD).under H3.out.drew;have c1:M.cell? ⟨t.f,0,W⟩=X (az t.s):=HF.out M _ hn))
  refine hK.out _ _ ?_ (fun l0=>?_)
  .first|exact c0|exact c1|exact c2|exact bV _ _ _ _ c1|exact bV _ _ _ _ c2
  clear hK h0;refine wpAnyH_ready (rs:=[12]) (by kernel_rfl) (by simp) ?_;refine AllReadyH.cons rfl (fun h0 hK=>?_) AllReadyH.nil
  go_simp
  go_wp2_with (go_at_call 75;go_loud ((with_reducible refine (HG.out M _ hn).mono ?_);rintro d0 w5 ⟨rfl,h5,d5⟩;have hg:=((h5.to (cW _).symm).under hn).right;have c2:w5.cell? ⟨t.f,0,W⟩=X (az t.s):=HF.out w5 _ hg))
  refine hK.out _ _ ?_ (fun l0=>?_)
  .first|exact c0|exact c1|exact c2|exact bV _ _ _ _ c1|exact bV _ _ _ _ c2
  clear hK h0;refine Ep 13 ?_;refine Ep 14 ?_;refine Ep 15 ?_;refine wpAnyH_ready (rs:=[16]) (by kernel_rfl) (by simp) ?_;refine AllReadyH.cons rfl (fun h0 hK=>?_) AllReadyH.nil
  go_simp
  refine hK.out _ _ ?_ (fun l0=>?_)
  .first|exact c0|exact c1|exact c2|exact bV _ _ _ _ c1|exact bV _ _ _ _ c2
  clear hK h0;refine Ep 17 ?_;refine wpAnyH_done (by kernel_rfl) ?_ _
  go_wp2_with fail
  go_meet
  exact ⟨_,b,rfl,(hg.alloc (bN b t.n)).to (by ac_rfl),((D3.out.drew.trans d4).trans d5).alloc _⟩
 case rest=>
  clear c0 HF HG H3 D3;obtain ⟨v,b,rfl,S0,h1⟩:=hcut;rw [HB.out] at S0
  have d1:ag wc (pt t.f (iD t g)*(pt v (bN b t.n)*(cI (zF t S) xD b ⟨0,[],[],(J,D)⟩*(ak xD*(g0*(pt u (Y #[Z .i64 0] 28 (0,0))*F)))))):=by
   have h6:ag wc (fact (J.Ok/\D.Ok)*_):=ag.aq.2 ⟨⟨HJ.out,HD.out⟩,ag.zZ S0⟩;have d0:cI (zF t S) xD b ⟨0,[],[],(J,D)⟩=aB 176 5 xD b (.iface 86 (az t.s)) 0 [] []*(fact (J.Ok/\D.Ok)*(eX t.s t.j t.d t.n t.P J*(aV S t.d D*ak S))):=rfl;rw [d0];exact h6.to (by show fact _*(ak xD*_)=_;ac_rfl)
  have L0:=ae (Hj.out v b wc _ d1);have F0:=ae h1
  go_wp2_with fail
  refine L0.out.mono ?_;clear L0;rintro d0 M ⟨c,i,q0,H,hP,he,d4,h4⟩;have HP:=ae hP;have D4:=ae (F0.out.trans d4);clear hP d4 F0;rcases he with ⟨rfl,rfl⟩|⟨hc,rfl⟩
  .obtain ⟨E,e,y,C,G⟩:=q0
   have e0:ag M (aB 176 5 i b (.iface 86 (az t.s)) E e y*(ak i*(Qc t.s t.j t.d t.n t.P S (C,G)*(pt t.f (iD t g)*(pt v (bN b t.n)*(H*(pt u (Y #[Z .i64 0] 28 (0,0))*F))))))):=h4.to (by unfold cI zF Cx.rd;ac_rfl);have n0:=tP e0;have m0:=ae (QG M i b _ E e y _ e0);have c1:M.cell? ⟨v,0,W⟩=X (az b):=h4.ah.cell 0;obtain ⟨⟨s0,r0⟩,h5⟩:=nV (e0.to (by ac_rfl:_=Qc t.s t.j t.d t.n t.P S (C,G)*(aB 176 5 i b (.iface 86 (az t.s)) E e y*(ak i*(pt t.f (iD t g)*(pt v (bN b t.n)*(H*(pt u (Y #[Z .i64 0] 28 (0,0))*F))))))));dsimp only at h5 s0 r0;have H5:=ae h5;have p0:=ae n0;clear h4 e0 h5 n0
   by_cases hw:e=[]
   .subst hw
    have j1:=ae s0;have i1:=ae r0;clear Hm s0 r0 jX;have h6:=H5.out.to (by ac_rfl:_=pt u (Y #[Z .i64 0] 28 (0,0))*((aB 176 5 i b (.iface 86 (az t.s)) E [] y*(ak i*pt v (bN b t.n)))*(pt t.f (iD t g)*(eX t.s t.j t.d t.n t.P C*(aV S t.d G*(ak S*(H*F)))))));have z0:=h6.cell 0;have f0:M.frozen? ⟨u,0,W⟩=false:=h6.frozen 0;have h7:=h6.setCell 0 (Z .i64 0);have Y0:=ae (h7.cell 0);have H7:=ae h7.right.right;have D7:=ae (D4.out.setCell ⟨u,0,W⟩ (Z .i64 0));clear h6 h7 H5
    go_wp2_with fail
    refine m0.out.mono ?_;rintro d0 w5 ⟨rfl,rfl⟩;clear m0
    go_wp2_with fail
    refine zm rfl Y0.out (HQ.out _ _ ⟨0,⟨E,[],y,C,G⟩,H,S,C,G,HP.out,p0.out,rfl,D7.out,H7.out,fun _ h=>absurd rfl h,fun _=>rfl⟩)
   .obtain ⟨has,J2,D2,hI,R0,K0,N0⟩:=Hm.out 0 _ _ HP.out rfl p0.out hw
    dsimp only at hI R0 K0 N0;have o1:(0:Int)<(e.length:Int):=by have:=List.length_pos_iff.2 hw;omega
    have HI:=ae hI;have u0:=ae K0;have x0:=ae N0;have W0:=ae R0;have Hw:=ae hw;have hX:=H5.out.to (by ac_rfl:_=aB 176 5 i b (.iface 86 (az t.s)) E e y*(ak i*(eX t.s t.j t.d t.n t.P C*(aV S t.d G*(ak S*(pt t.f (iD t g)*(pt v (bN b t.n)*(H*(pt u (Y #[Z .i64 0] 28 (0,0))*F)))))))));have a1:e.length<=1000000:=by have:=u0.out.n1;rw [zQ] at this;omega
    have f1:=fun w' h=>Oe w' i b (.iface 86 (az t.s)) E e y (eX t.s t.j t.d t.n t.P C*(aV S t.d G*(ak S*(pt t.f (iD t g)*(pt v (bN b t.n)*(H*(pt u (Y #[Z .i64 0] 28 (0,0))*F))))))) a1 h;have k0:M.cell? ⟨t.f,0,W⟩=X (az t.s)/\M.cell? ⟨t.s,0,W⟩=X (az t.j)/\M.cell? ⟨v,0,W⟩=X (az b):=⟨(hX.dV).cell 0,ti (hX.au),c1⟩
    have HX:=ae hX;have X0:=ae f1;have e1:∀ (w':U) (b0:ai) (J3:Jr) ,ag w' (pt t.f (iD t g)*(eX t.s t.j t.d t.n t.P J3*(pt v (bN b t.n)*b0)))->w'.cell? ⟨t.f,0,W⟩=X (az t.s)/\w'.cell? ⟨t.s,0,W⟩=X (az t.j)/\w'.cell? ⟨v,0,W⟩=X (az b):=fun w' b0 J3 h=>⟨h.cell 0,ti h.ah,h.au.cell 0⟩
    have D0:=ae e1;have b1:=fun w' S2 vL h=>Df t w' S S2 vL (iF e) C J2 G D2 has (aB 176 5 S2 b (.iface 86 (az t.s)) E e y*(pt t.f (iD t g)*(pt v (bN b t.n)*(H*(pt u (Y #[Z .i64 0] 28 (0,0))*F))))) HI.out (by rw [W0.out];exact u0.out) x0.out h;have V0:=ae b1;have T0:=ae fun w=>cV w
    go_wp2_with fail
    refine m0.out.mono ?_;rintro d0 w5 ⟨rfl,rfl⟩;clear m0
    go_wp2_with fail
    go_region_held3 (fun w'=>w'.cell? ⟨t.f,0,W⟩=X (az t.s)/\w'.cell? ⟨t.s,0,W⟩=X (az t.j)/\w'.cell? ⟨v,0,W⟩=X (az b))
     (first|exact k0|exact k1|exact k2|exact k3|go_keep)
     (first
      | (go_at_call 78;refine (X0.out _ HX.out.drew).mono ?_;rintro d0 w6 ⟨S2,vL,m1,rfl,hL,dL⟩;have k1:=D0.out w6 _ C (hL.to (by ac_rfl:_=pt t.f (iD t g)*(eX t.s t.j t.d t.n t.P C*(pt v (bN b t.n)*(gW 188 5 S2 vL (iF e)*(aB 176 5 S2 b (.iface 86 (az t.s)) E e y*(ak S2*(aV S t.d G*(ak S*(H*(pt u (Y #[Z .i64 0] 28 (0,0))*F))))))))))))
      | (go_at_call 77;refine (V0.out _ S2 vL (hL.to (by ac_rfl))).mono ?_;rintro d0 w7 ⟨S3,rfl,d7,h7⟩;have k2:=D0.out w7 _ J2 (h7.to (by ac_rfl:_=pt t.f (iD t g)*(eX t.s t.j t.d t.n t.P J2*(pt v (bN b t.n)*(aV S3 t.d D2*(ak S3*(aB 176 5 S2 b (.iface 86 (az t.s)) E e y*(H*(pt u (Y #[Z .i64 0] 28 (0,0))*F))))))))))
      | (go_at_call 34;refine (T0.out _).mono ?_;rintro d0 w8 ⟨rfl,rfl⟩))
    rename_i l0;have h8:=h7.to (by ac_rfl:_=pt u (Y #[Z .i64 0] 28 (0,0))*((aB 176 5 S2 b (.iface 86 (az t.s)) E e y*pt v (bN b t.n))*(pt t.f (iD t g)*(eX t.s t.j t.d t.n t.P J2*(aV S3 t.d D2*(ak S3*(H*F)))))));have z0:=h8.cell 0;have f0:w7.frozen? ⟨u,0,W⟩=false:=h8.frozen 0;have h9:=h8.setCell 0 (Z .i64 0);have Z0:=ae (h9.cell 0);have H9:=ae h9.right.right;have D9:=ae (((D4.out.drew.trans dL).trans d7).setCell ⟨u,0,W⟩ (Z .i64 0));clear h7 h8 h9 dL d7
    go_wp2_with fail
    refine zm rfl Z0.out (HQ.out _ _ ⟨0,⟨E,e,y,C,G⟩,H,S3,J2,D2,HP.out,p0.out,rfl,D9.out,H9.out,fun _ _=>x0.out,fun h=>?_⟩);rcases h with h|h
    .exact absurd rfl h
    .exact absurd h Hw.out
  .have hd:(c:Int)≠0:=hc
   have h5:ag M (pt u (Y #[Z .i64 0] 28 (0,0))*(pt t.f (iD t g)*(pt v (bN b t.n)*(cI (zF t S) i b q0*(ak i*(H*F)))))):=h4.to (by ac_rfl);obtain ⟨E,e,y,C,G⟩:=q0;have e0:ag M (aB 176 5 i b (.iface 86 (az t.s)) E e y*(ak i*(Qc t.s t.j t.d t.n t.P S (C,G)*(pt t.f (iD t g)*(pt v (bN b t.n)*(H*(pt u (Y #[Z .i64 0] 28 (0,0))*F))))))):=h4.to (by unfold cI zF Cx.rd;ac_rfl);have n0:=tP e0;refine IS hc rfl h5 fun w' h6 d6=>HQ.out _ _ ⟨c,⟨E,e,y,C,G⟩,H,S,C,G,HP.out,n0,rfl,D4.out.trans d6,?_,fun h=>absurd h hc,fun _=>rfl⟩;have h7:ag w' (Qc t.s t.j t.d t.n t.P S (C,G)*((aB 176 5 i b (.iface 86 (az t.s)) E e y*(ak i*pt v (bN b t.n)))*(pt t.f (iD t g)*(H*F)))):=h6.to (by unfold cI zF Cx.rd;ac_rfl);obtain ⟨-,h8⟩:=nV h7;exact (h8.to (by ac_rfl:_=(aB 176 5 i b (.iface 86 (az t.s)) E e y*(ak i*pt v (bN b t.n)))*(pt t.f (iD t g)*(eX t.s t.j t.d t.n t.P C*(aV S t.d G*(ak S*(H*F))))))).right
structure Ds where
 J:Jr
 D:aC
 has:Has
 B:Nat
structure Ds.Rd (s s':Ds):Prop where
 J:s'.J=s.J
 D:∃ r,s'.D={ s.D with cr:=r }
 has:s'.has=s.has
 B:s'.B=s.B
def Ds.Cm (n:Nat) (s s':Ds):Prop:=∃ r e,Batch (n:Int) e/\fg s.J { s.D with cr:=r } I e=(0,s'.J,s'.D)/\s'.has=nF s.has e/\s'.B=s.B+1
structure Rw {n:Nat} (q:Dk n) (s:Ds) (A:Nat->Option AF) (k:Nat):Prop where
 q:q.Q s.B s.J s.D s.has
 has:Go.SL.Has n ⟨jQ s.has,jQ s.has 0⟩ A k
theorem Rw.rd {n:Nat} {q:Dk n} {s s':Ds} {A:Nat->Option AF} {k:Nat} (h:Rw q s A k) (r:s.Rd s'):Rw q s' A k:=by
 obtain ⟨E,C,G,y⟩:=s';obtain ⟨e,⟨r,g⟩,i,u⟩:=r;dsimp only at e g i u;subst e;subst g;subst i;subst u;exact ⟨q.cr h.q r,h.has⟩
def lL (t:Pl) (s:Ds):ai:=ex fun S=>eX t.s t.j t.d t.n t.P s.J*(aV S t.d s.D*ak S)
section
variable {t:Pl} {s:Ds} {w:U} {F:ai}
theorem zx (h:ag w (lL t s*F)):∃ S,ag w (eX t.s t.j t.d t.n t.P s.J*(aV S t.d s.D*(ak S*F))):=by
 obtain ⟨S,e⟩:=ag.aw.1 h;exact ⟨S,e.to (by ac_rfl)⟩
theorem my {S:Hp} (h:ag w (eX t.s t.j t.d t.n t.P s.J*(aV S t.d s.D*(ak S*F)))):ag w (lL t s*F):=
 ag.aw.2 ⟨S,h.to (by ac_rfl)⟩
end
def WA (t:Pl) (u:N) (x:Fx t.n) (v b:Nat) (P:Int->Nat->(Nat->Option AF)->Nat->ai->Prop) (H:ai) (y:U) (e:Ending) (w':U):Prop:=
 ∃ c g i h m,P c m g i h/\((c=0/\e = Q (K #[]))\/(c≠0/\e = .panicked (lG c)))/\aj y w'/\m<=24 /\
  ag w' (pt t.f (iD t u)*(pt v (bN b t.n)*(ea (x.more m) b g i*(h*H))))
def Wh (t:Pl) (u:N) (q:Dk t.n) (s:Ds) (P:Int->Nat->(Nat->Option AF)->Nat->ai->Prop) (F:ai) (w:U) (e:Ending) (w':U):Prop:=
 ∃ c m g i h s',P c m g i h/\e = Q (Z .i64 c)/\aj w w'/\ag w' (pt t.f (iD t u)*(lL t s'*(h*F))) /\
  (m=0->s.Rd s')/\((c≠0/\s.Rd s')\/(c=0/\Rw q s' g i/\(s.Rd s'\/s.Cm t.n s')))
theorem Ri (t:Pl) (q:Dk t.n) (h4:4<=t.n) (hn:t.n<=3840) (w:U) (s:Ds) (A:Nat->Option AF) (k:Nat) (C:N) (jf:FuncId) (g0:Array N) (b0 F:ai) (P:Int->Nat->(Nat->Option AF)->Nat->ai->Prop)
  (ha:Rw q s A k) (hB:s.B<=1000000) (jX:∀ (l0:Array N) (w:U),(callFunc jf l0).run V w = .ok (.enter jf l0) w)
  (hj:∀ (x:Fx t.n) (v b:Nat) (w1:U) (H:ai),x.C=0->ag w1 (pt t.f (iD t C)*(pt v (bN b t.n)*(ea x b A k*(b0*H))))->Calls V jf (#[az v]++g0) w1 (WA t C x v b P H w1))
  (h:ag w (pt t.f (iD t C)*(lL t s*(b0*F)))) :
  Calls V 29 #[az t.f,.func (.func jf) #[] g0] w (Wh t C q s P F w):=by
 obtain ⟨J,D,has,B⟩:=s;obtain ⟨d0,h1⟩:=zx (h.to (by ac_rfl:_=lL t ⟨J,D,has,B⟩*(pt t.f (iD t C)*(b0*F))));have hq:q.Q B J D has:=ha.q;have hh:Go.SL.Has t.n ⟨jQ has,jQ has 0⟩ A k:=ha.has;have hB:B<=1000000:=hB
 let x:Fx t.n:=⟨Jr × aC,zF t d0,jQ has,IJ J D,MV t d0,y4 hq,h4,hn,fun _=>emp,fun _ _ _ _ h=>h,0⟩
 have m0:∀ (M:gZ (Jr × aC)) i u,oN t.n (jQ has) (IJ J D) M i u->M.W.length<=24->(M.W.map L1).Nodup->M.W≠[] ->
   ∃ r g e,M.s=(J,{ D with cr:=r })/\q.Q B J { D with cr:=r } has/\Batch (t.n:Int) (iF M.W)/\fg J { D with cr:=r } I (iF M.W)=(0,g,e)/\q.Q (B+1) g e (nF has (iF M.W)):=by
  intro M i u E hl c0 k0;obtain ⟨S,r,e2⟩:=E.gL.inv;have hb:=zg E c0 hl (List.length_pos_iff.2 k0);obtain ⟨g,e,e3,e4⟩:=q.AH (q.cr hq r) hB hb;exact ⟨r,g,e,Prod.ext S e2,q.cr hq r,hb,e3,e4⟩
 refine (Ff t w d0 J D C jf g0 b0 F (fun c M y=>∃ m i u,P c m i u y/\oN t.n (jQ has) (IJ J D) M i u/\M.W.length<=m/\m<=24) (q.inv hq).ok (q.inv hq).Kw jX ?_ ?_ (h1.to (by ac_rfl))).mono ?_
 .intro v b w1 H G
  have q0:ag w1 (SX x b ⟨0,[],[],(J,D)⟩*(pt t.f (iD t C)*(pt v (bN b t.n)*(b0*H)))):=
   ag.tV (x:=x) (S:=xD) (S':=xD) (fun _ _ h=>h) (G.to (by show _=cI (zF t d0) xD b ⟨0,[],[],(J,D)⟩*(ak xD*(emp*(pt t.f (iD t C)*(pt v (bN b t.n)*(b0*H)))));rw [cW];ac_rfl))
  have r0:=ag.qh (x:=x) (A:=A) (k:=k) ⟨G7 hh,Nat.zero_le _⟩ q0;refine (hj x v b w1 H rfl (r0.to (by ac_rfl))).mono ?_;rintro i0 w2 ⟨c,i,u,y,m,hP,he,d,hm,hs⟩;obtain ⟨M,hM,h2⟩:=ag.mg (x:=x.more m) (hs.to (by ac_rfl:_=ea (x.more m) b i u*(pt t.f (iD t C)*(pt v (bN b t.n)*(y*H)))));obtain ⟨S',h3⟩:=ag.oE (x:=x.more m) h2;refine ⟨c,S',M,y,⟨m,i,u,hP,hM.1,Nat.le_trans hM.2 (by show 0+m<=m;omega),hm⟩,he,d,?_⟩;have h4:ag w2 (cI (zF t d0) S' b M*(ak S'*(emp*(pt t.f (iD t C)*(pt v (bN b t.n)*(y*H)))))):=h3;rw [cW] at h4;exact h4.to (by ac_rfl)
 .rintro c M y ⟨m,i,u,-,E,hl,hm⟩-c0 k0
  obtain ⟨r,g,e,S,e2,e3,e4,-⟩:=m0 M i u E (by omega) c0 k0;refine ⟨has,g,e,?_,?_,e3,?_⟩
  .rw [S];exact q.inv e2
  .rw [S];exact q.jn e2
  .rw [S];exact e4
 .rintro i0 w' ⟨c,M,y,S',g,e,⟨m,i,u,hP,E,hl,hm⟩,c0,rfl,d,hs,n0,o0⟩
  obtain ⟨S,r,e2⟩:=E.gL.inv
  have f0:(c≠0\/M.W=[])->Ds.Rd ⟨J,D,has,B⟩ ⟨g,e,has,B⟩:=fun h=>by
   have i0:=o0 h;rw [i0] at S e2;exact ⟨S,⟨r,e2⟩,rfl,rfl⟩
  have p0:m=0->M.W=[]:=fun h=>List.eq_nil_of_length_eq_zero (by omega)
  by_cases h0:c=0
  .by_cases G:M.W=[]
   .refine ⟨c,m,i,u,y,⟨g,e,has,B⟩,hP,rfl,d,(my (s:=⟨g,e,has,B⟩) (hs.to (by ac_rfl))).to (by ac_rfl:lL t ⟨g,e,has,B⟩*(pt t.f (iD t C)*(y*F))=_),fun _=>f0 (.inr G),.inr ⟨h0,?_,.inl (f0 (.inr G))⟩⟩
    exact Rw.rd (s:=⟨J,D,has,B⟩) ⟨hq,uh E G⟩ (f0 (.inr G))
   .obtain ⟨r',J2,D2,f1,f2,f3,f4,f5⟩:=m0 M i u E (by omega) c0 G
    have e0:=n0 h0 G;rw [f1] at e0;have e0:fg J { D with cr:=r' } I (iF M.W)=(0,g,e):=e0;rw [e0] at f4;simp only [Prod.mk.injEq,true_and] at f4;obtain ⟨rfl,rfl⟩:=f4
    exact ⟨c,m,i,u,y,⟨g,e,nF has (iF M.W),B+1⟩,hP,rfl,d,(my (s:=⟨g,e,nF has (iF M.W),B+1⟩) (hs.to (by ac_rfl))).to (by ac_rfl:lL t ⟨g,e,nF has (iF M.W),B+1⟩*(pt t.f (iD t C)*(y*F))=_),
     fun h=>absurd (p0 h) G,.inr ⟨h0,⟨f5,xk E c0⟩,.inr ⟨r',iF M.W,f3,e0,rfl,rfl⟩⟩⟩
  .exact ⟨c,m,i,u,y,⟨g,e,has,B⟩,hP,rfl,d,(my (s:=⟨g,e,has,B⟩) (hs.to (by ac_rfl))).to (by ac_rfl:lL t ⟨g,e,has,B⟩*(pt t.f (iD t C)*(y*F))=_),fun _=>f0 (.inl h0),.inl ⟨h0,f0 (.inl h0)⟩⟩
end Go.Proofs.Cl
namespace Go.Proofs.Cl
open RowKit SL Proofs.Nn Proofs.Ba Proofs.Su Proofs.Fs
attribute [local go_sem] Oper.semAt_some
abbrev jT:=List (Int × (Nat × Nat))
def lZ (O:jT):KV:=O.map fun o=>(o.1,.agg #[Z .i64 (o.2.1:Int),Z .i64 (o.2.2:Int)])
def dJ (t:Pl) (s:Ds) (m:Nat) (O:jT):ai:=pt t.f (iD t (.map (X m)))*(lL t s*mp m (lZ O))
structure mW (t:Pl) (q:Dk t.n) (s:Ds) (T:Tr) (k:Nat):Prop where
 at_:Rw q s (ft T) k
 ty:Tidy t.n T
 h4:4<=t.n
 hn:t.n<=3840
def Ds.Go (n:Nat) (wr:Bool) (s s':Ds):Prop:=s.Rd s'\/(wr=I/\s.Cm n s')
def WG (t:Pl) (q:Dk t.n) (m:Nat) (wr:Bool) (s:Ds) (h:Tr) (i:Nat) (g:jT) (v:N) (F:ai) (w:U) (e:Ending) (w':U):Prop:=
 ∃ s',e = Q v/\aj w w'/\s.Go t.n wr s'/\mW t q s' h i/\ag w' (dJ t s' m g*F)
section
variable {t:Pl} {q:Dk t.n} {s s':Ds} {T:Tr} {k m:Nat} {O:jT} {w:U} {F:ai} {p:List UInt8}
theorem mW.rd (h:mW t q s T k) (r:s.Rd s'):mW t q s' T k:=⟨h.at_.rd r,h.ty,h.h4,h.hn⟩
def dG (t:Pl) (m:Nat) (O:jT):ai:=pt t.f (iD t (.map (X m)))*mp m (lZ O)
theorem jw (E:mW t q s T k) (hB:s.B<=1000000) (h:FuncId) (y:Array N) (G:ai) (c:Int) (i u:ai)
  (jX:∀ (S:Array N) (w:U),(callFunc h S).run V w = .ok (.enter h S) w)
  (hj:∀ (x:Fx t.n) (v b:Nat) (g:U) (H:ai),ag g (vA x b v T k*(G*(dG t m O*H)))->Calls V h (#[az v]++y) g (Jk c (vA x b v T k*(i*(dG t m O*H))) (vA x b v T k*(u*(dG t m O*H))) g))
  (b0:ag w (dJ t s m O*(G*F))) :
  Calls V 29 #[az t.f,.func (.func h) #[] y] w fun e w'=>
   ∃ s',e = Q (Z .i64 c)/\aj w w'/\s.Rd s'/\ag w' (dJ t s' m O*((if c=0 then i else u)*F)):=by
 have h1:ag w (pt t.f (iD t (.map (X m)))*(lL t s*((G*mp m (lZ O))*F))):=b0.to (by unfold dJ;ac_rfl);refine (Ri t q E.h4 E.hn w s (ft T) k (.map (X m)) h y (G*mp m (lZ O)) F (fun c' m' A' k' M=>c'=c/\m'=0/\M=(if c=0 then i else u)*mp m (lZ O)) E.at_ hB jX ?_ h1).mono ?_
 .intro x v b g H hC hw
  have h2:ag g (vA x b v T k*(G*(dG t m O*H))):=hw.to (by unfold vA dG;ac_rfl);refine (hj x v b g _ h2).mono ?_;rintro e w' ⟨d,⟨rfl,rfl,C⟩|⟨hc,rfl,C⟩⟩
  .exact ⟨0,ft T,k,_,0,⟨rfl,rfl,rfl⟩,.inl ⟨rfl,rfl⟩,d,by decide,(ag.tZ (x:=x) 0 (C.to (by unfold vA dG;ac_rfl:_=ea x b (ft T) k*(pt t.f (iD t (.map (X m)))*(pt v (bN b t.n)*((i*mp m (lZ O))*H)))))).to (by rw [if_pos rfl];ac_rfl)⟩
  .exact ⟨c,ft T,k,_,0,⟨rfl,rfl,rfl⟩,.inr ⟨hc,rfl⟩,d,by decide,(ag.tZ (x:=x) 0 (C.to (by unfold vA dG;ac_rfl:_=ea x b (ft T) k*(pt t.f (iD t (.map (X m)))*(pt v (bN b t.n)*((u*mp m (lZ O))*H)))))).to (by rw [if_neg hc];ac_rfl)⟩
 .rintro e w' ⟨c',m',A',k',M,s',⟨rfl,rfl,rfl⟩,rfl,d,hs,hr,-⟩
  exact ⟨s',rfl,d,hr rfl,hs.to (by unfold dJ;ac_rfl)⟩
def Ql (z:Int × Int × Int):N:=.agg #[Z .i64 z.1,Z .i64 z.2.1,Z .i64 z.2.2]
theorem rU {w:U} {g:Array N} {rc:Nat} {z:Int × Int × Int} {e:N} {F:ai} (h4:g[4]?=X (az rc)) (C:g[5]?=X e) (h:ag w (fy rc z*F)) :
  (results Tryz.f13 g).run V w = .ok (K #[Ql z,e]) w:=by
 have i:=ag.cell h 0;have u:=ag.cell h 1;have y:=ag.cell h 2;have E:g.getD 4 undef=az rc:=by simp [h4]
 have G:g.getD 5 undef=e:=by simp [C]
 simp at i u y;simp [results,Tryz.results13,h4,C,asAddr,az,go_sem,i,u,y,Ql]
theorem Ni (M:mW t q s T k) (hB:s.B<=1000000) (b0:ag w (dJ t s m O*F)) :
  Calls V 13 #[az t.f,L (str p)] w
   (WG t q m false s T k O (K #[Ql (if (bG T p).1=0 then qd (T (bG T p).2) else (0,0,0)),Z .i64 (bG T p).1]) F w):=by
 refine aH fun e0 y=>?_;have hA:=(((b0.alloc (Y #[L (str p)] 9 (0,0))).alloc (Y #[Z .i64 0,Z .i64 0,Z .i64 0] 35 (0,0))).alloc (Y #[Z .i64 0,Z .i64 0,Z .i64 0] 35 (0,0)))
 simp only [K1] at hA;have dA:=ae ((((aj.refl w).alloc (Y #[L (str p)] 9 (0,0))).alloc (Y #[Z .i64 0,Z .i64 0,Z .i64 0] 35 (0,0))).alloc (Y #[Z .i64 0,Z .i64 0,Z .i64 0] 35 (0,0)))
 have hd:=ae fun (pc g:Nat) (F':ai) (w':U) (h':ag w' (dJ t s m O*((ay pc p*fy g (0,0,0))*F')))=>
  jw M hB 41 #[az pc,az g] (ay pc p*fy g (0,0,0)) (bG T p).1 (ay pc p*fy g (qd (T (bG T p).2))) (ay pc p*fy g (0,0,0)) (enters func41 (by kernel_rfl) rfl)
   (fun x v b w1 c0 hw=>(MO (x:=x) (b:=b) (v:=v) (k:=k) (pc:=pc) (sc:=g) (F:=dG t m O*c0) (p:=p) M.ty (hw.to (by ac_rfl))).mono fun d0 w' hq=>by simpa only [ax] using hq) h'
 have HF:=ae M;have HA:=ae hA;clear b0 hA hB M;generalize bG T p=pw at *;obtain ⟨c,id⟩:=pw;dsimp only at hd y
 go_enter func13,ntmps13
 go_wp2_with fail
 generalize ((w.alloc (Y #[L (str p)] 9 (0,0))).alloc (Y #[Z .i64 0,Z .i64 0,Z .i64 0] 35 (0,0))).alloc (Y #[Z .i64 0,Z .i64 0,Z .i64 0] 35 (0,0))=w1 at *;generalize w.heap.size+1+1=g at *;generalize w.heap.size+1=rc at *;generalize w.heap.size=pc at *;refine (hd.out pc g (fy rc (0,0,0)*F) _ (HA.out.to (by unfold ay fy;ac_rfl))).mono ?_;rintro d0 h ⟨s',rfl,d2,hr,u⟩;have G:=ae (dA.out.trans d2);have H:=ae hr;clear hd dA HA d2 hr
 by_cases h0:c=0
 .subst h0
  rw [if_pos rfl] at u y;generalize qd (T id)=z at *;obtain ⟨C,E,z3⟩:=z;have e:=u.to (by unfold fy;ac_rfl:_=pt rc (Y #[Z .i64 0,Z .i64 0,Z .i64 0] 35 (0,0))*(pt g (Y #[Z .i64 C,Z .i64 E,Z .i64 z3] 35 (0,0))*(ay pc p*(dJ t s' m O*F))));have s0:h.cell? ⟨g,0,W⟩=X (Z .i64 C):=e.ah.cell 0;have s1:h.cell? ⟨g,1,W⟩=X (Z .i64 E):=e.ah.cell 1;have s2:h.cell? ⟨g,2,W⟩=X (Z .i64 z3):=e.ah.cell 2;have r0:h.cell? ⟨rc,0,W⟩=X (Z .i64 0):=e.cell 0;have r1:h.cell? ⟨rc,1,W⟩=X (Z .i64 0):=e.cell 1;have r2:h.cell? ⟨rc,2,W⟩=X (Z .i64 0):=e.cell 2;have f0:=e.frozen 0;have f1:=e.frozen 1;have f2:=e.frozen 2;have H4:=ae (((e.setCell 0 (Z .i64 C)).setCell 1 (Z .i64 E)).setCell 2 (Z .i64 z3));have S:=ae (((G.out.setCell ⟨rc,0,W⟩ (Z .i64 C)).setCell ⟨rc,1,W⟩ (Z .i64 E)).setCell ⟨rc,2,W⟩ (Z .i64 z3));clear u e G
  go_wp2_with fail
  have i:=H4.out;simp only [A1,E1,N1] at i;exact bodyPost_ret (rU (z:=(C,E,z3)) rfl rfl i) rfl (y.out _ _ ⟨s',rfl,S.out,.inl H.out,HF.out.rd H.out,i.right.right.right⟩)
 .rw [if_neg h0] at u y
  have e:=u.to (by unfold fy;ac_rfl:_=pt rc (Y #[Z .i64 0,Z .i64 0,Z .i64 0] 35 (0,0))*((ay pc p*fy g (0,0,0))*(dJ t s' m O*F)));have r0:h.cell? ⟨rc,0,W⟩=X (Z .i64 0):=e.cell 0;have r1:h.cell? ⟨rc,1,W⟩=X (Z .i64 0):=e.cell 1;have r2:h.cell? ⟨rc,2,W⟩=X (Z .i64 0):=e.cell 2;have f0:=e.frozen 0;have f1:=e.frozen 1;have f2:=e.frozen 2;have H4:=ae (((e.setCell 0 (Z .i64 0)).setCell 1 (Z .i64 0)).setCell 2 (Z .i64 0));have S:=ae (((G.out.setCell ⟨rc,0,W⟩ (Z .i64 0)).setCell ⟨rc,1,W⟩ (Z .i64 0)).setCell ⟨rc,2,W⟩ (Z .i64 0));clear u e G
  go_wp2_with fail
  have i:=H4.out;simp only [A1,E1,N1] at i;exact bodyPost_ret (rU (z:=(0,0,0)) rfl rfl i) rfl (y.out _ _ ⟨s',rfl,S.out,.inl H.out,HF.out.rd H.out,i.right.right⟩)
end
def O4 (t:Pl) (q:Dk t.n) (m:Nat) (s:Ds) (O:jT) (i:Int->Tr->Nat->Prop) (F:ai) (w:U) (e:Ending) (w':U):Prop:=
 ∃ c g h s',i c g h/\e = Q (Z .i64 c)/\aj w w'/\((c≠0/\s.Rd s')\/(c=0/\mW t q s' g h/\s.Go t.n I s'))/\ag w' (dJ t s' m O*F)
section
variable {t:Pl} {q:Dk t.n} {s s':Ds} {T:Tr} {k m:Nat} {O:jT} {w:U} {F:ai} {p:List UInt8}
theorem l9 (i:mW t q s T k) (hB:s.B<=1000000) (u:FuncId) (E:Array N) (G:ai) (C:Int->Tr->Nat->Prop)
  (jX:∀ (b0:Array N) (w:U),(callFunc u b0).run V w = .ok (.enter u b0) w)
  (hj:∀ (x:Fx t.n) (v b:Nat) (g:U) (H:ai),ag g (vA x b v T k*(G*(dG t m O*H)))->Calls V u (#[az v]++E) g (Tf x b v C (G*(dG t m O*H)) g))
  (h:ag w (dJ t s m O*(G*F))) :
  Calls V 29 #[az t.f,.func (.func u) #[] E] w (O4 t q m s O C (G*F) w):=by
 have M:ag w (pt t.f (iD t (.map (X m)))*(lL t s*((G*mp m (lZ O))*F))):=h.to (by unfold dJ;ac_rfl);refine (Ri t q i.h4 i.hn w s (ft T) k (.map (X m)) u E (G*mp m (lZ O)) F (fun c _ A' y G'=>∃ e,C c e y/\(c=0->Tidy t.n e/\A'=ft e)/\G'=G*mp m (lZ O)) i.at_ hB jX ?_ M).mono ?_
 .intro x v b g H hC hw
  have h2:ag g (vA x b v T k*(G*(dG t m O*H))):=hw.to (by unfold vA dG;ac_rfl);refine (hj x v b g _ h2).mono ?_;rintro c0 w' ⟨c,e,y,j,S,hT,he,d,d0,h3⟩;exact ⟨c,ft e,y,_,j,⟨e,S,fun h=>⟨hT h,rfl⟩,rfl⟩,he,d,d0,h3.to (by unfold vA dG;ac_rfl)⟩
 .rintro c0 w' ⟨c,j,A',y,G',s',⟨e,S,hT,rfl⟩,rfl,d,hs,-,hr⟩
  refine ⟨c,e,y,s',S,rfl,d,?_,hs.to (by unfold dJ;ac_rfl)⟩;rcases hr with hr|⟨h0,ha,hg⟩
  .exact .inl hr
  .obtain ⟨M,rfl⟩:=hT h0
   exact .inr ⟨h0,⟨ha,M,i.h4,i.hn⟩,hg.imp id fun h=>⟨rfl,h⟩⟩
theorem C1 {kd:Int} (f0:kd=1\/kd=2) (g:mW t q s T k) (G:s.B<=1000000) (e0:gp T k p=0) (h:ag w (dJ t s m O*F)) :
  Calls V 28 #[az t.f,L (str p),Z .i64 kd] w (O4 t q m s O (lY t.n T k kd p) F w):=by
 refine aH fun g0 HQ=>?_;have i:=((h.alloc (Y #[L (str p)] 9 (0,0))).alloc (Y #[Z .i64 kd] 3 (0,0)))
 rw [K1] at i;have C:=ae (((aj.refl w).alloc (Y #[L (str p)] 9 (0,0))).alloc (Y #[Z .i64 kd] 3 (0,0)))
 have M:=ae fun (pc e:Nat) (w':U) (h':ag w' (dJ t s m O*((ay pc p*aD e kd)*F)))=>
  l9 g G 69 #[az pc,az e] (ay pc p*aD e kd) (lY t.n T k kd p) (enters func69 (by kernel_rfl) rfl)
   (fun x v b w1 b0 hw=>(NX (x:=x) (b:=b) (v:=v) (k:=k) (pc:=pc) (kc:=e) (F:=dG t m O*b0) (p:=p) f0 g.hn g.ty e0 (hw.to (by ac_rfl))).mono fun c0 w' hq=>by simpa only [ax] using hq) h'
 have u:=ae i;clear h i G g
 go_enter func28,ntmps28
 go_wp2_with fail
 generalize (w.alloc (Y #[L (str p)] 9 (0,0))).alloc (Y #[Z .i64 kd] 3 (0,0))=w1 at *;generalize w.heap.size+1=e at *;generalize w.heap.size=pc at *;refine (M.out pc e _ (u.out.to (by unfold ay aD;ac_rfl))).mono ?_;rintro c0 w2 ⟨c,T',k',s',H,rfl,y,S,E⟩;have d0:=ae (HQ.out _ _ ⟨c,T',k',s',H,rfl,C.out.trans y,S,(E.to (by ac_rfl:_=(ay pc p*aD e kd)*(dJ t s' m O*F))).right⟩);clear M C u y S H E
 go_wp2_with fail
 exact d0.out
theorem ES (y:mW t q s T k) (i:s.B<=1000000) (S:gp T k p=0) (h:ag w (dJ t s m O*F)) :
  Calls V 11 #[az t.f,L (str p)] w (O4 t q m s O (lY t.n T k 1 p) F w):=by
 refine aH fun b0 G=>?_;have C:=ae (C1 (p:=p) (kd:=1) (.inl rfl) y i S h);clear h y i
 go_enter func11,ntmps11
 go_wp2_with fail
 refine C.out.mono ?_;rintro c0 w2 ⟨c,H,k',s',u,rfl,e,E,g⟩;have M:=ae (G.out _ _ ⟨c,H,k',s',u,rfl,e,E,g⟩);clear C e E u g
 go_wp2_with fail
 exact M.out
theorem JN (y:mW t q s T k) (i:s.B<=1000000) (S:gp T k p=0) (h:ag w (dJ t s m O*F)) :
  Calls V 9 #[az t.f,L (str p)] w (O4 t q m s O (lY t.n T k 2 p) F w):=by
 refine aH fun b0 G=>?_;have C:=ae (C1 (p:=p) (kd:=2) (.inr rfl) y i S h);clear h y i
 go_enter func9,ntmps9
 go_wp2_with fail
 refine C.out.mono ?_;rintro c0 w2 ⟨c,H,k',s',u,rfl,e,E,g⟩;have M:=ae (G.out _ _ ⟨c,H,k',s',u,rfl,e,E,g⟩);clear C e E u g
 go_wp2_with fail
 exact M.out
end
def DG (o:Nat × Nat):N:=.agg #[Z .i64 (o.1:Int),Z .i64 (o.2:Int)]
theorem B1 (O:jT) (fd:Int):aP (lZ O) fd=(aP O fd).map DG:=by
 induction O with
 | nil=>rfl
 | cons o O e=>
  rw [lZ,List.map_cons,kg,kg]
  by_cases h:o.1=fd
  .rw [if_pos h,if_pos h];rfl
  .rw [if_neg h,if_neg h];exact e
section
variable {t:Pl} {q:Dk t.n} {s s':Ds} {T:Tr} {k m:Nat} {O:jT} {w:U} {F:ai} {p:List UInt8} {fd:Int}
theorem yM (h:ag w (dG t m O*F)) (fd:Int):(Instr.lookup 89 (.map (X m)) (Z .i64 fd) I).run V w = .ok (K #[(((aP O fd).map DG).getD (DG (0,0))),.bool (aP O fd).isSome]) w:=by
 have e:ag w (mp m (lZ O)*(pt t.f (iD t (.map (X m)))*F)):=h.to (by unfold dG;ac_rfl);obtain ⟨o,i,g,-⟩:=e.oq;have:=iK (P:=V) (z:=DG (0,0)) underlying89 underlying3 (by kernel_rfl) g i fd I;rw [B1] at this;rw [this,if_pos rfl,R1]
theorem mC (h:ag w (dG t m O*F)):Calls V 49 #[az t.f,Z .i64 fd] w fun e w'=>e = Q (.bool (aP O fd).isSome)/\aj w w'/\ag w' (dG t m O*F):=by
 refine aH fun H g=>?_;have C:=yM h fd
 obtain ⟨u,E⟩:∃ u,((aP O fd).map DG).getD (DG (0,0))=DG u:=by
  cases aP O fd with
  | none=>exact ⟨_,rfl⟩
  | some o=>exact ⟨o,rfl⟩
 rw [E] at C;have M:w.cell? ⟨t.f,1,W⟩=X (.map (X m)):=(h.to (by unfold dG;ac_rfl:_=pt t.f (iD t (.map (X m)))*(mp m (lZ O)*F))).cell 1;have y:=(h.alloc (Y #[Z .i64 (u.1:Int),Z .i64 (u.2:Int)] 93 (0,0))).right;have i:=(aj.refl w).alloc (Y #[Z .i64 (u.1:Int),Z .i64 (u.2:Int)] 93 (0,0));have G:=ae (g.out _ _ ⟨rfl,i,y⟩);unfold DG at C;clear h E y i g;generalize (aP O fd).isSome=S at *
 go_enter func49,ntmps49
 go_wp2_with fail
 exact G.out
def vY (O:jT) (fd:Int):jT:=Go.SL.del O fd
theorem QM (O:jT) (fd:Int):del (lZ O) fd=lZ (vY O fd):=by
 unfold del lZ vY del;rw [List.filter_map];rfl
theorem Ip (hf:mW t q s T k) (h:ag w (dJ t s m O*F)) :
  Calls V 18 #[az t.f,Z .i64 fd] w fun e w'=>e = Q (Z .i64 (if (aP O fd).isSome then 0 else 5))/\aj w w'/\ag w' (dJ t s m (if (aP O fd).isSome then vY O fd else O)*F):=by
 refine aH fun b0 g=>?_;have E:ag w (dG t m O*(lL t s*F)):=h.to (by unfold dJ dG;ac_rfl);have i:=ae (mC (fd:=fd) E);clear h
 cases C:(aP O fd).isSome with
 | false=>
  rw [C] at i g;rw [if_neg (by decide),if_neg (by decide)] at g;clear E C
  go_enter func18,ntmps18
  go_wp2_with fail
  refine i.out.mono ?_;rintro e M ⟨rfl,u,y⟩;have H:=ae (g.out _ _ ⟨rfl,u,y.to (by unfold dJ dG;ac_rfl)⟩);clear i u y
  go_wp2_with fail
  exact H.out
 | true=>
  rw [C] at i g;rw [if_pos rfl,if_pos rfl] at g;clear E C
  go_enter func18,ntmps18
  go_wp2_with fail
  refine i.out.mono ?_;rintro e M ⟨rfl,u,y⟩;have G:ag M (mp m (lZ O)*(pt t.f (iD t (.map (X m)))*(lL t s*F))):=y.to (by unfold dG;ac_rfl);have c1:M.cell? ⟨t.f,1,W⟩=X (.map (X m)):=G.ah.cell 1;obtain ⟨w3,hr,h4,S,-⟩:=ag.delete (P:=V) underlying89 underlying3 0 3 G fd;rw [QM] at h4;have H:=ae (g.out _ _ ⟨rfl,u.trans S,h4.to (by unfold dJ;ac_rfl)⟩);clear i u y G h4 S
  go_wp2_with fail
  exact H.out
def iN (T:Tr) (O:jT) (p:List UInt8):Int:=if (bG T p).1≠0 then (bG T p).1 else match T (bG T p).2 with
 | some (.file _)=>if 16<=O.length then 9 else 0
 | _=>8
def bg (t:Pl) (a:Nat):ai:=pt a (Y #[az t.f] 25 (0,0))
def Ls (a:Nat):ai:=ex fun z=>aD a z
theorem QH {a:Nat} {z:Int} (h:ag w (aD a z*F)):ag w (Ls a*F):=ag.aw.2 ⟨z,h⟩
theorem Mh {x:Fx t.n} {b v pc nc fc:Nat} (M:Tidy t.n T) (m0:ag w (vA x b v T k*((ay pc p*(aD nc 0*bg t fc))*(dG t m O*F)))) :
  Calls V 48 #[az v,az pc,az nc,az fc] w (Jk (iN T O p) (vA x b v T k*((ay pc p*(aD nc ((bG T p).2:Nat)*bg t fc))*(dG t m O*F))) (vA x b v T k*((ay pc p*(Ls nc*bg t fc))*(dG t m O*F))) w):=by
 refine aH fun l0 HQ=>?_;have G:=m0.to (by ac_rfl:_=vA x b v T k*(ay pc p*(aD nc 0*(bg t fc*(dG t m O*F)))));have cp:w.cell? ⟨pc,0,W⟩=X (L (str p)):=G.ah.cell 0;have i0:=ae G;have HT:=ae M
 have d0:Hid (∀ c,c≠0->c=iN T O p->∀ (z:Int) (w':U),aj w w'->ag w' (vA x b v T k*(ay pc p*(aD nc z*(bg t fc*(dG t m O*F)))))->l0 (.panicked (lG c)) w'):=fun c E he z w' d i=>
  HQ.out _ _ ⟨d,.inr ⟨by rw [<- he];exact E,by rw [he],(QH (i.to (by ac_rfl:_=aD nc z*(vA x b v T k*(ay pc p*(bg t fc*(dG t m O*F))))))).to (by ac_rfl)⟩⟩
 clear m0 G
 cases i:aU p with
 | none=>
  have hk:=ae (lR (w:=w) i);have E:(1:Int)=iN T O p:=by unfold iN;rw [su i];rfl
  clear M i
  go_enter func48,ntmps48
  go_wp2_with fail
  refine hk.out.mono ?_;rintro e w2 ⟨rfl,d2,h2⟩;exact ⟨rfl,d0.out 1 (by decide) E 0 _ d2 (h2.ei i0.out)⟩
 | some g=>
  obtain ⟨H0,hl⟩:=cU i;have u0:=dN (T:=T) i;have hk:=ae (df (w:=w) i);have y:=fun G=>M.walk g M.root.choose_spec G;have HL:=ae hl;have g0:=ae u0;have HY:=ae y;clear M i hl H0 u0 y
  go_enter func48,ntmps48
  go_wp2_with fail
  refine hk.out.mono ?_;rintro e w2 ⟨u,rfl,d2,h2⟩;have C:=(h2.under i0.out).ah;have hw:=ae (fm HT.out HL.out fE C);have k0:=ae (show ∀ e w',Jk (iN T O p) (vA x b v T k*((ay pc p*(aD nc ((aQ T 1 g).2:Nat)*bg t fc))*(dG t m O*F))) (vA x b v T k*((ay pc p*(Ls nc*bg t fc))*(dG t m O*F))) w e w'->l0 e w' by rw [<- g0.out];exact fun e w'=>HQ.out e w');have s0:iN T O p=if (aQ T 1 g).1≠0 then (aQ T 1 g).1 else match T (aQ T 1 g).2 with|some (.file _)=>if 16<=O.length then 9 else 0|_=>8:=by unfold iN;rw [g0.out]
  have c0:=ae s0;clear s0;generalize aQ T 1 g=pw at *;obtain ⟨c,id⟩:=pw;dsimp only at hw HY k0 c0;clear cp hk h2 C HL HQ g0
  go_wp2_with fail
  refine hw.out.mono ?_;rintro e w3 ⟨he,d3,C⟩;clear hw;have D3:=ae (d2.trans d3);clear d2 d3;rcases he with ⟨rfl,rfl⟩|⟨E,rfl⟩
  .obtain ⟨x0,y⟩:=HY.out rfl
   have h4:=C.to (by unfold aD;ac_rfl:_=pt nc (Y #[Z .i64 0] 3 (0,0))*(vA x b v T k*(ay pc p*(bg t fc*(dG t m O*(dh u g*F))))));have n0:w3.cell? ⟨nc,0,W⟩=X (Z .i64 0):=h4.cell 0;have f0:=h4.frozen 0;have h:=h4.setCell 0 (Z .i64 (id:Int));simp only [A1,E1] at h;have n1:=h.cell 0;have o0:=ae (lS y h.ah);have D5:=ae (D3.out.setCell ⟨nc,0,W⟩ (Z .i64 (id:Int)))
   have H:iN T O p=if x0.af.kd=1 then (if 16<=O.length then 9 else 0) else 8:=by
    rw [c0.out,if_neg (by decide),y]
    cases x0 with
    | file f=>have:=HT.out.files _ _ y;show _=if f.kd=1 then _ else _;rw [if_pos this]
    | dir S0=>rfl
   have HC:=ae H;clear C h4 h y HY c0 H D3
   go_wp2_with fail
   generalize w3.setCell ⟨nc,0,W⟩ (Z .i64 (id:Int))=w4 at *;refine o0.out.mono ?_;rintro e w5 hq;rcases hq with ⟨e0,z,rfl,K0,L0,N0,R0,d5,h⟩|⟨e0,rfl,d5,h⟩
   .have h6:=h.to (by unfold aD;ac_rfl:_=dG t m O*(vA x b v T k*(aD nc (id:Int)*(ay pc p*(bg t fc*(dh u g*F))))))
    have h7:ag w5 (mp m (lZ O)*(pt t.f (iD t (.map (X m)))*(vA x b v T k*(aD nc (id:Int)*(ay pc p*(bg t fc*(dh u g*F))))))):=h6.to (by unfold dG;ac_rfl);have q0:=h7.Ve (P:=V) underlying89 3;have r0:(lZ O).length=O.length:=by unfold lZ;exact M1 _
    rw [r0] at q0;have c1:w5.cell? ⟨t.f,1,W⟩=X (.map (X m)):=h7.ah.cell 1;have cf:w5.cell? ⟨fc,0,W⟩=X (az t.f):=(h7.to (by unfold bg;ac_rfl:_=pt fc (Y #[az t.f] 25 (0,0))*(mp m (lZ O)*(pt t.f (iD t (.map (X m)))*(vA x b v T k*(aD nc (id:Int)*(ay pc p*(dh u g*F)))))))).cell 0;have H6:=ae h6;have D6:=ae (D5.out.trans d5);have H:iN T O p=if 16<=O.length then 9 else 0:=by rw [HC.out,if_pos e0]
    have b0:=ae H;obtain ⟨S,p0⟩:∃ S,O.length=S:=⟨_,rfl⟩
    rw [p0] at q0 b0;clear h h6 h7 o0 n1 K0 L0 N0 R0 d5 D5 HC H p0 r0 e0
    by_cases h0:16<=S
    .have D0:(16:Int)<=(S:Int):=by omega
     have F0:=ae fun w=>dg w 9 (by decide)
     go_wp2_with fail
     refine (F0.out _).mono ?_;rintro e w7 ⟨rfl,rfl⟩;exact ⟨rfl,d0.out 9 (by decide) (by rw [b0.out,if_pos h0]) _ _ D6.out (H6.out.to (by ac_rfl:_=dh u g*(vA x b v T k*(ay pc p*(aD nc (id:Int)*(bg t fc*(dG t m O*F))))))).right⟩
    .have D0:(S:Int)<16:=by omega
     have G0:=ae (k0.out _ _ ⟨D6.out,.inl ⟨by rw [b0.out,if_neg h0],rfl,(H6.out.to (by ac_rfl:_=dh u g*(vA x b v T k*((ay pc p*(aD nc (id:Int)*bg t fc))*(dG t m O*F))))).right⟩⟩);clear h0 b0
     go_wp2_with fail
     go_end0
     exact G0.out
   .exact ⟨rfl,d0.out 8 (by decide) (by rw [HC.out,if_neg e0]) _ _ (D5.out.trans d5) (h.to (by unfold aD;ac_rfl:_=dh u g*(vA x b v T k*(ay pc p*(aD nc (id:Int)*(bg t fc*(dG t m O*F))))))).right⟩
  .exact ⟨rfl,d0.out _ E (by rw [c0.out,if_pos E]) 0 _ D3.out (C.to (by ac_rfl:_=dh u g*(vA x b v T k*(ay pc p*(aD nc 0*(bg t fc*(dG t m O*F))))))).right⟩
end
end Go.Proofs.Cl
namespace Go.SL
open RowKit
theorem Nh {u:Type} (M:List (Int × u)) (x:Int) (h:(aP M x).isSome=I):(del M x).length+1<=M.length:=by
 have i:∃ p ∈ M,(!(p.1 == x))=false:=by
  unfold aP at h;rw [R1,List.find?_isSome] at h;obtain ⟨p,g,e⟩:=h;exact ⟨p,g,by simpa using e⟩
 obtain ⟨p,g,e⟩:=i;unfold del
 have:(M.filter fun p => !(p.1 == x)).length<M.length:=by
  rw [List.length_filter_lt_length_iff_exists];exact ⟨p,g,by rw [e];decide⟩
 omega
theorem yE {e:Type}:∀ (m:Nat) (M:List (Int × e)),(∀ j:Nat,j<m->(aP M (j:Int)).isSome=I)->m<=M.length
 | 0,_,_=>Nat.zero_le _
 | m+1,M,h=>by
  have g:=Nh M (m:Int) (h m (by omega));have i:=yE m (del M (m:Int)) fun j u=>by rw [BE,if_neg (by omega)];exact h j (by omega)
  omega
end Go.SL
namespace Go.Proofs.Cl
open RowKit SL Proofs.Nn Proofs.Ba Proofs.Su Proofs.Fs
attribute [local go_sem] Oper.semAt_some
section
variable {t:Pl} {q:Dk t.n} {s s':Ds} {T:Tr} {k m:Nat} {O:jT} {w:U} {F:ai} {p:List UInt8}
def _root_.Go.SL.eu (O:List (Int × (Nat × Nat))) (fd:Int) (o:Nat × Nat):List (Int × (Nat × Nat)):=Go.SL.fK O fd o
theorem GS (O:jT) (fd:Int) (o:Nat × Nat):Go.SL.fK (lZ O) fd (DG o)=lZ (eu O fd o):=by
 unfold eu Go.SL.fK;rw [B1,R1];unfold lZ
 split
 .rw [List.map_map,List.map_map]
  apply List.map_congr_left;intro p _;simp only [Function.comp]
  split <;> rfl
 .rw [List.map_append];rfl
def vm (t:Pl) (q:Dk t.n) (m:Nat) (s:Ds) (T:Tr) (k:Nat) (O:jT) (p:List UInt8) (F:ai) (w:U) (e:Ending) (w':U):Prop:=
 ∃ s',aj w w'/\s.Rd s'/\((iN T O p≠0/\e = Q (K #[Z .i64 0,Z .i64 (iN T O p)])/\ag w' (dJ t s' m O*F)) \/
  (iN T O p=0/\∃ fd:Nat,(∀ j:Nat,j<fd->(aP O (j:Int)).isSome=I)/\aP O (fd:Int)=W/\e = Q (K #[Z .i64 (fd:Int),Z .i64 0])/\ag w' (dJ t s' m (eu O fd ((bG T p).2,0))*F)))
def Vp (t:Pl) (m:Nat) (O:jT) (e:ai) (w0:U) (u:N) (wr:U):Prop:=
 ∃ fd:Nat,u = Z .i64 (fd:Int)/\(∀ j:Nat,j<fd->(aP O (j:Int)).isSome=I)/\aj w0 wr/\ag wr (dG t m O*e)
theorem od (hf:mW t q s T k) (hB:s.B<=1000000) (hO:O.length<=1000) (h:ag w (dJ t s m O*F)) :
  Calls V 16 #[az t.f,L (str p)] w (vm t q m s T k O p F w):=by
 refine aH fun s0 E=>?_;have hA:=(((h.alloc (Y #[az t.f] 25 (0,0))).alloc (Y #[L (str p)] 9 (0,0))).alloc (Y #[Z .i64 0] 3 (0,0)))
 simp only [K1] at hA;have dA:=ae ((((aj.refl w).alloc (Y #[az t.f] 25 (0,0))).alloc (Y #[L (str p)] 9 (0,0))).alloc (Y #[Z .i64 0] 3 (0,0)))
 have hd:=ae fun (pc nc e:Nat) (w':U) (h':ag w' (dJ t s m O*((ay pc p*(aD nc 0*bg t e))*F)))=>
  jw hf hB 48 #[az pc,az nc,az e] (ay pc p*(aD nc 0*bg t e)) (iN T O p) (ay pc p*(aD nc ((bG T p).2:Nat)*bg t e)) (ay pc p*(Ls nc*bg t e)) (enters func48 (by kernel_rfl) rfl)
   (fun x v b w1 o0 C=>Mh (x:=x) (b:=b) (v:=v) (k:=k) (pc:=pc) (nc:=nc) (fc:=e) (F:=o0) (p:=p) hf.ty C) h'
 have HA:=ae hA;have k0:=ae (yE (M:=O));have HO:=ae hO;clear h hA hB hf hO;unfold vm at E;generalize iN T O p=c at *;generalize (bG T p).2=id at *
 go_enter func16,ntmps16
 go_wp2_with fail
 generalize ((w.alloc (Y #[az t.f] 25 (0,0))).alloc (Y #[L (str p)] 9 (0,0))).alloc (Y #[Z .i64 0] 3 (0,0))=w1 at *;generalize w.heap.size=e at *;refine (hd.out (e+1) (e+1+1) e _ (HA.out.to (by unfold ay aD bg;ac_rfl))).mono ?_;rintro i0 w2 ⟨s',rfl,d2,hr,i⟩;have D2:=ae (dA.out.trans d2);clear hd dA d2 HA
 by_cases hc:c=0
 .subst hc
  rw [if_pos rfl] at i;have g:ag w2 (dG t m O*(lL t s'*((ay (e+1) p*(aD (e+1+1) (id:Nat)*bg t e))*F))):=i.to (by unfold dJ dG;ac_rfl);generalize hZ:lL t s'*((ay (e+1) p*(aD (e+1+1) (id:Nat)*bg t e))*F)=M at g;have HZ:=ae hZ.symm;have H3:=ae g
  have jX:∀ wr,ag wr (dG t m O*M)->wr.cell? ⟨e,0,W⟩=X (az t.f)/\wr.cell? ⟨e+1+1,0,W⟩=X (Z .i64 (id:Int))/\wr.cell? ⟨t.f,1,W⟩=X (.map (X m)):=fun wr C=>by
   have r0:=C;rw [HZ.out] at C
   exact ⟨(C.to (by unfold bg;ac_rfl:_=pt e (Y #[az t.f] 25 (0,0))*(dG t m O*(lL t s'*((ay (e+1) p*aD (e+1+1) (id:Nat))*F))))).cell 0,
    (C.to (by unfold aD;ac_rfl:_=pt (e+1+1) (Y #[Z .i64 (id:Int)] 3 (0,0))*(dG t m O*(lL t s'*((ay (e+1) p*bg t e)*F))))).cell 0,
    (r0.to (by unfold dG;ac_rfl:_=pt t.f (iD t (.map (X m)))*(mp m (lZ O)*M))).cell 1⟩
  have HC:=ae jX;have h0:=ae fun (fd:Nat) (w':U) (d:aj w w') (ha:∀ j:Nat,j<fd->(aP O (j:Int)).isSome=I) (hn:aP O (fd:Int)=W) (hs:ag w' (dJ t s' m (eu O (fd:Int) (id,0))*F))=>E.out _ _ ⟨s',d,hr,.inr ⟨rfl,fd,ha,hn,rfl,hs⟩⟩;clear i g hZ jX E
  go_wp2_with fail
  go_loopw [8] (fun f0 wr=>Vp t m O M w f0 wr) (fun f0 _=>O.length+1-(intOf f0).toNat)
  case atStart=>exact ⟨0,rfl,fun j hj=>absurd hj (Nat.not_lt_zero _),D2.out,H3.out⟩
  case round=>
   obtain ⟨fd,rfl,d0,n0,b0⟩:=hrel;have l0:=k0.out fd d0;have p0:fd<=1000:=by have:=HO.out;omega
   obtain ⟨e1,e2,e3⟩:=HC.out wr b0;have u:=ae (mC (fd:=(fd:Int)) b0);have HS:=ae b0;have c0:=ae d0;have D:=ae n0;have g0:=ae l0;have u0:(fd:Int)<=1000:=by omega
   clear b0 d0 n0 l0 p0 e2 e3
   cases y:(aP O (fd:Int)).isSome with
   | true=>
    rw [y] at u;have H:=ae y;clear y
    go_wp2_with fail
    refine u.out.mono ?_;rintro i0 w3 ⟨rfl,G,g⟩;have D3:=ae (D.out.trans G);have H4:=ae g;clear u G g e1
    go_wp2_with fail
    go_roundw
    case rel=>exact ⟨fd+1,by go_num,fun j hj=>by
     rcases Nat.lt_succ_iff_lt_or_eq.1 hj with h|rfl
     .exact c0.out j h
     .exact H.out,D3.out,H4.out⟩
    case measure=>have:=g0.out;simp [intOf];omega
   | false=>
    rw [y] at u;have H:=ae y;clear y
    go_wp2_with fail
    refine u.out.mono ?_;rintro i0 w3 ⟨rfl,G,g⟩;obtain ⟨f1,f2,f3⟩:=HC.out w3 g;obtain ⟨w4,q0,h4,d4,S⟩:=ag.mapUpdate (P:=V) underlying89 underlying3 (w:=w3.drew) (g.drew.to (by unfold dG;ac_rfl:_=mp m (lZ O)*(pt t.f (iD t (.map (X m)))*M))) (fd:Int) (DG (id,0));rw [GS] at h4
    have m0:aP O (fd:Int)=W:=by
     have:=H.out
     cases hk:aP O (fd:Int) with
     | none=>rfl
     | some o=>rw [hk] at this;cases this
    have e0:=ae (h0.out fd w4 ((D.out.trans G).drew.trans d4) c0.out m0 (by rw [HZ.out] at h4;exact (h4.to (by unfold dJ;ac_rfl:_=(ay (e+1) p*(aD (e+1+1) (id:Nat)*bg t e))*(dJ t s' m (eu O (fd:Int) (id,0))*F))).right));have g3:w4.cell? ⟨t.f,1,W⟩=X (.map (X m)):=(S.1 _).trans f3;have g2:w4.cell? ⟨e+1+1,0,W⟩=X (Z .i64 (id:Int)):=(S.1 _).trans f2;have g1:w4.cell? ⟨e,0,W⟩=X (az t.f):=(S.1 _).trans f1;clear u G g h4 d4 HS c0 D g0 H m0 e1 HC H3 D2 HO k0 h0 S;simp only [DG,Int.ofNat_zero] at q0
    go_wp2_with fail
    go_region_held3 (fun w'=>w'.cell? ⟨e,0,W⟩=X (az t.f)/\w'.cell? ⟨e+1+1,0,W⟩=X (Z .i64 (id:Int))/\w'.cell? ⟨t.f,1,W⟩=X (.map (X m))) (go_keep) (fail)
    go_wp2_with fail
    exact e0.out
 .have e0:=ae (E.out _ _ ⟨s',D2.out,hr,.inl ⟨hc,rfl,by rw [if_neg hc] at i;exact (i.to (by ac_rfl:_=(ay (e+1) p*(Ls (e+1+1)*bg t e))*(dJ t s' m O*F))).right⟩⟩)
  clear i E hr
  go_wp2_with fail
  exact e0.out
end
end Go.Proofs.Cl
namespace Go.SL
def eG (e at':Nat) (o wh:Int):Int:=(if wh=0 then 0 else if wh=1 then (at':Int) else (e:Int))+o
def gJ (e at':Nat) (o wh:Int):Int:=if (-122880<=o/\o<=122880)/\(wh=0\/wh=1\/wh=2)/\(0<=eG e at' o wh/\eG e at' o wh<=122880) then 0 else 1
end Go.SL
namespace Go.Proofs.Cl
open RowKit SL Proofs.Nn Proofs.Ba Proofs.Su Proofs.Fs
attribute [local go_sem] Oper.semAt_some
section
variable {n:Nat} {x:Fx n} {b v oc qc pc tc id at' k:Nat} {T:Tr} {w:U} {F:ai} {o wh z:Int}
def cQ (a:Nat) (z:Int):ai:=pt a (Y #[Z .i64 z] 2 (0,0))
def Pe (a:Nat):ai:=ex fun z=>cQ a z
theorem P1 {a:Nat} {z:Int} (h:ag w (cQ a z*F)):ag w (Pe a*F):=ag.aw.2 ⟨z,h⟩
def cl (a:Nat) (p:Nat × Nat):ai:=pt a (Y #[Z .i64 (p.1:Int),Z .i64 (p.2:Int)] 93 (0,0))
def FX {n:Nat} (x:Fx n) (b v oc qc pc tc id at' k g:Nat) (T:Tr) (F:ai) (o wh:Int) (w e:U):Prop:=
 ∃ z,(wh=0\/wh=1\/wh=2)/\eG g at' o wh=z+o/\0<=z/\z<=122880/\aj w e/\ag e (vA x b v T k*(cQ oc o*(aD qc wh*(cl pc (id,at')*(cQ tc z*F)))))
theorem OJ {f:AF} (y:T id=X (.file f)) (ha:at'<=122880) (hs:f.sz<=122880) (hO:-9223372036854775808<=o/\o<=9223372036854775807) (h:ag w (vA x b v T k*(cQ oc o*(aD qc wh*(cl pc (id,at')*(cQ tc 0*F)))))) :
  Calls V 57 #[az v,az oc,az qc,az pc,az tc] w (Jk (gJ f.sz at' o wh) (vA x b v T k*(cQ oc o*(aD qc wh*(cl pc (id,at')*(cQ tc (eG f.sz at' o wh)*F))))) (vA x b v T k*(cQ oc o*(aD qc wh*(cl pc (id,at')*(Pe tc*F))))) w):=by
 refine aH fun m0 i=>?_;have o0:w.cell? ⟨oc,0,W⟩=X (Z .i64 o):=h.ah.cell 0;have w0:w.cell? ⟨qc,0,W⟩=X (Z .i64 wh):=h.au.cell 0;have p0:w.cell? ⟨pc,0,W⟩=X (Z .i64 (id:Int)):=h.aA.cell 0;have p1:w.cell? ⟨pc,1,W⟩=X (Z .i64 (at':Int)):=h.aA.cell 1;have H:=ae h;have hn:=ae (jc y h)
 have g:Hid (gJ f.sz at' o wh=1->∀ (z:Int) (w':U),aj w w'->ag w' (vA x b v T k*(cQ oc o*(aD qc wh*(cl pc (id,at')*(cQ tc z*F)))))->m0 (.panicked (lG 1)) w'):=fun he z w' d r0=>
  i.out _ _ ⟨d,.inr ⟨by rw [he];decide,by rw [he],(P1 (r0.to (by ac_rfl:_=cQ tc z*(vA x b v T k*(cQ oc o*(aD qc wh*(cl pc (id,at')*F))))))).to (by ac_rfl)⟩⟩
 have i0:=ae mu;have c0:=ae nK;have f0:=ae fun w=>dg w 1 (by decide);clear h y
 by_cases hr:-122880<=o/\o<=122880
 .have hC:gJ f.sz at' o wh=if (wh=0\/wh=1\/wh=2)/\(0<=eG f.sz at' o wh/\eG f.sz at' o wh<=122880) then 0 else 1:=by unfold gJ;simp only [hr,true_and,and_self]
  have E:=ae hC;obtain ⟨r1,r2⟩:=hr;clear hC hO
  go_enter func57,ntmps57
  go_wp2_with fail
  refine (i0.out _).mono ?_;rintro e w2 ⟨rfl,rfl⟩;have n0:(at':Int)<=122880:=by omega
  have s0:(f.sz:Int)<=122880:=by omega
  clear ha hs
  go_upto_block 0 with (fail)
  go_cut [] from 13 to 27 (fun wx=>FX x b v oc qc pc tc id at' k f.sz T F o wh w wx)
  case first=>
   have t0:w.cell? ⟨tc,0,W⟩=X (Z .i64 0):=(H.out.to (by unfold cQ;ac_rfl:_=pt tc (Y #[Z .i64 0] 2 (0,0))*(vA x b v T k*(cQ oc o*(aD qc wh*(cl pc (id,at')*F)))))).cell 0;have y:=ae (H.out.to (by unfold cQ;ac_rfl:_=pt tc (Y #[Z .i64 0] 2 (0,0))*(vA x b v T k*(cQ oc o*(aD qc wh*(cl pc (id,at')*F))))));have g0:=y.out.frozen 0
   by_cases h0:wh=0
   .subst h0
    have HF:=ae (show FX x b v oc qc pc tc id at' k f.sz T F o 0 w w from ⟨0,.inl rfl,by unfold eG;rw [if_pos rfl],by decide,by decide,aj.refl w,H.out⟩);clear i g E hn y H
    go_wp2_with fail
    go_meet
    exact HF.out
   by_cases h1:wh=1
   .subst h1
    have h4:=y.out.setCell 0 (Z .i64 (at':Int));simp only [A1,E1] at h4;have HF:=ae (show FX x b v oc qc pc tc id at' k f.sz T F o 1 w (w.setCell ⟨tc,0,W⟩ (Z .i64 (at':Int))) from ⟨at',.inr (.inl rfl),by unfold eG;rw [if_neg (by decide),if_pos rfl],by omega,n0,(aj.refl w).setCell _ _,h4.to (by unfold cQ;ac_rfl)⟩);clear i g E hn y H h4
    go_wp2_with fail
    go_meet
    exact HF.out
   by_cases h2:wh=2
   .subst h2
    have HT:=ae (fun (w':U) (x0:ag w' (vA x b v T k*(cQ oc o*(aD qc 2*(cl pc (id,at')*(cQ tc 0*F))))))=>x0.to (by unfold cQ;ac_rfl:_=pt tc (Y #[Z .i64 0] 2 (0,0))*(vA x b v T k*(cQ oc o*(aD qc 2*(cl pc (id,at')*F))))));clear i g E y H
    go_wp2_with fail
    refine hn.out.mono ?_;rintro e w3 ⟨D0,rfl,e0,F0,G0,l0,d3,h3⟩;have n3:=(mn e0).1;obtain ⟨-,-,d0⟩:=ss e0 w3;rw [l0] at d0;have u:=HT.out w3 h3;have L0:w3.cell? ⟨tc,0,W⟩=X (Z .i64 0):=u.cell 0;have H0:=u.frozen 0;have h4:=u.setCell 0 (Z .i64 (f.sz:Int));simp only [A1,E1] at h4;have HF:=ae (show FX x b v oc qc pc tc id at' k f.sz T F o 2 w (w3.setCell ⟨tc,0,W⟩ (Z .i64 (f.sz:Int))) from ⟨f.sz,.inr (.inr rfl),by unfold eG;rw [if_neg (by decide),if_neg (by decide)],by omega,s0,d3.setCell _ _,h4.to (by unfold cQ;ac_rfl)⟩);generalize ints D0.l=yl at *;have K0:(Instr.field 65 (.agg yl) 2).run V w3 = .ok (Z .i64 ((f.sz:Nat):Int)) w3:=d0;clear h3 h4 u HT hn e0 F0 G0 l0 d3 n3 d0;generalize (f.sz:Int)=sz at *
    go_wp2_with fail
    go_meet
    exact HF.out
   .have C:=ae (g.out (by rw [E.out,if_neg];rintro ⟨h,-⟩;omega) 0 w (aj.refl w) H.out)
    have b0:(wh == 0)=false:=by simp [h0]
    have b1:(wh == 1)=false:=by simp [h1]
    have b2:(wh == 2)=false:=by simp [h2]
    clear i g E hn y H
    go_wp2_with fail
    refine (f0.out _).mono ?_;rintro e w2 ⟨rfl,rfl⟩;exact ⟨rfl,C.out⟩
  case rest=>
   obtain ⟨z,k0,hz,z1,z2,d3,h3⟩:=hcut;have h4:=h3.to (by unfold cQ;ac_rfl:_=pt tc (Y #[Z .i64 z] 2 (0,0))*(vA x b v T k*(pt oc (Y #[Z .i64 o] 2 (0,0))*(aD qc wh*(cl pc (id,at')*F)))));have t0:wc.cell? ⟨tc,0,W⟩=X (Z .i64 z):=h4.cell 0;have g0:=h4.frozen 0;have o0:wc.cell? ⟨oc,0,W⟩=X (Z .i64 o):=h4.au.cell 0;have u:=h4.setCell 0 (Z .i64 (z+o));simp only [A1,E1] at u;have t1:=u.cell 0;have G:=ae (d3.setCell ⟨tc,0,W⟩ (Z .i64 (z+o)));have M:=ae (u.to (by unfold cQ;ac_rfl:_=vA x b v T k*(cQ oc o*(aD qc wh*(cl pc (id,at')*(cQ tc (z+o)*F))))));have HZ:=ae hz;have S:=ae (show gJ f.sz at' o wh=if 0<=z+o/\z+o<=122880 then 0 else 1 by rw [E.out,hz];simp only [k0,true_and]);clear h3 h4 u hz E d3 hn f0 H k0;have u0:(wc.setCell ⟨tc,0,W⟩ (Z .i64 (z+o))).cell? ⟨tc,0,W⟩=X (Z .i64 (z+o)):=t1;clear t1
   by_cases r3:0<=z+o
   .by_cases r4:z+o<=122880
    .have q0:=ae (i.out (Q (K #[])) _ ⟨G.out,.inl ⟨by rw [S.out,if_pos ⟨r3,r4⟩],rfl,by rw [HZ.out];exact M.out⟩⟩)
     clear i g S HZ M G
     go_wp2_with fail
     refine (i0.out _).mono ?_;rintro e w2 ⟨rfl,rfl⟩
     go_wp2_with fail
     go_end0
     exact q0.out
    .have C:=ae (g.out (by rw [S.out,if_neg fun h=>r4 h.2]) _ _ G.out M.out)
     clear i g S HZ M G
     go_wp2_with fail
     refine (c0.out _).mono ?_;rintro e w2 ⟨rfl,rfl⟩;exact ⟨rfl,C.out⟩
   .have C:=ae (g.out (by rw [S.out,if_neg fun h=>r3 h.1]) _ _ G.out M.out)
    clear i g S HZ M G
    go_wp2_with fail
    refine (c0.out _).mono ?_;rintro e w2 ⟨rfl,rfl⟩;exact ⟨rfl,C.out⟩
 .have hC:gJ f.sz at' o wh=1:=by unfold gJ;rw [if_neg];intro h;exact hr h.1
  have C:=ae (g.out hC 0 w (aj.refl w) H.out)
  by_cases r1:-122880<=o
  .have r2:¬ o<=122880:=fun h=>hr ⟨r1,h⟩
   clear hC g H hn hr
   go_enter func57,ntmps57
   go_wp2_with fail
   refine (c0.out _).mono ?_;rintro e w2 ⟨rfl,rfl⟩;exact ⟨rfl,C.out⟩
  .clear hC g H hn hr
   go_enter func57,ntmps57
   go_wp2_with fail
   refine (c0.out _).mono ?_;rintro e w2 ⟨rfl,rfl⟩;exact ⟨rfl,C.out⟩
end
section
variable {t:Pl} {q:Dk t.n} {s s':Ds} {T:Tr} {k m:Nat} {O:jT} {w:U} {F:ai} {fd o wh:Int}
theorem zP {u:Nat × Nat} (e:aP O fd=X u) (h:ag w (dG t m O*F)):(Instr.lookup 89 (.map (X m)) (Z .i64 fd) I).run V w = .ok (K #[.agg #[Z .i64 (u.1:Int),Z .i64 (u.2:Int)],.bool I]) w:=by
 have:=yM h fd;rw [e] at this;exact this
theorem la (h:ag w (dG t m O*F)):w.cell? ⟨t.f,1,W⟩=X (.map (X m)):=(h.to (by unfold dG;ac_rfl:_=pt t.f (iD t (.map (X m)))*(mp m (lZ O)*F))).cell 1
theorem Fo (h:ag w (dG t m O*F)) (fd:Int) (u:Nat × Nat):∃ w',(Instr.mapUpdate 89 (.map (X m)) (Z .i64 fd) (.agg #[Z .i64 (u.1:Int),Z .i64 (u.2:Int)])).run V w = .ok () w'/\ag w' (dG t m (eu O fd u)*F)/\aj w w'/\oS w w':=by
 obtain ⟨y,i,h4,g,e⟩:=ag.mapUpdate (P:=V) underlying89 underlying3 (h.to (by unfold dG;ac_rfl:_=mp m (lZ O)*(pt t.f (iD t (.map (X m)))*F))) fd (DG u);rw [GS] at h4;exact ⟨y,i,h4.to (by unfold dG;ac_rfl),g,e⟩
def Q7 (t:Pl) (s:Ds) (m:Nat) (O:jT) (fd:Int) (id g at':Nat) (o wh:Int) (F:ai) (w:U) (e:Ending) (w':U):Prop:=
 ∃ s',aj w w'/\s.Rd s'/\((gJ g at' o wh≠0/\e = Q (K #[Z .i64 0,Z .i64 (gJ g at' o wh)])/\ag w' (dJ t s' m O*F)) \/
  (gJ g at' o wh=0/\e = Q (K #[Z .i64 (eG g at' o wh),Z .i64 0])/\ag w' (dJ t s' m (eu O fd (id,(eG g at' o wh).toNat))*F)))
theorem LA {f:AF} {id at':Nat} (hf:mW t q s T k) (hB:s.B<=1000000) (hy:aP O fd=X (id,at')) (hT:T id=X (.file f)) (ha:at'<=122880) (hO:-9223372036854775808<=o/\o<=9223372036854775807) (e0:ag w (dJ t s m O*F)) :
  Calls V 21 #[az t.f,Z .i64 fd,Z .i64 o,Z .i64 wh] w (Q7 t s m O fd id f.sz at' o wh F w):=by
 refine aH fun l0 h=>?_;have E:f.sz<=122880:=(hf.at_.has.wf (jD hT)).1.sz;have h1:ag w (dG t m O*(lL t s*F)):=e0.to (by unfold dJ dG;ac_rfl);have hA:=(((h1.alloc (Y #[Z .i64 o] 2 (0,0))).alloc (Y #[Z .i64 wh] 3 (0,0))))
 simp only [K1] at hA;have dA:=(((aj.refl w).alloc (Y #[Z .i64 o] 2 (0,0))).alloc (Y #[Z .i64 wh] 3 (0,0)))
 generalize k0:(w.alloc (Y #[Z .i64 o] 2 (0,0))).alloc (Y #[Z .i64 wh] 3 (0,0))=G at *;have y:ag G (dG t m O*(cQ w.heap.size o*(aD (w.heap.size+1) wh*(lL t s*F)))):=hA.to (by unfold cQ aD;ac_rfl);have hl:=zP hy y;have c1:=la y;have b0:=((y.alloc (Y #[Z .i64 (id:Int),Z .i64 (at':Int)] 93 (0,0))).alloc (Y #[Z .i64 0] 2 (0,0)))
 simp only [K1] at b0;have dB:=ae ((dA.alloc (Y #[Z .i64 (id:Int),Z .i64 (at':Int)] 93 (0,0))).alloc (Y #[Z .i64 0] 2 (0,0)))
 have hd:=ae fun (oc qc pc tc:Nat) (w':U) (h':ag w' (dJ t s m O*((cQ oc o*(aD qc wh*(cl pc (id,at')*cQ tc 0)))*F)))=>
  jw hf hB 57 #[az oc,az qc,az pc,az tc] (cQ oc o*(aD qc wh*(cl pc (id,at')*cQ tc 0))) (gJ f.sz at' o wh) (cQ oc o*(aD qc wh*(cl pc (id,at')*cQ tc (eG f.sz at' o wh)))) (cQ oc o*(aD qc wh*(cl pc (id,at')*Pe tc))) (enters func57 (by kernel_rfl) rfl)
   (fun x v b G g0 i=>(OJ (x:=x) (b:=b) (v:=v) (k:=k) (oc:=oc) (qc:=qc) (pc:=pc) (tc:=tc) (F:=dG t m O*g0) hT ha E hO (i.to (by ac_rfl))).mono fun h0 w' hq=>by simpa only [ax] using hq) h'
 have HB:=ae b0
 have f0:gJ f.sz at' o wh=0->∃ z:Nat,eG f.sz at' o wh=(z:Int):=fun e=>by
  unfold gJ at e
  by_cases hh:(-122880<=o/\o<=122880)/\(wh=0\/wh=1\/wh=2)/\(0<=eG f.sz at' o wh/\eG f.sz at' o wh<=122880)
  .exact ⟨(eG f.sz at' o wh).toNat,by omega⟩
  .rw [if_neg hh] at e;cases e
 have H:=ae f0;unfold Q7 at h;clear e0 h1 hA y dA b0 E hf hB hy hT hO ha f0;generalize gJ f.sz at' o wh=c at *;generalize eG f.sz at' o wh=zz at *
 go_enter func21,ntmps21
 go_wp2_with fail
 generalize (G.alloc (Y #[Z .i64 (id:Int),Z .i64 (at':Int)] 93 (0,0))).alloc (Y #[Z .i64 0] 2 (0,0))=w2 at *;generalize G.heap.size=pc at *;generalize w.heap.size=oc at *;refine (hd.out oc (oc+1) pc (pc+1) _ (HB.out.to (by unfold dJ dG cQ cl;ac_rfl))).mono ?_;rintro h0 w3 ⟨s',rfl,d3,C,g⟩;have u:=ae (dB.out.trans d3);clear hd dB d3 HB k0 hl c1
 by_cases e:c=0
 .subst e
  obtain ⟨z,rfl⟩:=H.out rfl;rw [if_pos rfl] at g;have d0:=ae fun (w':U) (d:aj w w') (E:ag w' (dJ t s' m (eu O fd (id,z))*F))=>h.out _ _ ⟨s',d,C,.inr ⟨rfl,rfl,by rw [O1];exact E⟩⟩;have h4:=g.to (by unfold dJ dG cl;ac_rfl:_=pt pc (Y #[Z .i64 (id:Int),Z .i64 (at':Int)] 93 (0,0))*(dG t m O*(cQ (pc+1) (z:Int)*(cQ oc o*(aD (oc+1) wh*(lL t s'*F))))));have t0:w3.cell? ⟨pc+1,0,W⟩=X (Z .i64 (z:Int)):=h4.au.cell 0;have p1:w3.cell? ⟨pc,1,W⟩=X (Z .i64 (at':Int)):=h4.cell 1;have g1:=h4.frozen 1;have M:=h4.setCell 1 (Z .i64 (z:Int));simp only [A1,E1,N1] at M;have D5:=ae (u.out.setCell ⟨pc,1,W⟩ (Z .i64 (z:Int)));have H5:=ae M;clear g h4 M h u H C
  go_wp2_with fail
  generalize w3.setCell ⟨pc,1,W⟩ (Z .i64 (z:Int))=w4 at *
  have jX:∀ (O:jT) (wr:U),ag wr (dG t m O*(pt pc (Y #[Z .i64 (id:Int),Z .i64 (z:Int)] 93 (0,0))*(cQ (pc+1) (z:Int)*(cQ oc o*(aD (oc+1) wh*(lL t s'*F))))))->wr.cell? ⟨t.f,1,W⟩=X (.map (X m))/\wr.cell? ⟨pc,0,W⟩=X (Z .i64 (id:Int))/\wr.cell? ⟨pc,1,W⟩=X (Z .i64 (z:Int)):=fun O wr i=>
   ⟨la i,i.ah.cell 0,i.ah.cell 1⟩
  have S:=H5.out.to (by ac_rfl:_=dG t m O*(pt pc (Y #[Z .i64 (id:Int),Z .i64 (z:Int)] 93 (0,0))*(cQ (pc+1) (z:Int)*(cQ oc o*(aD (oc+1) wh*(lL t s'*F))))));obtain ⟨e1,e2,e3⟩:=jX _ _ S;obtain ⟨w5,i0,h7,d7,ce⟩:=Fo S.drew fd (id,z);obtain ⟨f1,f2,f3⟩:=jX _ _ h7;have c0:=ae (d0.out w5 (D5.out.drew.trans d7) ((h7.to (by unfold dJ dG;ac_rfl:_=(pt pc (Y #[Z .i64 (id:Int),Z .i64 (z:Int)] 93 (0,0))*(cQ (pc+1) (z:Int)*(cQ oc o*aD (oc+1) wh)))*(dJ t s' m (eu O fd (id,z))*F))).right));dsimp only at i0;clear jX S h7 d7 ce D5 H5 d0 t0 p1 g1
  go_region_held3 (fun w'=>w'.cell? ⟨t.f,1,W⟩=X (.map (X m))/\w'.cell? ⟨pc,0,W⟩=X (Z .i64 (id:Int))/\w'.cell? ⟨pc,1,W⟩=X (Z .i64 (z:Int))) (go_keep) (fail)
  go_wp2_with fail
  exact c0.out
 .rw [if_neg e] at g
  have c0:=ae (h.out _ _ ⟨s',u.out,C,.inl ⟨e,rfl,(g.to (by ac_rfl:_=(cQ oc o*(aD (oc+1) wh*(cl pc (id,at')*Pe (pc+1))))*(dJ t s' m O*F))).right⟩⟩);clear g h C u H
  go_wp2_with fail
  exact c0.out
end
def _root_.Go.SL.nk (c:Int):Int:=if 0<=c/\c<=4096 then 0 else 1
def dU (a:Nat) (v:N):ai:=pt a (Y #[v] 22 (0,0))
def vy (a:Nat) (l:List UInt8):ai:=ex fun u=>bs 5 u l*dU a u
theorem rM {w:U} {a:Nat} {l:List UInt8} {F:ai}:ag w (vy a l*F)↔∃ u,ag w (bs 5 u l*(dU a u*F)):=by
 unfold vy;rw [ag.aw];exact exists_congr fun u=>by rw [ax]
section
variable {n:Nat} {x:Fx n} {b v nc pc rc id at' k:Nat} {T:Tr} {w:U} {F:ai} {c:Int}
theorem Jz {f:AF} (hT:T id=X (.file f)) (h:ag w (vA x b v T k*(aD nc c*(cl pc (id,at')*(dU rc (R W 0 0)*F))))) :
  Calls V 58 #[az v,az nc,az pc,az rc] w (Jk (nk c) (vA x b v T k*(aD nc c*(cl pc (id,at')*(vy rc (f.sub at' c.toNat)*F)))) (vA x b v T k*(aD nc c*(cl pc (id,at')*(dU rc (R W 0 0)*F)))) w):=by
 refine aH fun h0 g=>?_;have n0:w.cell? ⟨nc,0,W⟩=X (Z .i64 c):=h.ah.cell 0;have p0:w.cell? ⟨pc,0,W⟩=X (Z .i64 (id:Int)):=h.au.cell 0;have p1:w.cell? ⟨pc,1,W⟩=X (Z .i64 (at':Int)):=h.au.cell 1;have H:=ae h;have f0:=ae mu;have c0:=ae nK
 by_cases u:0<=c/\c<=4096
 .have i:nk c=0:=if_pos u
  rw [i] at g;obtain ⟨r1,r2⟩:=u;obtain ⟨m,rfl⟩:∃ m:Nat,c=(m:Int):=⟨c.toNat,by omega⟩
  rw [O1] at g;have hb:=ae (vi hT at' m h);clear h i hT
  go_enter func58,ntmps58
  go_wp2_with fail
  refine (f0.out _).mono ?_;rintro e y ⟨rfl,rfl⟩
  go_wp2_with fail
  refine hb.out.mono ?_;rintro e y ⟨d0,rfl,M,S⟩;have C:=S.to (by unfold dU;ac_rfl:_=pt rc (Y #[R W 0 0] 22 (0,0))*(bs 5 d0 (f.sub at' m)*(vA x b v T k*(aD nc (m:Int)*(cl pc (id,at')*F)))));have t0:y.cell? ⟨rc,0,W⟩=X (R W 0 0):=C.cell 0;have g0:=C.frozen 0;have h4:=C.setCell 0 d0;simp only [A1,E1] at h4;obtain ⟨E,G,rfl⟩:=aF h4.ah;generalize f.sub at' m=l at *;have h5:ag (y.setCell ⟨rc,0,W⟩ (R E l.length G)) (vy rc l*(vA x b v T k*(aD nc (m:Int)*(cl pc (id,at')*F)))):=rM.2 ⟨_,h4.to (by unfold dU;ac_rfl:_=bs 5 (R E l.length G) l*(dU rc (R E l.length G)*(vA x b v T k*(aD nc (m:Int)*(cl pc (id,at')*F)))))⟩;have e0:=ae (g.out _ _ ⟨M.setCell ⟨rc,0,W⟩ (R E l.length G),.inl ⟨rfl,rfl,h5.to (by ac_rfl)⟩⟩);clear S C h4 h5 g hb M H
  go_wp2_with fail
  go_end0
  exact e0.out
 .have i:nk c=1:=if_neg u
  rw [i] at g;have b0:=ae (g.out _ _ ⟨aj.refl w,.inr ⟨by decide,rfl,h⟩⟩)
  by_cases r1:0<=c
  .have r2:¬ c<=4096:=fun h=>u ⟨r1,h⟩
   clear i g H h u
   go_enter func58,ntmps58
   go_wp2_with fail
   refine (c0.out _).mono ?_;rintro e y ⟨rfl,rfl⟩;exact ⟨rfl,b0.out⟩
  .clear i g H h u
   go_enter func58,ntmps58
   go_wp2_with fail
   refine (c0.out _).mono ?_;rintro e y ⟨rfl,rfl⟩;exact ⟨rfl,b0.out⟩
end
section
variable {t:Pl} {q:Dk t.n} {s s':Ds} {T:Tr} {k m:Nat} {O:jT} {w:U} {F:ai} {fd c:Int}
def lr (t:Pl) (s:Ds) (m:Nat) (O:jT) (fd:Int) (id at':Nat) (l:List UInt8) (c:Int) (F:ai) (w:U) (e:Ending) (w':U):Prop:=
 ∃ s',aj w w'/\s.Rd s'/\((nk c≠0/\e = Q (K #[R W 0 0,Z .i64 (nk c)])/\ag w' (dJ t s' m O*F)) \/
  (nk c=0/\∃ u,e = Q (K #[u,Z .i64 0])/\ag w' (bs 5 u l*(dJ t s' m (eu O fd (id,at'+l.length))*F))))
theorem Ov {f:AF} {id at':Nat} (hf:mW t q s T k) (hB:s.B<=1000000) (hy:aP O fd=X (id,at')) (hT:T id=X (.file f)) (ha:at'<=122880) (g0:ag w (dJ t s m O*F)) :
  Calls V 22 #[az t.f,Z .i64 fd,Z .i64 c] w (lr t s m O fd id at' (f.sub at' c.toNat) c F w):=by
 refine aH fun q0 C=>?_
 have i0:nk c=0->(f.sub at' c.toNat).length<=4096:=fun i=>by
  unfold nk at i
  by_cases hh:0<=c/\c<=4096
  .unfold AF.sub;rw [M1,List.length_range];omega
  .rw [if_neg hh] at i;cases i
 have c0:=ae i0;have h1:ag w (dG t m O*(lL t s*F)):=g0.to (by unfold dJ dG;ac_rfl);have hA:=h1.alloc (Y #[Z .i64 c] 3 (0,0));have dA:=(aj.refl w).alloc (Y #[Z .i64 c] 3 (0,0));generalize o0:w.alloc (Y #[Z .i64 c] 3 (0,0))=w1 at *;have S:ag w1 (dG t m O*(aD w.heap.size c*(lL t s*F))):=hA.to (by unfold aD;ac_rfl);have hl:=zP hy S;have c1:=la S;have d0:=((S.alloc (Y #[Z .i64 (id:Int),Z .i64 (at':Int)] 93 (0,0))).alloc (Y #[R W 0 0] 22 (0,0)))
 simp only [K1] at d0;have dB:=ae ((dA.alloc (Y #[Z .i64 (id:Int),Z .i64 (at':Int)] 93 (0,0))).alloc (Y #[R W 0 0] 22 (0,0)))
 have hd:=ae fun (nc pc rc:Nat) (w':U) (h':ag w' (dJ t s m O*((aD nc c*(cl pc (id,at')*dU rc (R W 0 0)))*F)))=>
  jw hf hB 58 #[az nc,az pc,az rc] (aD nc c*(cl pc (id,at')*dU rc (R W 0 0))) (nk c) (aD nc c*(cl pc (id,at')*vy rc (f.sub at' c.toNat))) (aD nc c*(cl pc (id,at')*dU rc (R W 0 0))) (enters func58 (by kernel_rfl) rfl)
   (fun x v b w1 k0 y=>(Jz (x:=x) (b:=b) (v:=v) (k:=k) (nc:=nc) (pc:=pc) (rc:=rc) (F:=dG t m O*k0) (c:=c) hT (y.to (by ac_rfl))).mono fun l0 w' hq=>by simpa only [ax] using hq) h'
 have HB:=ae d0;unfold lr at C;clear g0 h1 hA S dA d0 hf hB hy hT i0;generalize nk c=p0 at *;generalize f.sub at' c.toNat=l at *;have s0:(at':Int)<=122880:=by omega
 clear ha
 go_enter func22,ntmps22
 go_wp2_with fail
 generalize (w1.alloc (Y #[Z .i64 (id:Int),Z .i64 (at':Int)] 93 (0,0))).alloc (Y #[R W 0 0] 22 (0,0))=w2 at *;generalize w1.heap.size=pc at *;generalize w.heap.size=nc at *;refine (hd.out nc pc (pc+1) _ (HB.out.to (by unfold dJ dG dU cl;ac_rfl))).mono ?_;rintro l0 w3 ⟨s',rfl,d3,hr,u⟩;have E:=ae (dB.out.trans d3);clear hd dB d3 HB o0 hl c1
 by_cases i:p0=0
 .subst i
  have h0:=c0.out rfl;rw [if_pos rfl] at u;obtain ⟨D0,M⟩:=(rM (a:=pc+1)).1 (u.to (by ac_rfl:_=vy (pc+1) l*(dJ t s' m O*(aD nc c*(cl pc (id,at')*F)))));obtain ⟨e,g,rfl⟩:=aF M;have b0:=ae fun (w':U) (d:aj w w') (hs:ag w' (bs 5 (R e l.length g) l*(dJ t s' m (eu O fd (id,at'+l.length))*F)))=>C.out _ _ ⟨s',d,hr,.inr ⟨rfl,_,rfl,hs⟩⟩;obtain ⟨z,hz⟩:∃ z,l.length=z:=⟨_,rfl⟩
  rw [hz] at M h0 b0;have h4:=M.to (by unfold dJ dG cl dU;ac_rfl:_=pt pc (Y #[Z .i64 (id:Int),Z .i64 (at':Int)] 93 (0,0))*(pt (pc+1) (Y #[R e z g] 22 (0,0))*(dG t m O*(bs 5 (R e z g) l*(aD nc c*(lL t s'*F))))));have t0:w3.cell? ⟨pc+1,0,W⟩=X (R e z g):=h4.ah.cell 0;have p1:w3.cell? ⟨pc,1,W⟩=X (Z .i64 (at':Int)):=h4.cell 1;have g1:=h4.frozen 1;have h5:=h4.setCell 1 (Z .i64 ((at'+z:Nat):Int));simp only [A1,E1,N1] at h5;have G:=ae (E.out.setCell ⟨pc,1,W⟩ (Z .i64 ((at'+z:Nat):Int)));have H:=ae h5;have x0:(z:Int)<=4096:=by omega
  have f0:((at'+z:Nat):Int)=(at':Int)+(z:Int):=by omega
  rw [f0] at H G;have u0:0<=(z:Int):=by omega
  have r0:0<=(at':Int):=by omega
  clear u M h4 h5 C E hr c0 hz h0;generalize m0:at'+z=h at *
  go_wp2_with fail
  rw [<- f0] at H G ⊢;generalize w3.setCell ⟨pc,1,W⟩ (Z .i64 (h:Int))=w4 at *
  have jX:∀ (O:jT) (wr:U),ag wr (dG t m O*(pt pc (Y #[Z .i64 (id:Int),Z .i64 (h:Int)] 93 (0,0))*(pt (pc+1) (Y #[R e z g] 22 (0,0))*(bs 5 (R e z g) l*(aD nc c*(lL t s'*F))))))->wr.cell? ⟨t.f,1,W⟩=X (.map (X m))/\wr.cell? ⟨pc,0,W⟩=X (Z .i64 (id:Int))/\wr.cell? ⟨pc,1,W⟩=X (Z .i64 (h:Int))/\wr.cell? ⟨pc+1,0,W⟩=X (R e z g):=fun O wr y=>
   ⟨la y,y.ah.cell 0,y.ah.cell 1,y.au.cell 0⟩
  have h6:=H.out.to (by ac_rfl:_=dG t m O*(pt pc (Y #[Z .i64 (id:Int),Z .i64 (h:Int)] 93 (0,0))*(pt (pc+1) (Y #[R e z g] 22 (0,0))*(bs 5 (R e z g) l*(aD nc c*(lL t s'*F))))));obtain ⟨e1,e2,e3,e4⟩:=jX _ _ h6;obtain ⟨w5,n0,h7,d7,ce⟩:=Fo h6.drew fd (id,h);obtain ⟨f1,f2,f3,f4⟩:=jX _ _ h7;have e0:=ae (b0.out w5 (G.out.drew.trans d7) ((h7.to (by unfold dJ dG;ac_rfl:_=(pt pc (Y #[Z .i64 (id:Int),Z .i64 (h:Int)] 93 (0,0))*(pt (pc+1) (Y #[R e z g] 22 (0,0))*aD nc c))*(bs 5 (R e z g) l*(dJ t s' m (eu O fd (id,h))*F)))).right));dsimp only at n0;clear jX h6 h7 d7 ce G H b0 t0 p1 g1 f0 m0
  go_region_held3 (fun w'=>w'.cell? ⟨t.f,1,W⟩=X (.map (X m))/\w'.cell? ⟨pc,0,W⟩=X (Z .i64 (id:Int))/\w'.cell? ⟨pc,1,W⟩=X (Z .i64 (h:Int))) (go_keep) (fail)
  go_wp2_with fail
  exact e0.out
 .rw [if_neg i] at u
  have e0:=ae (C.out _ _ ⟨s',E.out,hr,.inl ⟨i,rfl,(u.to (by ac_rfl:_=(aD nc c*(cl pc (id,at')*dU (pc+1) (R W 0 0)))*(dJ t s' m O*F))).right⟩⟩);clear u C hr E c0
  go_wp2_with fail
  exact e0.out
end
end Go.Proofs.Cl
namespace Go.SL
theorem Tidy.file {n id:Nat} {T:Tr} {f f':AF} (h:Tidy n T) (y:T id=X (.file f)) (G:f'.kd=f.kd) (H:f'.lk=f.lk):Tidy n (du T id (X (.file f'))):=by
 have M:=h.lt y
 have S:id≠1:=by
  rintro rfl;obtain ⟨C,E⟩:=h.root;rw [E] at y;cases y
 refine ⟨?_,fun i C u=>?_,fun i g u=>?_,fun i=>?_,fun i u=>?_⟩
 .obtain ⟨C,E⟩:=h.root
  exact ⟨C,by unfold du;rw [if_neg (Ne.symm S)];exact E⟩
 .unfold du at u
  split at u
  .cases u
  .exact h.ow _ _ u
 .unfold du at u
  split at u
  .cases u;rw [G];exact h.files _ _ y
  .exact h.files _ _ u
 .have:=rk M (T:=T) (X (.file f')) i
  rw [y] at this;have e:refs n (du T id (X (.file f'))) i=refs n T i:=by simpa [dM] using this
  rw [e,h.ref];unfold du
  split
  .rename_i e;subst e;rw [y];exact H.symm
  .rfl
 .unfold du
  rw [if_neg (by omega)];exact h.out _ u
def Mb (z:Int):Int:=if 0<=z/\z<=122880 then 0 else 1
def KQ (T:Tr) (k id:Nat) (f:AF) (z:Int) (c:Int) (e:Tr) (g:Nat):Prop:=
 c=Mb z/\(c=0->e=du T id (X (.file (f.cut z.toNat)))/\g=k+bh f.pr-bh (f.cut z.toNat).pr)
end Go.SL
namespace Go.Proofs.Cl
open RowKit SL Proofs.Nn Proofs.Ba Proofs.Su Proofs.Fs
attribute [local go_sem] Oper.semAt_some
section
variable {n:Nat} {x:Fx n} {b v nc pc id at' k:Nat} {T:Tr} {w:U} {F:ai} {z:Int}
theorem QL {f:AF} (H:Tidy n T) (C:T id=X (.file f)) (h:ag w (vA x b v T k*((aD nc z*cl pc (id,at'))*F))) :
  Calls V 59 #[az v,az nc,az pc] w (Tf x b v (KQ T k id f z) ((aD nc z*cl pc (id,at'))*F) w):=by
 refine aH fun h0 y=>?_;have G:=h.to (by ac_rfl:_=vA x b v T k*(aD nc z*(cl pc (id,at')*F)));have n0:w.cell? ⟨nc,0,W⟩=X (Z .i64 z):=G.ah.cell 0;have g0:=ae mu;have d0:=ae nK
 by_cases u:0<=z/\z<=122880
 .have i:Mb z=0:=if_pos u
  obtain ⟨r1,r2⟩:=u;obtain ⟨m,rfl⟩:∃ m:Nat,z=(m:Int):=⟨z.toNat,by omega⟩
  have S:m<=122880:=by omega
  have b0:=ae fun (w':U) (d:aj w w') (hs:ag w' (vA (x.more 4) b v (du T id (X (.file (f.cut m)))) (k+bh f.pr-bh (f.cut m).pr)*((aD nc (m:Int)*cl pc (id,at'))*F)))=>
   y.out (Q (K #[])) w' ⟨0,_,_,4,⟨i.symm,fun _=>⟨by rw [O1],by rw [O1]⟩⟩,fun _=>H.file (f':=f.cut m) C rfl rfl,.inl ⟨rfl,rfl⟩,d,by decide,hs⟩
  have g:=h.to (by unfold vA cl aD;ac_rfl:_=ea x b (ft T) k*(pt v (bN b n)*(pt nc (Y #[Z .i64 (m:Int)] 3 (0,0))*(pt pc (Y #[Z .i64 (id:Int),Z .i64 (at':Int)] 93 (0,0))*F))));have E:w.cell? ⟨v,0,W⟩=X (az b)/\w.cell? ⟨v,1,W⟩=X (Z .i64 (n:Int))/\w.cell? ⟨pc,0,W⟩=X (Z .i64 (id:Int))/\w.cell? ⟨nc,0,W⟩=X (Z .i64 (m:Int)):=⟨g.ah.cell 0,g.ah.cell 1,g.aA.cell 0,g.au.cell 0⟩
  have ha:=ae fun w' (h':ag w' (ea x b (ft T) k*(pt v (bN b n)*(pt nc (Y #[Z .i64 (m:Int)] 3 (0,0))*(pt pc (Y #[Z .i64 (id:Int),Z .i64 (at':Int)] 93 (0,0))*F)))))=>Ag h' (jD C) m S;have Hk:=ae fun w=>cV w;have H1:=ae g;have K0:=ae E;clear h G g C H i y E S;have S:(m:Int)<=122880:=r2
  go_enter func59,ntmps59
  go_wp2_with fail
  refine (g0.out _).mono ?_;rintro e w2 ⟨rfl,rfl⟩
  go_wp2_with fail
  have E:=K0.out
  go_region_held3 (fun w'=>w'.cell? ⟨v,0,W⟩=X (az b)/\w'.cell? ⟨v,1,W⟩=X (Z .i64 (n:Int))/\w'.cell? ⟨pc,0,W⟩=X (Z .i64 (id:Int))/\w'.cell? ⟨nc,0,W⟩=X (Z .i64 (m:Int)))
   (first|exact E|exact k1|go_keep)
   (first
    | (go_at_call 60;refine (ha.out _ H1.out.drew).mono ?_;rintro e M ⟨rfl,d4,h4⟩;have k1:M.cell? ⟨v,0,W⟩=X (az b)/\M.cell? ⟨v,1,W⟩=X (Z .i64 (n:Int))/\M.cell? ⟨pc,0,W⟩=X (Z .i64 (id:Int))/\M.cell? ⟨nc,0,W⟩=X (Z .i64 (m:Int)):=⟨h4.ah.cell 0,h4.ah.cell 1,h4.aA.cell 0,h4.au.cell 0⟩)
    | (go_at_call 34;refine (Hk.out _).mono ?_;rintro e w5 ⟨rfl,rfl⟩))
  rename_i e0;clear e0 E k1 K0 ha H1;rw [show du (ft T) id (X (f.cut m))=ft (du T id (X (.file (f.cut m)))) from qG T id (.file (f.cut m))] at h4;have f0:=ae (b0.out _ ((aj.refl w).drew.trans d4) (h4.to (by unfold vA cl aD;ac_rfl)));clear h4 d4 b0
  go_wp2_with fail
  go_end0
  exact f0.out
 .have i:Mb z=1:=if_neg u
  have c0:=ae (y.out (.panicked (lG 1)) w ⟨1,T,k,0,⟨i.symm,fun h=>absurd h (by decide)⟩,fun h=>absurd h (by decide),.inr ⟨by decide,rfl⟩,aj.refl w,by decide,(ag.tZ (x:=x) 0 (pK h |>.to (aI _ _ _))).to (by unfold vA;ac_rfl)⟩)
  by_cases r1:0<=z
  .have r2:¬ z<=122880:=fun h=>u ⟨r1,h⟩
   clear i y h G u H C
   go_enter func59,ntmps59
   go_wp2_with fail
   refine (d0.out _).mono ?_;rintro e w2 ⟨rfl,rfl⟩;exact ⟨rfl,c0.out⟩
  .clear i y h G u H C
   go_enter func59,ntmps59
   go_wp2_with fail
   refine (d0.out _).mono ?_;rintro e w2 ⟨rfl,rfl⟩;exact ⟨rfl,c0.out⟩
end
section
variable {t:Pl} {q:Dk t.n} {s s':Ds} {T:Tr} {k m:Nat} {O:jT} {w:U} {F:ai} {fd z:Int}
theorem Is {f:AF} {id at':Nat} (i:mW t q s T k) (hB:s.B<=1000000) (hy:aP O fd=X (id,at')) (hT:T id=X (.file f)) (h:ag w (dJ t s m O*F)) :
  Calls V 23 #[az t.f,Z .i64 fd,Z .i64 z] w (O4 t q m s O (KQ T k id f z) F w):=by
 refine aH fun f0 y=>?_;have H:ag w (dG t m O*(lL t s*F)):=h.to (by unfold dJ dG;ac_rfl);have S:=H.alloc (Y #[Z .i64 z] 3 (0,0));have E:=(aj.refl w).alloc (Y #[Z .i64 z] 3 (0,0));generalize e0:w.alloc (Y #[Z .i64 z] 3 (0,0))=g at *;have e:ag g (dG t m O*(aD w.heap.size z*(lL t s*F))):=S.to (by unfold aD;ac_rfl);have hl:=zP hy e;have c1:=la e;have b0:=e.alloc (Y #[Z .i64 (id:Int),Z .i64 (at':Int)] 93 (0,0));have G:=ae (E.alloc (Y #[Z .i64 (id:Int),Z .i64 (at':Int)] 93 (0,0)))
 have hd:=ae fun (nc pc:Nat) (w':U) (h':ag w' (dJ t s m O*((aD nc z*cl pc (id,at'))*F)))=>
  l9 i hB 59 #[az nc,az pc] (aD nc z*cl pc (id,at')) (KQ T k id f z) (enters func59 (by kernel_rfl) rfl)
   (fun x v b g c0 hw=>(QL (x:=x) (b:=b) (v:=v) (k:=k) (nc:=nc) (pc:=pc) (F:=dG t m O*c0) (z:=z) i.ty hT hw)) h'
 have u:=ae b0;clear h H S e E b0 i hB hy hT
 go_enter func23,ntmps23
 go_wp2_with fail
 generalize g.alloc (Y #[Z .i64 (id:Int),Z .i64 (at':Int)] 93 (0,0))=w2 at *;generalize g.heap.size=pc at *;generalize w.heap.size=nc at *;refine (hd.out nc pc _ (u.out.to (by unfold dJ dG cl;ac_rfl))).mono ?_;rintro g0 w3 ⟨c,T',k',s',hR,rfl,C,hr,M⟩;have d0:=ae (y.out _ _ ⟨c,T',k',s',hR,rfl,G.out.trans C,hr,(M.to (by ac_rfl:_=(aD nc z*cl pc (id,at'))*(dJ t s' m O*F))).right⟩);clear hd G C u e0 hl c1 M hr y hR
 go_wp2_with fail
 exact d0.out
end
end Go.Proofs.Cl
namespace Go.SL
def fX (k at':Nat) (f:AF) (l:List UInt8):Int:=
 if 4096<l.length then 1 else if 122880<at'+l.length then 9 else if l=[] then 0 else if k+bh f.pr<bh (f.wr at' l).pr then 7 else 0
def fW (T:Tr) (k id at':Nat) (f:AF) (l:List UInt8) (c:Int) (e:Tr) (g:Nat):Prop:=
 c=fX k at' f l/\(c=0->(l=[]/\e=T/\g=k)\/(l≠[]/\e=du T id (X (.file (f.wr at' l)))/\g=k+bh f.pr-bh (f.wr at' l).pr))
end Go.SL
namespace Go.Proofs.Cl
open RowKit SL Proofs.Nn Proofs.Ba Proofs.Su Proofs.Fs
attribute [local go_sem] Oper.semAt_some
section
variable {n:Nat} {x:Fx n} {b v nc pc id at' k:Nat} {T:Tr} {w:U} {F D:ai} {l:List UInt8} {va:Option Addr} {vc:Nat}
theorem Jf {f:AF} (ht:Tidy n T) (c0:fX k at' f l=0) (S:T id=X (.file f)) (C:at'<=122880) (g0:l.length<=1000000000) (E:l.length<=vc) (hD:∀ f0 P,ag f0 (D*P)->Rd f0 (R va l.length vc) l) (h:ag w (vA x b v T k*((dU nc (R va l.length vc)*cl pc (id,at'))*(D*F)))) :
  Calls V 50 #[az v,az nc,az pc] w (Tf x b v (fW T k id at' f l) ((dU nc (R va l.length vc)*cl pc (id,at'))*(D*F)) w):=by
 refine aH fun l0 y=>?_;have e0:=ae fun (c:Int) (hc:c≠0) (he:c=fX k at' f l)=>y.out (.panicked (lG c)) w ⟨c,T,k,0,⟨he,fun h=>absurd h hc⟩,fun h=>absurd h hc,.inr ⟨hc,rfl⟩,aj.refl w,by decide,(ag.tZ (x:=x) 0 (pK h |>.to (aI _ _ _))).to (by unfold vA;ac_rfl)⟩;have g:=h.to (by unfold vA cl dU;ac_rfl:_=ea x b (ft T) k*(D*(pt v (bN b n)*(pt nc (Y #[R va l.length vc] 22 (0,0))*(pt pc (Y #[Z .i64 (id:Int),Z .i64 (at':Int)] 93 (0,0))*F)))));have n0:w.cell? ⟨nc,0,W⟩=X (R va l.length vc):=g.aA.cell 0;have p0:w.cell? ⟨pc,0,W⟩=X (Z .i64 (id:Int)):=g.aM.cell 0;have p1:w.cell? ⟨pc,1,W⟩=X (Z .i64 (at':Int)):=g.aM.cell 1;have h0:=ae mu;have q0:=ae nK;have hC:fX k at' f l=if 4096<l.length then 1 else if 122880<at'+l.length then 9 else if l=[] then 0 else if k+bh f.pr<bh (f.wr at' l).pr then 7 else 0:=rfl
 have u:=ae hC;have M:=ae ht;have HA:=ae C;have HL:=ae g0;have o0:(l.length:Int)<=1000000000:=by omega
 have m0:(at':Int)<=122880:=by omega
 clear hC ht C g0
 by_cases r1:(l.length:Int)<=4096
 .by_cases r2:(at':Int)+(l.length:Int)<=122880
  .by_cases r3:(l.length:Int)=0
   .have i:l=[]:=List.length_eq_zero_iff.1 (by omega)
    have b0:=ae (y.out (Q (K #[])) w ⟨0,T,k,0,⟨by rw [u.out,if_neg (by omega),if_neg (by omega),if_pos i],fun _=>.inl ⟨i,rfl,rfl⟩⟩,fun _=>M.out,.inl ⟨rfl,rfl⟩,aj.refl w,by decide,(ag.tZ (x:=x) 0 (pK h |>.to (aI _ _ _))).to (by unfold vA;ac_rfl)⟩);have i0:=ae E;clear e0 u h g M HA HL y S E i;generalize l.length=ln at *
    go_enter func50,ntmps50
    go_wp2_with fail
    refine (h0.out _).mono ?_;rintro e w2 ⟨rfl,rfl⟩
    go_wp2_with fail
    go_end0
    exact b0.out
   .have i:l≠[]:=fun e=>r3 (by rw [e];rfl)
    have H1:=ae g;have G:w.cell? ⟨v,0,W⟩=X (az b)/\w.cell? ⟨v,1,W⟩=X (Z .i64 (n:Int))/\w.cell? ⟨pc,0,W⟩=X (Z .i64 (id:Int))/\w.cell? ⟨pc,1,W⟩=X (Z .i64 (at':Int))/\w.cell? ⟨nc,0,W⟩=X (R va l.length vc):=⟨g.au.cell 0,g.au.cell 1,p0,p1,n0⟩
    by_cases hk:k+bh f.pr<bh (f.wr at' l).pr
    .exact absurd ((by rw [u.out,if_neg (by omega),if_neg (by omega),if_neg i,if_pos hk]:fX k at' f l=7).symm.trans c0) (by decide)
    .have d0:=ae fun (w':U) (d:aj w w') (hs:ag w' (vA (x.more (l.length/480+5)) b v (du T id (X (.file (f.wr at' l)))) (k+bh f.pr-bh (f.wr at' l).pr)*((dU nc (R va l.length vc)*cl pc (id,at'))*(D*F))))=>
      y.out (Q (K #[])) w' ⟨0,_,_,l.length/480+5,⟨by rw [u.out,if_neg (by omega),if_neg (by omega),if_neg i,if_neg hk],fun _=>.inr ⟨i,rfl,rfl⟩⟩,fun _=>M.out.file (f':=f.wr at' l) S rfl rfl,.inl ⟨rfl,rfl⟩,d,by omega,hs⟩
     have C:=ae fun w' h'=>Am (x:=x) (b:=b) (k:=k) (w:=w') (F:=pt v (bN b n)*(pt nc (Y #[R va l.length vc] 22 (0,0))*(pt pc (Y #[Z .i64 (id:Int),Z .i64 (at':Int)] 93 (0,0))*F))) (jD S) at' hD E (by omega) (by omega) (by omega) h';have Hk:=ae fun w=>cV w;have K0:=ae G;have i0:=ae E;clear e0 u h g M HA HL y S E i hk G hD;generalize l.length=ln at *
     go_enter func50,ntmps50
     go_wp2_with fail
     refine (h0.out _).mono ?_;rintro e w2 ⟨rfl,rfl⟩
     go_wp2_with fail
     have G:=K0.out
     go_region_held3 (fun w'=>w'.cell? ⟨v,0,W⟩=X (az b)/\w'.cell? ⟨v,1,W⟩=X (Z .i64 (n:Int))/\w'.cell? ⟨pc,0,W⟩=X (Z .i64 (id:Int))/\w'.cell? ⟨pc,1,W⟩=X (Z .i64 (at':Int))/\w'.cell? ⟨nc,0,W⟩=X (R va ln vc))
      (first|exact G|exact k1|go_keep)
      (first
       | (go_at_call 52;refine (C.out _ H1.out.drew).mono ?_;rintro e H ⟨rfl,d4,h4⟩;have k1:H.cell? ⟨v,0,W⟩=X (az b)/\H.cell? ⟨v,1,W⟩=X (Z .i64 (n:Int))/\H.cell? ⟨pc,0,W⟩=X (Z .i64 (id:Int))/\H.cell? ⟨pc,1,W⟩=X (Z .i64 (at':Int))/\H.cell? ⟨nc,0,W⟩=X (R va ln vc):=⟨h4.au.cell 0,h4.au.cell 1,h4.aM.cell 0,h4.aM.cell 1,h4.aA.cell 0⟩)
       | (go_at_call 34;refine (Hk.out _).mono ?_;rintro e w5 ⟨rfl,rfl⟩))
     rename_i k0;clear k0 G k1 K0 C H1;rw [show du (ft T) id (X (f.wr at' l))=ft (du T id (X (.file (f.wr at' l)))) from qG T id (.file (f.wr at' l))] at h4;have b0:=ae (d0.out _ ((aj.refl w).drew.trans d4) (h4.to (by unfold vA cl dU;ac_rfl)));clear h4 d4 d0
     go_wp2_with fail
     go_end0
     exact b0.out
  .exact absurd ((by rw [u.out,if_neg (by omega),if_pos (by omega)]:fX k at' f l=9).symm.trans c0) (by decide)
 .exact absurd ((by rw [u.out,if_pos (by omega)]:fX k at' f l=1).symm.trans c0) (by decide)
end
section
variable {t:Pl} {q:Dk t.n} {s s':Ds} {T:Tr} {k m:Nat} {O:jT} {w:U} {F D:ai} {fd z:Int} {l:List UInt8} {va:Option Addr} {vc:Nat}
def ik (t:Pl) (q:Dk t.n) (m:Nat) (s:Ds) (O:jT) (fd:Int) (o:Nat × Nat) (i:Int->Tr->Nat->Prop) (F:ai) (w:U) (e:Ending) (w':U):Prop:=
 ∃ c g h s',i c g h/\e = Q (Z .i64 c)/\aj w w'/\((c≠0/\s.Rd s'/\ag w' (dJ t s' m O*F))\/(c=0/\mW t q s' g h/\s.Go t.n I s'/\ag w' (dJ t s' m (eu O fd o)*F)))
theorem Ir {f:AF} {id at':Nat} (hf:mW t q s T k) (hB:s.B<=1000000) (r0:fX k at' f l=0) (hy:aP O fd=X (id,at')) (hT:T id=X (.file f)) (ha:at'<=122880) (k0:l.length<=1000000000) (i0:l.length<=vc) (hD:∀ g0 P,ag g0 (D*P)->Rd g0 (R va l.length vc) l) (h:ag w (dJ t s m O*(D*F))) :
  Calls V 17 #[az t.f,Z .i64 fd,R va l.length vc] w (ik t q m s O fd (id,at'+l.length) (fW T k id at' f l) (D*F) w):=by
 refine aH fun x0 u=>?_;have h1:ag w (dG t m O*(lL t s*(D*F))):=h.to (by unfold dJ dG;ac_rfl);have hA:=h1.alloc (Y #[R va l.length vc] 22 (0,0));have dA:=(aj.refl w).alloc (Y #[R va l.length vc] 22 (0,0));generalize u0:w.alloc (Y #[R va l.length vc] 22 (0,0))=w1 at *;have b0:ag w1 (dG t m O*(dU w.heap.size (R va l.length vc)*(lL t s*(D*F)))):=hA.to (by unfold dU;ac_rfl);have hl:=zP hy b0;have c1:=la b0;have h0:=b0.alloc (Y #[Z .i64 (id:Int),Z .i64 (at':Int)] 93 (0,0));have dB:=ae (dA.alloc (Y #[Z .i64 (id:Int),Z .i64 (at':Int)] 93 (0,0)))
 have hd:=ae fun (nc pc:Nat) (w':U) (h':ag w' (dJ t s m O*(((dU nc (R va l.length vc)*cl pc (id,at'))*D)*F)))=>
  l9 hf hB 50 #[az nc,az pc] ((dU nc (R va l.length vc)*cl pc (id,at'))*D) (fW T k id at' f l) (enters func50 (by kernel_rfl) rfl)
   (fun x v b w1 n0 G=>(Jf (x:=x) (b:=b) (v:=v) (k:=k) (nc:=nc) (pc:=pc) (F:=dG t m O*n0) hf.ty r0 hT ha k0 i0 hD (G.to (by ac_rfl))).mono fun o0 w' hq=>by simpa only [ax] using hq) h'
 have HB:=ae h0;have p0:fW T k id at' f l 0 T k\/True:=.inr trivial
 have m0:∀ y H,fW T k id at' f l 0 y H->l.length<=4096:=fun y H g=>by
  have:=g.1;unfold fX at this
  by_cases h4:4096<l.length
  .rw [if_pos h4] at this;cases this
  .omega
 have c0:=ae m0;have G0:(at':Int)<=122880:=by omega
 unfold ik at u;clear h h1 hA b0 dA h0 hf hB hy hT m0 ha k0 hD p0 i0;generalize fW T k id at' f l=D0 at *
 go_enter func17,ntmps17
 go_wp2_with fail
 generalize w1.alloc (Y #[Z .i64 (id:Int),Z .i64 (at':Int)] 93 (0,0))=w2 at *;generalize w1.heap.size=pc at *;generalize w.heap.size=nc at *;refine (hd.out nc pc _ (HB.out.to (by unfold dJ dG cl;ac_rfl))).mono ?_;rintro o0 w3 ⟨c,y,H,s',E,rfl,d3,g,C⟩;have M:=ae (dB.out.trans d3);clear hd dB d3 HB u0 hl c1
 by_cases hc:c=0
 .subst hc
  have l0:=c0.out _ _ E;have i:=g.elim (fun h=>absurd rfl h.1) (fun h=>h.2);have d0:=ae fun (w':U) (d:aj w w') (hs:ag w' (dJ t s' m (eu O fd (id,at'+l.length))*(D*F)))=>u.out _ w' ⟨0,y,H,s',E,rfl,d,.inr ⟨rfl,i.1,i.2,hs⟩⟩;obtain ⟨z,hz⟩:∃ z,l.length=z:=⟨_,rfl⟩
  rw [hz] at C l0 d0 ⊢;have h4:=C.to (by unfold dJ dG cl dU;ac_rfl:_=pt pc (Y #[Z .i64 (id:Int),Z .i64 (at':Int)] 93 (0,0))*(pt nc (Y #[R va z vc] 22 (0,0))*(dG t m O*(D*(lL t s'*F)))));have t0:w3.cell? ⟨nc,0,W⟩=X (R va z vc):=h4.ah.cell 0;have p1:w3.cell? ⟨pc,1,W⟩=X (Z .i64 (at':Int)):=h4.cell 1;have g1:=h4.frozen 1;have h5:=h4.setCell 1 (Z .i64 ((at'+z:Nat):Int));simp only [A1,E1,N1] at h5;have S:=ae (M.out.setCell ⟨pc,1,W⟩ (Z .i64 ((at'+z:Nat):Int)));have H5:=ae h5;have K0:(z:Int)<=4096:=by omega
  have f0:((at'+z:Nat):Int)=(at':Int)+(z:Int):=by omega
  rw [f0] at H5 S;have H0:0<=(z:Int):=by omega
  have F0:0<=(at':Int):=by omega
  clear C h4 h5 u M g i E c0 hz l0;generalize q0:at'+z=e at *
  go_wp2_with fail
  rw [<- f0] at H5 S ⊢;generalize w3.setCell ⟨pc,1,W⟩ (Z .i64 (e:Int))=w4 at *
  have jX:∀ (O:jT) (wr:U),ag wr (dG t m O*(pt pc (Y #[Z .i64 (id:Int),Z .i64 (e:Int)] 93 (0,0))*(pt nc (Y #[R va z vc] 22 (0,0))*(D*(lL t s'*F)))))->wr.cell? ⟨t.f,1,W⟩=X (.map (X m))/\wr.cell? ⟨pc,0,W⟩=X (Z .i64 (id:Int))/\wr.cell? ⟨pc,1,W⟩=X (Z .i64 (e:Int)):=fun O wr G=>
   ⟨la G,G.ah.cell 0,G.ah.cell 1⟩
  have h6:=H5.out.to (by ac_rfl:_=dG t m O*(pt pc (Y #[Z .i64 (id:Int),Z .i64 (e:Int)] 93 (0,0))*(pt nc (Y #[R va z vc] 22 (0,0))*(D*(lL t s'*F)))));obtain ⟨e1,e2,e3⟩:=jX _ _ h6;obtain ⟨w5,s0,h7,d7,ce⟩:=Fo h6.drew fd (id,e);obtain ⟨f1,f2,f3⟩:=jX _ _ h7;have e0:=ae (d0.out w5 (S.out.drew.trans d7) ((h7.to (by unfold dJ dG;ac_rfl:_=(pt pc (Y #[Z .i64 (id:Int),Z .i64 (e:Int)] 93 (0,0))*pt nc (Y #[R va z vc] 22 (0,0)))*(dJ t s' m (eu O fd (id,e))*(D*F)))).right));dsimp only at s0;clear jX h6 h7 d7 ce S H5 d0 t0 p1 g1 f0 q0
  go_region_held3 (fun w'=>w'.cell? ⟨t.f,1,W⟩=X (.map (X m))/\w'.cell? ⟨pc,0,W⟩=X (Z .i64 (id:Int))/\w'.cell? ⟨pc,1,W⟩=X (Z .i64 (e:Int))) (go_keep) (fail)
  go_wp2_with fail
  exact e0.out
 .have i:=g.elim (fun h=>h.2) (fun h=>absurd h.1 hc)
  have e0:=ae (u.out _ _ ⟨c,y,H,s',E,rfl,M.out,.inl ⟨hc,i,(C.to (by ac_rfl:_=(dU nc (R va l.length vc)*cl pc (id,at'))*(dJ t s' m O*(D*F)))).right⟩⟩);clear C u g i E M c0
  go_wp2_with fail
  exact e0.out
end
section
variable {n:Nat} {x:Fx n} {b v nc mc k:Nat} {T:Tr} {w:U} {F:ai}
theorem MQ (h:ag w (vA x b v T k*(aD nc 0*(aD mc 0*F)))) :
  Calls V 43 #[az v,az nc,az mc] w (Jk 0 (vA x b v T k*(aD nc (n:Int)*(aD mc (k:Int)*F))) (vA x b v T k*(aD nc 0*(aD mc 0*F))) w):=by
 refine aH fun b0 C=>?_;have i:=h.to (by unfold vA;ac_rfl:_=ea x b (ft T) k*(pt v (bN b n)*(aD nc 0*(aD mc 0*F))));have v0:w.cell? ⟨v,0,W⟩=X (az b):=i.ah.cell 0;have M:w.cell? ⟨v,1,W⟩=X (Z .i64 (n:Int)):=i.ah.cell 1;have H:=ae (Ti i);have hk:=ae cV;clear h i
 go_enter func43,ntmps43
 go_wp2_with fail
 refine H.out.mono ?_;rintro e u ⟨rfl,E,G⟩;have g:=G.to (by unfold aD;ac_rfl:_=pt nc (Y #[Z .i64 0] 3 (0,0))*(pt mc (Y #[Z .i64 0] 3 (0,0))*(pt v (bN b n)*(ea x b (ft T) k*F))));clear v0 M;have v0:u.cell? ⟨v,0,W⟩=X (az b):=g.au.cell 0;have M:u.cell? ⟨v,1,W⟩=X (Z .i64 (n:Int)):=g.au.cell 1;have n0:u.cell? ⟨nc,0,W⟩=X (Z .i64 0):=g.cell 0;have m0:u.cell? ⟨mc,0,W⟩=X (Z .i64 0):=g.ah.cell 0;have g0:=g.frozen 0;have g1:=g.ah.frozen 0;have h4:=g.setCell 0 (Z .i64 (n:Int));have y:=(h4.ah.setCell 0 (Z .i64 (k:Int)))
 simp only [A1,E1] at y;have g2:=h4.ah.frozen 0;have m1:=h4.ah.cell 0;have S:=ae (C.out (Q (K #[])) _ ⟨(E.setCell ⟨nc,0,W⟩ (Z .i64 (n:Int))).setCell ⟨mc,0,W⟩ (Z .i64 (k:Int)),.inl ⟨rfl,rfl,y.to (by unfold vA aD;ac_rfl)⟩⟩);clear G g h4 y C H E
 go_wp2_with fail
 refine (hk.out _).mono ?_;rintro e w3 ⟨rfl,rfl⟩
 go_wp2_with fail
 go_end0
 exact S.out
end
section
variable {t:Pl} {q:Dk t.n} {s s':Ds} {T:Tr} {k m:Nat} {O:jT} {w:U} {F:ai}
theorem EG (u:mW t q s T k) (S:s.B<=1000000) (h:ag w (dJ t s m O*F)) :
  Calls V 14 #[az t.f] w
   (WG t q m false s T k O (K #[Z .i64 (t.n:Int),Z .i64 (k:Int),Z .i64 0]) F w):=by
 refine aH fun f0 G=>?_;have i:=(h.alloc (Y #[Z .i64 0] 3 (0,0))).alloc (Y #[Z .i64 0] 3 (0,0));simp only [K1] at i;have M:=ae (((aj.refl w).alloc (Y #[Z .i64 0] 3 (0,0))).alloc (Y #[Z .i64 0] 3 (0,0)))
 have hd:=ae fun (nc mc:Nat) (w':U) (h':ag w' (dJ t s m O*((aD nc 0*aD mc 0)*F)))=>
  jw u S 43 #[az nc,az mc] (aD nc 0*aD mc 0) 0 (aD nc (t.n:Int)*aD mc (k:Int)) (aD nc 0*aD mc 0) (enters func43 (by kernel_rfl) rfl)
   (fun x v b w1 b0 hw=>(MQ (x:=x) (b:=b) (v:=v) (k:=k) (nc:=nc) (mc:=mc) (F:=dG t m O*b0) (hw.to (by ac_rfl))).mono fun c0 w' hq=>by simpa only [ax] using hq) h'
 have E:=ae u;have C:=ae i;clear h i S u
 go_enter func14,ntmps14
 go_wp2_with fail
 generalize (w.alloc (Y #[Z .i64 0] 3 (0,0))).alloc (Y #[Z .i64 0] 3 (0,0))=w1 at *;generalize w.heap.size=nc at *;refine (hd.out nc (nc+1) _ (C.out.to (by unfold aD;ac_rfl))).mono ?_;rintro c0 w2 ⟨s',rfl,H,y,g⟩;rw [if_pos trivial] at g;have e:=g.to (by ac_rfl:_=aD nc (t.n:Int)*(aD (nc+1) (k:Int)*(dJ t s' m O*F)));have n0:w2.cell? ⟨nc,0,W⟩=X (Z .i64 (t.n:Int)):=e.cell 0;have m0:w2.cell? ⟨nc+1,0,W⟩=X (Z .i64 (k:Int)):=e.ah.cell 0;have e0:=ae (G.out _ _ ⟨s',rfl,(M.out.trans H).drew,.inl y,E.out.rd y,e.right.right.drew⟩);clear hd M C H y g e G E
 go_wp2_with fail
 go_region_held3 (fun w'=>w'.cell? ⟨nc,0,W⟩=X (Z .i64 (t.n:Int))/\w'.cell? ⟨nc+1,0,W⟩=X (Z .i64 (k:Int))) (go_keep) (fail)
 rename_i d0;clear d0 n0 m0
 go_wp2_with fail
 exact bodyPost_ret (by kernel_rfl) rfl e0.out
end
end Go.Proofs.Cl
namespace Go.SL
def fw (T:Tr) (p:List UInt8) (a c:Int):Int:=if 0<=a/\0<=c/\c<=4096 then (if (bG T p).1≠0 then (bG T p).1 else match T (bG T p).2 with
 | some (.file _)=>0
 | _=>8) else 1
def jM (T:Tr) (p:List UInt8) (a c:Int):List UInt8:=match T (bG T p).2 with
 | some (.file f)=>f.sub a.toNat c.toNat
 | _=>[]
end Go.SL
namespace Go.Proofs.Cl
open RowKit SL Proofs.Nn Proofs.Ba Proofs.Su Proofs.Fs
attribute [local go_sem] Oper.semAt_some
section
variable {n:Nat} {x:Fx n} {b v pc ac nc rc k:Nat} {T:Tr} {w:U} {F:ai} {p:List UInt8} {a c:Int}
theorem N5 (ht:Tidy n T) (b0:fw T p a c=0) (i0:ag w (vA x b v T k*(ay pc p*(aD ac a*(aD nc c*(dU rc (R W 0 0)*F)))))) :
  Calls V 53 #[az v,az pc,az ac,az nc,az rc] w (Jk (fw T p a c) (vA x b v T k*(ay pc p*(aD ac a*(aD nc c*(vy rc (jM T p a c)*F))))) (vA x b v T k*(ay pc p*(aD ac a*(aD nc c*(dU rc (R W 0 0)*F))))) w):=by
 refine aH fun u0 M=>?_;have cp:w.cell? ⟨pc,0,W⟩=X (L (str p)):=i0.ah.cell 0;have k0:=ae i0;have HT:=ae ht
 have r0:Hid (∀ e,e≠0->e=fw T p a c->∀ (w':U),aj w w'->ag w' (vA x b v T k*(ay pc p*(aD ac a*(aD nc c*(dU rc (R W 0 0)*F)))))->u0 (.panicked (lG e)) w'):=fun e H he w' d y=>
  M.out _ _ ⟨d,.inr ⟨by rw [<- he];exact H,by rw [he],y⟩⟩
 have m0:=ae mu;have D0:=ae nK;clear i0
 cases y:aU p with
 | none=>
  exact absurd ((by unfold fw;rw [su y];split <;> rfl:(1:Int)=fw T p a c).trans b0) (by decide)
 | some h=>
  obtain ⟨F0,hl⟩:=cU y;have p0:=dN (T:=T) y;have hk:=ae (df (w:=w) y);have i:=fun h0=>ht.walk h ht.root.choose_spec h0;have HL:=ae hl;have f0:=ae p0;have HY:=ae i;clear ht y hl F0 p0 i
  by_cases hr:0<=a/\0<=c/\c<=4096
  .have E:=ae (show fw T p a c=if (aQ T 1 h).1≠0 then (aQ T 1 h).1 else match T (aQ T 1 h).2 with|some (.file _)=>0|_=>8 by unfold fw;rw [if_pos hr,f0.out])
   have S:=ae (show jM T p a c=match T (aQ T 1 h).2 with|some (.file f)=>f.sub a.toNat c.toNat|_=>[] by unfold jM;rw [f0.out]);obtain ⟨r1,r2,r3⟩:=hr
   go_enter func53,ntmps53
   go_wp2_with fail
   refine hk.out.mono ?_;rintro e w2 ⟨e0,rfl,d2,h2⟩;have g:=(h2.under k0.out)
   have a0:w2.cell? ⟨ac,0,W⟩=X (Z .i64 a):=g.aA.cell 0;have n0:w2.cell? ⟨nc,0,W⟩=X (Z .i64 c):=g.aM.cell 0;have hw:=ae (fm HT.out HL.out fE g.ah);generalize aQ T 1 h=pw at *;obtain ⟨wc,id⟩:=pw;dsimp only at hw HY E S;clear cp hk h2 g HL f0
   go_wp2_with fail
   refine (m0.out _).mono ?_;rintro e N0 ⟨rfl,rfl⟩;clear m0 D0
   go_wp2_with fail
   refine hw.out.mono ?_;rintro e w3 ⟨he,d3,g⟩;clear hw;have D3:=ae (d2.trans d3);clear d2 d3;rcases he with ⟨rfl,rfl⟩|⟨H,rfl⟩
   .obtain ⟨q0,i⟩:=HY.out rfl
    have l0:=ae (lS i g);clear g HY a0 n0
    go_wp2_with fail
    refine l0.out.mono ?_;rintro e w5 hq;rcases hq with ⟨c0,z,rfl,G0,H0,K0,L0,d5,u⟩|⟨c0,rfl,d5,u⟩
    .cases q0 with
     | dir s0=>exact absurd c0 (by show ¬ (2:Int)=1;decide)
     | file f=>
      rw [i] at E S;have d0:fw T p a c=0:=E.out;have o0:jM T p a c=f.sub a.toNat c.toNat:=S.out;rw [d0,o0] at M;obtain ⟨C,rfl⟩:∃ m:Nat,a=(m:Int):=⟨a.toNat,by omega⟩
      obtain ⟨mc,rfl⟩:∃ m:Nat,c=(m:Int):=⟨c.toNat,by omega⟩
      simp only [O1] at M;have hb:=ae (vi i C mc u);have G:=u.to (by ac_rfl:_=aD ac (C:Int)*(aD nc (mc:Int)*(vA x b v T k*(dh e0 h*(ay pc p*(dU rc (R W 0 0)*F))))));have a0:w5.cell? ⟨ac,0,W⟩=X (Z .i64 (C:Int)):=G.cell 0;have n0:w5.cell? ⟨nc,0,W⟩=X (Z .i64 (mc:Int)):=G.ah.cell 0;have D5:=ae (D3.out.trans d5);clear i E S d0 o0 r0 u G l0 G0 H0 K0 L0 d5 D3 c0 k0;generalize f.sub C mc=l at *
      go_wp2_with fail
      refine hb.out.mono ?_;rintro e w6 ⟨u2,rfl,d6,G⟩;have g:=G.to (by unfold dU;ac_rfl:_=pt rc (Y #[R W 0 0] 22 (0,0))*(bs 5 u2 l*(vA x b v T k*(ay pc p*(aD ac (C:Int)*(aD nc (mc:Int)*(dh e0 h*F)))))));have t0:w6.cell? ⟨rc,0,W⟩=X (R W 0 0):=g.cell 0;have g0:=g.frozen 0;have h4:=g.setCell 0 u2;simp only [A1,E1] at h4;obtain ⟨ua,uc,rfl⟩:=aF h4.ah;have u:ag (w6.setCell ⟨rc,0,W⟩ (R ua l.length uc)) (vy rc l*(vA x b v T k*(ay pc p*(aD ac (C:Int)*(aD nc (mc:Int)*(dh e0 h*F)))))):=rM.2 ⟨_,h4.to (by unfold dU;ac_rfl)⟩;have x0:=ae (M.out _ _ ⟨(D5.out.trans d6).setCell ⟨rc,0,W⟩ (R ua l.length uc),.inl ⟨rfl,rfl,(u.to (by ac_rfl:_=dh e0 h*(vA x b v T k*(ay pc p*(aD ac (C:Int)*(aD nc (mc:Int)*(vy rc l*F))))))).right⟩⟩);clear g h4 u G M hb d6 D5
      go_wp2_with fail
      go_end0
      exact x0.out
    .have d0:(8:Int)=fw T p a c:=by
      rw [E.out,if_neg (by decide),i]
      cases q0 with
      | dir s0=>rfl
      | file f=>exact absurd (HT.out.files _ _ i) c0
     exact absurd (d0.trans b0) (by decide)
   .exact absurd ((by rw [E.out,if_pos H]:fw T p a c=_).symm.trans b0) H
  .have H:(1:Int)=fw T p a c:=by unfold fw;rw [if_neg hr]
   exact absurd (H.trans b0) (by decide)
end
section
variable {t:Pl} {q:Dk t.n} {s s':Ds} {T:Tr} {k m:Nat} {O:jT} {w:U} {F:ai} {p:List UInt8} {a c:Int}
def Au (t:Pl) (m:Nat) (s:Ds) (O:jT) (c:Int) (l:List UInt8) (F:ai) (w:U) (e:Ending) (w':U):Prop:=
 ∃ s',aj w w'/\s.Rd s'/\((c≠0/\e = Q (K #[R W 0 0,Z .i64 c])/\ag w' (dJ t s' m O*F)) \/
  (c=0/\∃ u,e = Q (K #[u,Z .i64 0])/\ag w' (bs 5 u l*(dJ t s' m O*F))))
theorem Lh (E:mW t q s T k) (hB:s.B<=1000000) (c0:fw T p a c=0) (b0:ag w (dJ t s m O*F)) :
  Calls V 19 #[az t.f,L (str p),Z .i64 a,Z .i64 c] w (Au t m s O (fw T p a c) (jM T p a c) F w):=by
 refine aH fun f0 g=>?_;have y:=((((b0.alloc (Y #[L (str p)] 9 (0,0))).alloc (Y #[Z .i64 a] 3 (0,0))).alloc (Y #[Z .i64 c] 3 (0,0))).alloc (Y #[R W 0 0] 22 (0,0)))
 simp only [K1] at y;have dA:=ae (((((aj.refl w).alloc (Y #[L (str p)] 9 (0,0))).alloc (Y #[Z .i64 a] 3 (0,0))).alloc (Y #[Z .i64 c] 3 (0,0))).alloc (Y #[R W 0 0] 22 (0,0)))
 have hd:=ae fun (pc ac nc rc:Nat) (w':U) (h':ag w' (dJ t s m O*((ay pc p*(aD ac a*(aD nc c*dU rc (R W 0 0))))*F)))=>
  jw E hB 53 #[az pc,az ac,az nc,az rc] (ay pc p*(aD ac a*(aD nc c*dU rc (R W 0 0)))) (fw T p a c) (ay pc p*(aD ac a*(aD nc c*vy rc (jM T p a c)))) (ay pc p*(aD ac a*(aD nc c*dU rc (R W 0 0)))) (enters func53 (by kernel_rfl) rfl)
   (fun x v b w1 d0 hw=>(N5 (x:=x) (b:=b) (v:=v) (k:=k) (pc:=pc) (ac:=ac) (nc:=nc) (rc:=rc) (F:=dG t m O*d0) (p:=p) E.ty c0 (hw.to (by ac_rfl))).mono fun e0 w' hq=>by simpa only [ax] using hq) h'
 have S:=ae y;clear c0;unfold Au at g;clear b0 y hB E;generalize fw T p a c=cc at *;generalize jM T p a c=l at *
 go_enter func19,ntmps19
 go_wp2_with fail
 generalize (((w.alloc (Y #[L (str p)] 9 (0,0))).alloc (Y #[Z .i64 a] 3 (0,0))).alloc (Y #[Z .i64 c] 3 (0,0))).alloc (Y #[R W 0 0] 22 (0,0))=w1 at *;generalize w.heap.size=pc at *;refine (hd.out pc (pc+1) (pc+1+1) (pc+1+1+1) _ (S.out.to (by unfold ay aD dU;ac_rfl))).mono ?_;rintro e0 w2 ⟨s',rfl,d2,u,e⟩;have h:=ae (dA.out.trans d2);clear hd dA S d2
 by_cases C:cc=0
 .subst C
  rw [if_pos rfl] at e;obtain ⟨g0,i⟩:=(rM (a:=pc+1+1+1)).1 (e.to (by ac_rfl:_=vy (pc+1+1+1) l*(dJ t s' m O*(ay pc p*(aD (pc+1) a*(aD (pc+1+1) c*F))))));obtain ⟨H,M,rfl⟩:=aF i;have t0:w2.cell? ⟨pc+1+1+1,0,W⟩=X (R H l.length M):=i.ah.cell 0;have G:=ae (g.out _ _ ⟨s',h.out,u,.inr ⟨rfl,_,rfl,(i.to (by ac_rfl:_=(dU (pc+1+1+1) (R H l.length M)*(ay pc p*(aD (pc+1) a*aD (pc+1+1) c)))*(bs 5 (R H l.length M) l*(dJ t s' m O*F)))).right⟩⟩);clear e i g u h
  go_wp2_with fail
  exact G.out
 .rw [if_neg C] at e
  have G:=ae (g.out _ _ ⟨s',h.out,u,.inl ⟨C,rfl,(e.to (by ac_rfl:_=(ay pc p*(aD (pc+1) a*(aD (pc+1+1) c*dU (pc+1+1+1) (R W 0 0))))*(dJ t s' m O*F))).right⟩⟩);clear e g u h
  go_wp2_with fail
  exact G.out
end
end Go.Proofs.Cl

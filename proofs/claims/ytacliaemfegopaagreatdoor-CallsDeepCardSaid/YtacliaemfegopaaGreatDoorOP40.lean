/- Steps. -/
import Derived.Test.YtacliaemfegopaaGreatDoorOP39
import Derived.Test.YtacliaemfegopaaGreatDoorOP30
set_option linter.all false
set_option maxRecDepth 99999
set_option maxHeartbeats 0
open Go.SL
open Go.Value renaming int->Z,slice->R,string->L,tuple->I
open Go.Obj renaming cells->Y
open Go.Ending renaming returned->Q
open Go renaming World->U,Value->N
open Go.Proofs.Tryz renaming prog->W
open Option renaming some->X,none->V
open Bool renaming true->K
open Go.Proofs.Tryz
open Prod renaming fst->A1
open List renaming setIfInBounds_toArray->E1,set_cons_zero->K1,length_map->L1,set_cons_succ->N1,getElem?_eq_getElem->R1
open Go.World renaming size_alloc->M1
open Option renaming isSome_map->O1
namespace Go.Proofs.Cl
open Go.RowKit Go.SL Go.Proofs.Nn Go.Proofs.Ba Go.Proofs.Su Go.Proofs.Fs
theorem yX (s j k : Nat) (w : U) (h : w.cell? ⟨s, 0, V⟩ = X (ay j)) : (method (k + 1) 61 (ay s) "Read").run W w = .ok (314, ay j) w := by
 have e : (method (k + 1) 61 (ay s) "Read").run W w = (do let v <- loadVar 123 ⟨s, 0, V⟩; pure (314, v) : Sem (FuncId × N)).run W w := by kernel_rfl
 rw [e];simp [go_sem,h]
theorem Dh (e:Array N) (w:U):(callFunc 314 e).run W w = .ok (.enter 314 e) w:=by kernel_rfl
structure Pl where
 f:Nat
 s:Nat
 j:Nat
 d:Nat
 n:Nat
 P:Nat
def yK (t:Pl) (Sd:Hp):Cx (Jr × aB):=⟨61,ay t.s,314,ay t.j,fun w=>w.cell? ⟨t.s,0,V⟩=X (ay t.j),P9,NS t.s t.j t.d t.n t.P Sd⟩
section
variable {w w':U} {s j d n P:Nat} {Sd:Hp} {x:Jr × aB} {F:ai}
theorem nf (h:ag w (NS s j d n P Sd x*F)):(x.1.Ok/\x.2.Ok)/\ag w (eE s j d n P x.1*(aT Sd d x.2*(ak Sd*F))):=by
 obtain ⟨e,g⟩:=ag.aq.1 (h.to (ax _ _ _));exact ⟨e,g.to (by ac_rfl)⟩
theorem Bw (e:x.1.Ok) (g:x.2.Ok) (h:ag w (eE s j d n P x.1*(aT Sd d x.2*(ak Sd*F)))):ag w (NS s j d n P Sd x*F):=
 (ag.aq.2 ⟨⟨e,g⟩,h.to (by ac_rfl:_=(eE s j d n P x.1*(aT Sd d x.2*ak Sd))*F)⟩:ag w (fact _*_)).to (ax _ _ _).symm
theorem rX {J:Jr} (h:ag w (eE s j d n P J*F)):w.cell? ⟨s,0,V⟩=X (ay j):=by
 have e:ag w (pt s (Y #[ay j,Z .i64 (n:Int),Z .i64 (P:Int)] 125 (0,0))*(pC j d J*F)):=h.to (by unfold eE;ac_rfl);exact e.cell 0
end
theorem JD (t:Pl) (Sd:Hp):(yK t Sd).Ok:=by
 refine ⟨fun x F w h=>?_,fun k w h=>yX t.s t.j k w h,fun y w=>Dh y w,fun x id F w h=>?_,fun x id _=>?_⟩
 .exact rX (nf (F:=F) h).2
 .obtain ⟨J,D⟩:=x
  obtain ⟨⟨g,i⟩,E⟩:=nf (F:=F) h;have g:=g;have i:=i;have:=F9 w Sd t.j t.d J D id (pt t.s (Y #[ay t.j,Z .i64 (t.n:Int),Z .i64 (t.P:Int)] 125 (0,0))*F) (E.to (by unfold eE;ac_rfl)) g i;refine this.mono ?_;rintro e w' ⟨u,rfl,h4,C⟩;obtain ⟨H,M⟩:=Mt g i id;refine ⟨u,rfl,?_,C⟩;have G:ag w' (eE t.s t.j t.d t.n t.P (J.read D id).2.1*(aT Sd t.d (J.read D id).2.2*(ak Sd*(pQ 5 (J.read D id).1 u*F)))):=h4.to (by unfold eE;ac_rfl);exact (Bw (x:=((J.read D id).2.1,(J.read D id).2.2)) H M G).to (by ac_rfl:_=pQ 5 (J.read D id).1 u*(NS t.s t.j t.d t.n t.P Sd ((J.read D id).2.1,(J.read D id).2.2)*F))
 .show (Jr.read x.1 x.2 id).1.2.length<=1000000
  have:=rC x.1 x.2 id;omega
abbrev wK:Hp:=fun _=>V
def gU (t:Pl) (e:N):Obj:=Y #[ay t.s,e] 66 (0,0)
theorem wP {P:Program} {w:U} {t h e:TypeId} (g:P.underlying t=X (.map h e)) (ty:TypeId) :
  (Builtin.len_ #[t] ty #[.map V]).run P w = .ok (Z .i64 0) w:=by
 simp [Builtin.len_,run_underlying g,goInt]
theorem tl {w:U} {S:Hp} {b:Nat} {rd:N} {i:Int} {g D:CB} {F:ai} (h:ag w (aA 176 5 S b rd i g D*(ak S*F))):(g.map A1).Nodup:=by
 obtain ⟨x,y⟩:=h.eh;obtain ⟨u,E,C,_⟩:=(y.to (by ac_rfl:_=aS 5 S x.wv x.ws g*(ak S*(pt b (Y (x.cells rd i) 176 (0,0))*(aS 5 S x.tv x.ts D*(fC x.av*F)))))).lC;have e:(g.map A1).Perm (u.map A1):=by grind
 exact e.nodup_iff.2 C
theorem OV (w:U) (S:Hp) (b:Nat) (rd:N) (y:Int) (g D:CB) (F:ai)
  (h:ag w (aA 176 5 S b rd y g D*(ak S*F))) :
  Calls W 73 #[.pointer (X ⟨b,0,V⟩)] w fun e w'=>e = Q (Z .i64 g.length)/\w=w':=by
 obtain ⟨x,E⟩:=h.eh;have b0:w.cell? ⟨b,2,V⟩=X x.wv:=E.cell 2
 have c0:(Builtin.len_ #[172] 3 #[x.wv]).run W w = .ok (Z .i64 g.length) w:=by
  obtain ⟨u,z1,z2,z3,M,_⟩:=(E.to (by ac_rfl:_=aS 5 S x.wv x.ws g*(ak S*(pt b (Y (x.cells rd y) 176 (0,0))*(aS 5 S x.tv x.ts D*(fC x.av*F)))))).lC;have C:g.length=u.length:=by have:=z1.length_eq;simpa using this.symm
  rcases M with ⟨i,hz⟩|⟨m,o,i,G,H⟩
  .have:u=[]:=by simpa using hz
   rw [C,i,this,wP underlying172];rfl
  .rw [C,i,BJ G H underlying172];simp
 go_enter func73,ntmps73
 go_wp2
 go_ret
 exact ⟨rfl,rfl⟩
theorem Aq {P:Program} {i:Func} {C:Ending->U->Prop} {t G:Array N} (he:∀ w,(results i t).run P w=(results i G).run P w):∀ (g:List Deferred) (u:FrameMode) (w:U),Leaves P i t C g u w->Leaves P i G C g u w:=by
 intro g
 induction g with
 | nil=>
  intro u w h
  cases u with
  | run=>exact h
  | returning=>
   obtain ⟨v,hr,hR⟩:=h;exact ⟨v,(he w).symm.trans hr,hR⟩
  | panicking c=>exact h
 | cons d g E=>
  intro u w h;obtain ⟨d0,S,M,f,H,e0,c0,b0⟩:=h;refine ⟨d0,S,M,f,H,e0,c0,b0.mono fun e u' w' y=>?_⟩
  cases e with
  | returned v=>exact E _ _ y
  | panicked c=>exact E _ _ y
  | outgrown=>exact y
theorem Pe {e:Ending->U->Prop} {c:List PanicEntry} {a:Act} {w:U} {k:Nat} {v:N} (g:k≠4) (h:bodyPostD W Tryz.f29 e (.panic c) (a.put (X k) v) w):bodyPostD W Tryz.f29 e (.panic c) a w:=by
 refine Aq (fun w=>?_) _ _ _ h;simp [results,Tryz.results29,Act.put,Array.getElem?_setIfInBounds,g]
theorem CQ {e:Array Oper} {C:Region.Mode} {S:U->Prop} {u:Exit->Act->U->Prop} (i:Nat) {g:Oper} {v:N} {E:Nat} {y:Array Bool} {a:Act} {w:U} {q:Prop} (h:q)
  (hi:e[i]?=X g:=by rfl) (hs:Region.noSelect e=K:=by kernel_rfl) (hf:Region.free C e y i=K:=by kernel_rfl) (hr:(Region.ready C e y).contains i=K:=by kernel_rfl)
  (G:∀ c a w,u (.panic c) (a.put g.dst v) w->u (.panic c) a w:=by exact fun _ _ _ h=>Pe (by decide) h) (hw:Region.wanted g (yielded e a.tmps)=K:=by kernel_rfl)
  (hv:∀ w,S w->(execOp a.eval g).run W w = .ok (.value v) w:=by intro w M;(try dsimp only at M);go_simp;try with_reducible rfl) (H:S w:=by assumption)
  (hk:q->wpAnyH W C e u S E (y.setIfInBounds i K) (a.put g.dst v) w:=by intro hx;(try simp only [Go.SL.tz,Go.Act.put]);exact hx):wpAnyH W C e u S (E+1) y a w:=
 wpAnyH_take hi hs hf hr G (.inl ⟨hw,hv⟩) H (hk h)
theorem I4 {n:Int} {e:List Wr} (h:Batch n (cl e)):GP n e:=by
 have E:(cl e).length=e.length:=by unfold cl;rw [L1]
 refine ⟨by rw [<- E];exact h.n0,by rw [<- E];exact h.n1,fun k y=>?_⟩;have C:k<(cl e).length:=by omega
 have G:=List.getElem_mem C;have g:(e.getD k Wr.nil).1=(cl e)[k].1:=by rw [List.getD,R1 y];simp [cl]
 have S:(e.getD k Wr.nil).2.2=(cl e)[k].2:=by rw [List.getD,R1 y];simp [cl]
 have u:=h.id _ G;refine ⟨by rw [g];exact u.1,by rw [g];exact u.2,by rw [S];exact h.QN _ G,?_⟩;rw [g];intro hx;obtain ⟨z,M,b0⟩:=List.mem_map.1 hx;rw [List.mem_take_iff_getElem] at M;obtain ⟨i,hi,rfl⟩:=M;have e3:(e[i]'(by omega)).1=((cl e)[i]'(by omega)).1:=by simp [cl]
 have H:=h.nd;rw [List.Nodup,List.pairwise_iff_getElem] at H;have:=H i k (by rw [L1];omega) (by rw [L1];exact C) (by omega);apply this;rw [List.getElem_map,List.getElem_map,<- b0,e3]
def Uw (t:Pl) (J:Jr) (D:aB) (H:ai) (w:U) (e:Ending) (w':U):Prop:=
 ∃ S,e = Q (Z .i64 0)/\aj w w'/\ag w' (eE t.s t.j t.d t.n t.P J*(aT S t.d D*(ak S*H)))
theorem A6 (t:Pl) (w:U) (S g:Hp) (v:N) (h:CB) (J u:Jr) (D i:aB) (has:Has) (H:ai) (C:fL J D has) (M:Batch J.n h) (d0:eK J D K h=(0,u,i))
  (c0:ag w (gE 188 5 g v h*(eE t.s t.j t.d t.n t.P J*(aT S t.d D*(ak S*(ak g*H)))))) :
  Calls W 74 #[ay t.j,v] w (Uw t u i H w):=by
 obtain ⟨e,E,hV,h1⟩:=c0.mh;have G:e.length=h.length:=by rw [<- E,L1]
 obtain ⟨h2,e1,e2⟩:=ag.BL (h1.to (by ac_rfl:_=ak S*(ak g*(aT S t.d D*(eE t.s t.j t.d t.n t.P J*(sl 188 2 v h.length (ry e)*H))))));have h3:=(h2.to (by ac_rfl:_=aT S t.d D*(ak (join S g)*(eE t.s t.j t.d t.n t.P J*(sl 188 2 v h.length (ry e)*H))))).fw (xZ e1)
 have h4:ag w (pC t.j t.d J*(aT (join S g) t.d D*(ak (join S g)*(sl 188 2 v e.length (bP e)*(pt t.s (Y #[ay t.j,Z .i64 (t.n:Int),Z .i64 (t.P:Int)] 125 (0,0))*H))))):=by
  rw [G];exact h3.to (by unfold eE;show _*(_*(_*(sl _ 2 v _ (ry e)*H)))=_*(_*(_*(sl _ 2 v _ (ry e)*_)));ac_rfl)
 have hp:cl e=h:=E
 have hr:Reads (join S g) v e (sl 188 2 v e.length (bP e)*(pt t.s (Y #[ay t.j,Z .i64 (t.n:Int),Z .i64 (t.P:Int)] 125 (0,0))*H)):=by
  intro S' b0 w' hE hs;refine ⟨xu (hs.to (by ac_rfl:_=sl 188 2 v e.length (bP e)*(b0*(ak S'*(pt t.s (Y #[ay t.j,Z .i64 (t.n:Int),Z .i64 (t.P:Int)] 125 (0,0))*H))))),fun z hz=>?_⟩;exact ((hV z hz).mono (e2.trans hE)).rd hs.ah
 have:=AI w (join S g) t.j t.d J D _ v e h4 C.ok C.nums C.I9 (by rw [G];have:=M.n1;omega) hr K ⟨fun _=>I4 (by rw [hp];exact M),fun _=>rfl⟩;rw [hp,d0] at this;refine this.mono ?_;rintro e0 w' ⟨y,-,rfl,h5,d5⟩;refine ⟨y,rfl,d5,?_⟩;exact (h5.to (by unfold eE;ac_rfl:_=sl 188 2 v e.length (bP e)*(eE t.s t.j t.d t.n t.P u*(aT y t.d i*(ak y*H))))).right
def SK (n P:Nat) (w:U) (e:Ending) (w':U):Prop:=e = Q (.agg #[Z .i64 (n:Int),Z .i64 (P:Int)])/\ag w' (whole w)/\aj w w'
def Up (t:Pl) (S:Hp) (u:N) (v b:Nat) (i:Int->gD (Jr × aB)->ai->Prop) (H:ai) (y:U) (e:Ending) (w':U):Prop:=
 ∃ c h M g,i c M g/\((c=0/\e = Q (I #[]))\/(c≠0/\e = .panicked (lG c)))/\aj y w' /\
  ag w' (pt t.f (gU t u)*(pt v (bG b t.n)*(cE (yK t S) h b M*(ak h*(g*H)))))
def Q2 (t:Pl) (S:Hp) (g:N) (J:Jr) (D:aB) (u:FuncId) (i:Array N) (G:ai) (h:Int->gD (Jr × aB)->ai->Prop):Prop:=
 ∀ (v b:Nat) (e:U) (H:ai),ag e (pt t.f (gU t g)*(pt v (bG b t.n)*(cE (yK t S) wK b ⟨0,[],[],(J,D)⟩*(ak wK*(G*H)))))->Calls W u (#[ay v]++i) e (Up t S g v b h H e)
def U1 (t:Pl) (i:Int->gD (Jr × aB)->ai->Prop):Prop:=
 ∀ c M g,i c M g->c=0->(M.W.map A1).Nodup->M.W≠[]->∃ has h e,fL M.s.1 M.s.2 has/\M.s.1.n=(t.n:Int)/\Batch (t.n:Int) (ij M.W)/\eK M.s.1 M.s.2 K (ij M.W)=(0,h,e)
def Vb (t:Pl) (C:N) (y:Int->gD (Jr × aB)->ai->Prop) (F:ai) (w:U) (e:Ending) (w':U):Prop:=
 ∃ c M i u h g,y c M i/\(M.W.map A1).Nodup/\e = Q (Z .i64 c)/\aj w w' /\
  ag w' (pt t.f (gU t C)*(eE t.s t.j t.d t.n t.P h*(aT u t.d g*(ak u*(i*F))))) /\
  (c=0->M.W≠[]->eK M.s.1 M.s.2 K (ij M.W)=(0,h,g))/\((c≠0\/M.W=[])->M.s=(h,g))
theorem Ed (t:Pl) (w:U) (S:Hp) (J:Jr) (D:aB) (g:N) (jf:FuncId) (H0:Array N) (g0 F:ai) (Pj:Int->gD (Jr × aB)->ai->Prop) (hJ:J.Ok) (hD:D.Ok)
  (mS:∀ (G0:Array N) (w:U),(callFunc jf G0).run W w = .ok (.enter jf G0) w) (hj:Q2 t S g J D jf H0 g0 Pj) (hm:U1 t Pj)
  (h:ag w (pt t.f (gU t g)*(eE t.s t.j t.d t.n t.P J*(aT S t.d D*(ak S*(g0*F)))))) :
  Calls W 29 #[ay t.f,.func (.func jf) #[] H0] w (Vb t g Pj F w):=by
 refine aH fun l1 HQ=>?_;have Hj:=ae hj;have Hm:=ae hm;have HJ:=ae hJ;have HD:=ae hD;have cf:w.cell? ⟨t.f,0,V⟩=X (ay t.s):=h.cell 0;have g1:t.f<w.heap.size:=h.lt;clear hj hm hJ hD
 go_enter_defers func29,ntmps29
 have H1:=h.alloc (Y #[Z .i64 0] 28 (0,0));have D1:=(aj.refl w).alloc (Y #[Z .i64 0] 28 (0,0))
 go_wp2_with fail
 generalize w.alloc (Y #[Z .i64 0] 28 (0,0))=w3 at *;generalize w.heap.size=u at *;obtain ⟨o0,i0⟩:∃ b0,b0=pt u (Y #[Z .i64 0] 28 (0,0))*(pt t.f (gU t g)*(eE t.s t.j t.d t.n t.P J*(aT S t.d D*(ak S*(g0*F))))):=⟨_,rfl⟩
 have hF:∀ w' b0,ag w' (b0*o0)->w'.cell? ⟨t.f,0,V⟩=X (ay t.s):=fun w' b0 hx=>by
  rw [i0] at hx;exact hx.au.cell 0
 have hG:∀ w' b0,ag w' (b0*o0)->Calls W 72 #[ay t.s] w' (SK t.n t.P w'):=fun w' b0 hx=>by
  rw [i0] at hx;exact Mp w' t.s t.j t.d t.n t.P J _ (hx.to (by ac_rfl:_=eE t.s t.j t.d t.n t.P J*(b0*(pt u (Y #[Z .i64 0] 28 (0,0))*(pt t.f (gU t g)*(aT S t.d D*(ak S*(g0*F))))))))
 rw [<- i0] at H1;have c0:=hF w3 emp (H1.to (cW _).symm);have HF:=ae hF;have HG:=ae hG;have n1:∀ w,(Instr.field 119 (.agg #[Z .i64 (t.n:Int),Z .i64 (t.P:Int)]) 0).run W w = .ok (Z .i64 (t.n:Int)) w:=fun w=>by kernel_rfl
 have H3:=ae H1;have D3:=ae D1;have HB:=ae i0;clear H1 D1 hF hG i0 cf h g1
 go_cut [5] from 17 to 33 (fun u5 wx=>∃ v b,u5=ay v/\ag wx (pt v (bG b t.n)*(aA 176 5 wK b (.iface 61 (ay t.s)) 0 [] []*o0))/\aj w wx)
 case first=>
  refine wp_region_held_drew (S:=(fun w'=>w'.cell? ⟨t.f,0,V⟩=X (ay t.s))) (by kernel_rfl) ?_ (fun l0=>?_)
  .first|exact c0|exact c1|exact c2|exact bR _ _ _ _ c1|exact bR _ _ _ _ c2
  refine CQ 0 ?_;refine CQ 1 ?_;refine CQ 2 ?_;refine CQ 3 ?_;refine CQ 4 ?_;refine CQ 5 ?_;refine CQ 7 ?_;refine CQ 8 ?_;refine CQ 9 ?_;refine CQ 10 ?_;refine CQ 11 ?_;refine wpAnyH_ready (rs:=[6]) (by kernel_rfl) (by simp) ?_;refine AllReadyH.cons rfl (fun h0 hK=>?_) AllReadyH.nil
  go_simp
  go_wp2_with (go_at_call 71;go_loud ((with_reducible refine (Ba.yU _ 61 (ay t.s)).mono ?_);rintro d0 M ⟨b,rfl,h4,d4⟩;have hn:=(h4 wK).under H3.out.drew;have c1:M.cell? ⟨t.f,0,V⟩=X (ay t.s):=HF.out M _ hn))
  refine hK.out _ _ ?_ (fun l0=>?_)
  .first|exact c0|exact c1|exact c2|exact bR _ _ _ _ c1|exact bR _ _ _ _ c2
  clear hK h0;refine wpAnyH_ready (rs:=[12]) (by kernel_rfl) (by simp) ?_;refine AllReadyH.cons rfl (fun h0 hK=>?_) AllReadyH.nil
  go_simp
  go_wp2_with (go_at_call 72;go_loud ((with_reducible refine (HG.out M _ hn).mono ?_);rintro d0 w5 ⟨rfl,h5,d5⟩;have hg:=((h5.to (cW _).symm).under hn).right;have c2:w5.cell? ⟨t.f,0,V⟩=X (ay t.s):=HF.out w5 _ hg))
  refine hK.out _ _ ?_ (fun l0=>?_)
  .first|exact c0|exact c1|exact c2|exact bR _ _ _ _ c1|exact bR _ _ _ _ c2
  clear hK h0;refine CQ 13 ?_;refine CQ 14 ?_;refine CQ 15 ?_;refine wpAnyH_ready (rs:=[16]) (by kernel_rfl) (by simp) ?_;refine AllReadyH.cons rfl (fun h0 hK=>?_) AllReadyH.nil
  go_simp
  refine hK.out _ _ ?_ (fun l0=>?_)
  .first|exact c0|exact c1|exact c2|exact bR _ _ _ _ c1|exact bR _ _ _ _ c2
  clear hK h0;refine CQ 17 ?_;refine wpAnyH_done (by kernel_rfl) ?_ _
  go_wp2_with fail
  go_meet
  exact ⟨_,b,rfl,(hg.alloc (bG b t.n)).to (by ac_rfl),((D3.out.drew.trans d4).trans d5).alloc _⟩
 case rest=>
  clear c0 HF HG H3 D3;obtain ⟨v,b,rfl,S0,h1⟩:=hcut;rw [HB.out] at S0
  have d1:ag wc (pt t.f (gU t g)*(pt v (bG b t.n)*(cE (yK t S) wK b ⟨0,[],[],(J,D)⟩*(ak wK*(g0*(pt u (Y #[Z .i64 0] 28 (0,0))*F)))))):=by
   have h6:ag wc (fact (J.Ok/\D.Ok)*_):=ag.aq.2 ⟨⟨HJ.out,HD.out⟩,ag.yx S0⟩;have d0:cE (yK t S) wK b ⟨0,[],[],(J,D)⟩=aA 176 5 wK b (.iface 61 (ay t.s)) 0 [] []*(fact (J.Ok/\D.Ok)*(eE t.s t.j t.d t.n t.P J*(aT S t.d D*ak S))):=rfl;rw [d0];exact h6.to (by show fact _*(ak wK*_)=_;ac_rfl)
  have L0:=ae (Hj.out v b wc _ d1);have F0:=ae h1
  go_wp2_with fail
  refine L0.out.mono ?_;clear L0;rintro d0 M ⟨c,i,q0,H,hP,he,d4,h4⟩;have HP:=ae hP;have D4:=ae (F0.out.trans d4);clear hP d4 F0;rcases he with ⟨rfl,rfl⟩|⟨hc,rfl⟩
  .obtain ⟨E,e,y,C,G⟩:=q0
   have e0:ag M (aA 176 5 i b (.iface 61 (ay t.s)) E e y*(ak i*(NS t.s t.j t.d t.n t.P S (C,G)*(pt t.f (gU t g)*(pt v (bG b t.n)*(H*(pt u (Y #[Z .i64 0] 28 (0,0))*F))))))):=h4.to (by unfold cE yK Cx.rd;ac_rfl);have n0:=tl e0;have m0:=ae (OV M i b _ E e y _ e0);have c1:M.cell? ⟨v,0,V⟩=X (ay b):=h4.ah.cell 0;obtain ⟨⟨s0,r0⟩,h5⟩:=nf (e0.to (by ac_rfl:_=NS t.s t.j t.d t.n t.P S (C,G)*(aA 176 5 i b (.iface 61 (ay t.s)) E e y*(ak i*(pt t.f (gU t g)*(pt v (bG b t.n)*(H*(pt u (Y #[Z .i64 0] 28 (0,0))*F))))))));dsimp only at h5 s0 r0;have H5:=ae h5;have p0:=ae n0;clear h4 e0 h5 n0
   by_cases hw:e=[]
   .subst hw
    have j1:=ae s0;have i1:=ae r0;clear Hm s0 r0 mS;have h6:=H5.out.to (by ac_rfl:_=pt u (Y #[Z .i64 0] 28 (0,0))*((aA 176 5 i b (.iface 61 (ay t.s)) E [] y*(ak i*pt v (bG b t.n)))*(pt t.f (gU t g)*(eE t.s t.j t.d t.n t.P C*(aT S t.d G*(ak S*(H*F)))))));have z0:=h6.cell 0;have f0:M.frozen? ⟨u,0,V⟩=false:=h6.frozen 0;have h7:=h6.setCell 0 (Z .i64 0);have Y0:=ae (h7.cell 0);have H7:=ae h7.right.right;have D7:=ae (D4.out.setCell ⟨u,0,V⟩ (Z .i64 0));clear h6 h7 H5
    go_wp2_with fail
    refine m0.out.mono ?_;rintro d0 w5 ⟨rfl,rfl⟩;clear m0
    go_wp2_with fail
    refine xE rfl Y0.out (HQ.out _ _ ⟨0,⟨E,[],y,C,G⟩,H,S,C,G,HP.out,p0.out,rfl,D7.out,H7.out,fun _ h=>absurd rfl h,fun _=>rfl⟩)
   .obtain ⟨has,J2,D2,hI,R0,K0,N0⟩:=Hm.out 0 _ _ HP.out rfl p0.out hw
    dsimp only at hI R0 K0 N0;have o1:(0:Int)<(e.length:Int):=by have:=List.length_pos_iff.2 hw;omega
    have HI:=ae hI;have u0:=ae K0;have x0:=ae N0;have W0:=ae R0;have Hw:=ae hw;have hX:=H5.out.to (by ac_rfl:_=aA 176 5 i b (.iface 61 (ay t.s)) E e y*(ak i*(eE t.s t.j t.d t.n t.P C*(aT S t.d G*(ak S*(pt t.f (gU t g)*(pt v (bG b t.n)*(H*(pt u (Y #[Z .i64 0] 28 (0,0))*F)))))))));have a1:e.length<=1000000:=by have:=u0.out.n1;rw [zn] at this;omega
    have f1:=fun w' h=>KH w' i b (.iface 61 (ay t.s)) E e y (eE t.s t.j t.d t.n t.P C*(aT S t.d G*(ak S*(pt t.f (gU t g)*(pt v (bG b t.n)*(H*(pt u (Y #[Z .i64 0] 28 (0,0))*F))))))) a1 h;have k0:M.cell? ⟨t.f,0,V⟩=X (ay t.s)/\M.cell? ⟨t.s,0,V⟩=X (ay t.j)/\M.cell? ⟨v,0,V⟩=X (ay b):=⟨(hX.dI).cell 0,rX (hX.au),c1⟩
    have HX:=ae hX;have X0:=ae f1;have e1:∀ (w':U) (b0:ai) (J3:Jr) ,ag w' (pt t.f (gU t g)*(eE t.s t.j t.d t.n t.P J3*(pt v (bG b t.n)*b0)))->w'.cell? ⟨t.f,0,V⟩=X (ay t.s)/\w'.cell? ⟨t.s,0,V⟩=X (ay t.j)/\w'.cell? ⟨v,0,V⟩=X (ay b):=fun w' b0 J3 h=>⟨h.cell 0,rX h.ah,h.au.cell 0⟩
    have D0:=ae e1;have b1:=fun w' S2 vL h=>A6 t w' S S2 vL (ij e) C J2 G D2 has (aA 176 5 S2 b (.iface 61 (ay t.s)) E e y*(pt t.f (gU t g)*(pt v (bG b t.n)*(H*(pt u (Y #[Z .i64 0] 28 (0,0))*F))))) HI.out (by rw [W0.out];exact u0.out) x0.out h;have V0:=ae b1;have T0:=ae fun w=>cO w
    go_wp2_with fail
    refine m0.out.mono ?_;rintro d0 w5 ⟨rfl,rfl⟩;clear m0
    go_wp2_with fail
    go_region_held3 (fun w'=>w'.cell? ⟨t.f,0,V⟩=X (ay t.s)/\w'.cell? ⟨t.s,0,V⟩=X (ay t.j)/\w'.cell? ⟨v,0,V⟩=X (ay b))
     (first|exact k0|exact k1|exact k2|exact k3|go_keep)
     (first
      | (go_at_call 75;refine (X0.out _ HX.out.drew).mono ?_;rintro d0 w6 ⟨S2,vL,m1,rfl,hL,dL⟩;have k1:=D0.out w6 _ C (hL.to (by ac_rfl:_=pt t.f (gU t g)*(eE t.s t.j t.d t.n t.P C*(pt v (bG b t.n)*(gE 188 5 S2 vL (ij e)*(aA 176 5 S2 b (.iface 61 (ay t.s)) E e y*(ak S2*(aT S t.d G*(ak S*(H*(pt u (Y #[Z .i64 0] 28 (0,0))*F))))))))))))
      | (go_at_call 74;refine (V0.out _ S2 vL (hL.to (by ac_rfl))).mono ?_;rintro d0 w7 ⟨S3,rfl,d7,h7⟩;have k2:=D0.out w7 _ J2 (h7.to (by ac_rfl:_=pt t.f (gU t g)*(eE t.s t.j t.d t.n t.P J2*(pt v (bG b t.n)*(aT S3 t.d D2*(ak S3*(aA 176 5 S2 b (.iface 61 (ay t.s)) E e y*(H*(pt u (Y #[Z .i64 0] 28 (0,0))*F))))))))))
      | (go_at_call 34;refine (T0.out _).mono ?_;rintro d0 w8 ⟨rfl,rfl⟩))
    rename_i l0;have h8:=h7.to (by ac_rfl:_=pt u (Y #[Z .i64 0] 28 (0,0))*((aA 176 5 S2 b (.iface 61 (ay t.s)) E e y*pt v (bG b t.n))*(pt t.f (gU t g)*(eE t.s t.j t.d t.n t.P J2*(aT S3 t.d D2*(ak S3*(H*F)))))));have z0:=h8.cell 0;have f0:w7.frozen? ⟨u,0,V⟩=false:=h8.frozen 0;have h9:=h8.setCell 0 (Z .i64 0);have Z0:=ae (h9.cell 0);have H9:=ae h9.right.right;have D9:=ae (((D4.out.drew.trans dL).trans d7).setCell ⟨u,0,V⟩ (Z .i64 0));clear h7 h8 h9 dL d7
    go_wp2_with fail
    refine xE rfl Z0.out (HQ.out _ _ ⟨0,⟨E,e,y,C,G⟩,H,S3,J2,D2,HP.out,p0.out,rfl,D9.out,H9.out,fun _ _=>x0.out,fun h=>?_⟩);rcases h with h|h
    .exact absurd rfl h
    .exact absurd h Hw.out
  .have hd:(c:Int)≠0:=hc
   have h5:ag M (pt u (Y #[Z .i64 0] 28 (0,0))*(pt t.f (gU t g)*(pt v (bG b t.n)*(cE (yK t S) i b q0*(ak i*(H*F)))))):=h4.to (by ac_rfl);obtain ⟨E,e,y,C,G⟩:=q0;have e0:ag M (aA 176 5 i b (.iface 61 (ay t.s)) E e y*(ak i*(NS t.s t.j t.d t.n t.P S (C,G)*(pt t.f (gU t g)*(pt v (bG b t.n)*(H*(pt u (Y #[Z .i64 0] 28 (0,0))*F))))))):=h4.to (by unfold cE yK Cx.rd;ac_rfl);have n0:=tl e0;refine IS hc rfl h5 fun w' h6 d6=>HQ.out _ _ ⟨c,⟨E,e,y,C,G⟩,H,S,C,G,HP.out,n0,rfl,D4.out.trans d6,?_,fun h=>absurd h hc,fun _=>rfl⟩;have h7:ag w' (NS t.s t.j t.d t.n t.P S (C,G)*((aA 176 5 i b (.iface 61 (ay t.s)) E e y*(ak i*pt v (bG b t.n)))*(pt t.f (gU t g)*(H*F)))):=h6.to (by unfold cE yK Cx.rd;ac_rfl);obtain ⟨-,h8⟩:=nf h7;exact (h8.to (by ac_rfl:_=(aA 176 5 i b (.iface 61 (ay t.s)) E e y*(ak i*pt v (bG b t.n)))*(pt t.f (gU t g)*(eE t.s t.j t.d t.n t.P C*(aT S t.d G*(ak S*(H*F))))))).right
structure Ds where
 J:Jr
 D:aB
 has:Has
 B:Nat
structure Ds.Rd (s s':Ds):Prop where
 J:s'.J=s.J
 D:∃ r,s'.D={ s.D with cr:=r }
 has:s'.has=s.has
 B:s'.B=s.B
def Ds.Cm (n:Nat) (s s':Ds):Prop:=∃ r e,Batch (n:Int) e/\eK s.J { s.D with cr:=r } K e=(0,s'.J,s'.D)/\s'.has=mP s.has e/\s'.B=s.B+1
structure PI {n:Nat} (q:Dk n) (s:Ds) (A:Nat->Option AF) (k:Nat):Prop where
 q:q.Q s.B s.J s.D s.has
 has:Go.SL.Has n ⟨jq s.has,jq s.has 0⟩ A k
theorem PI.rd {n:Nat} {q:Dk n} {s s':Ds} {A:Nat->Option AF} {k:Nat} (h:PI q s A k) (r:s.Rd s'):PI q s' A k:=by
 obtain ⟨E,C,G,y⟩:=s';obtain ⟨e,⟨r,g⟩,i,u⟩:=r;dsimp only at e g i u;subst e;subst g;subst i;subst u;exact ⟨q.cr h.q r,h.has⟩
def pV (t:Pl) (s:Ds):ai:=ex fun S=>eE t.s t.j t.d t.n t.P s.J*(aT S t.d s.D*ak S)
section
variable {t:Pl} {s:Ds} {w:U} {F:ai}
theorem zr (h:ag w (pV t s*F)):∃ S,ag w (eE t.s t.j t.d t.n t.P s.J*(aT S t.d s.D*(ak S*F))):=by
 obtain ⟨S,e⟩:=ag.aw.1 h;exact ⟨S,e.to (by ac_rfl)⟩
theorem lX {S:Hp} (h:ag w (eE t.s t.j t.d t.n t.P s.J*(aT S t.d s.D*(ak S*F)))):ag w (pV t s*F):=
 ag.aw.2 ⟨S,h.to (by ac_rfl)⟩
end
def Uk (t:Pl) (u:N) (x:Fx t.n) (v b:Nat) (P:Int->Nat->(Nat->Option AF)->Nat->ai->Prop) (H:ai) (y:U) (e:Ending) (w':U):Prop:=
 ∃ c g i h m,P c m g i h/\((c=0/\e = Q (I #[]))\/(c≠0/\e = .panicked (lG c)))/\aj y w'/\m<=24 /\
  ag w' (pt t.f (gU t u)*(pt v (bG b t.n)*(dF (x.more m) b g i*(h*H))))
def Uv (t:Pl) (u:N) (q:Dk t.n) (s:Ds) (P:Int->Nat->(Nat->Option AF)->Nat->ai->Prop) (F:ai) (w:U) (e:Ending) (w':U):Prop:=
 ∃ c m g i h s',P c m g i h/\e = Q (Z .i64 c)/\aj w w'/\ag w' (pt t.f (gU t u)*(pV t s'*(h*F))) /\
  (m=0->s.Rd s')/\((c≠0/\s.Rd s')\/(c=0/\PI q s' g i/\(s.Rd s'\/s.Cm t.n s')))
theorem PA (t:Pl) (q:Dk t.n) (h4:4<=t.n) (hn:t.n<=3840) (w:U) (s:Ds) (A:Nat->Option AF) (k:Nat) (C:N) (jf:FuncId) (g0:Array N) (b0 F:ai) (P:Int->Nat->(Nat->Option AF)->Nat->ai->Prop)
  (ha:PI q s A k) (hB:s.B<=1000000) (mS:∀ (l0:Array N) (w:U),(callFunc jf l0).run W w = .ok (.enter jf l0) w)
  (hj:∀ (x:Fx t.n) (v b:Nat) (w1:U) (H:ai),x.C=0->ag w1 (pt t.f (gU t C)*(pt v (bG b t.n)*(dF x b A k*(b0*H))))->Calls W jf (#[ay v]++g0) w1 (Uk t C x v b P H w1))
  (h:ag w (pt t.f (gU t C)*(pV t s*(b0*F)))) :
  Calls W 29 #[ay t.f,.func (.func jf) #[] g0] w (Uv t C q s P F w):=by
 obtain ⟨J,D,has,B⟩:=s;obtain ⟨d0,h1⟩:=zr (h.to (by ac_rfl:_=pV t ⟨J,D,has,B⟩*(pt t.f (gU t C)*(b0*F))));have hq:q.Q B J D has:=ha.q;have hh:Go.SL.Has t.n ⟨jq has,jq has 0⟩ A k:=ha.has;have hB:B<=1000000:=hB
 let x:Fx t.n:=⟨Jr × aB,yK t d0,jq has,IJ J D,JD t d0,xF hq,h4,hn,fun _=>emp,fun _ _ _ _ h=>h,0⟩
 have m0:∀ (M:gD (Jr × aB)) i u,n8 t.n (jq has) (IJ J D) M i u->M.W.length<=24->(M.W.map A1).Nodup->M.W≠[] ->
   ∃ r g e,M.s=(J,{ D with cr:=r })/\q.Q B J { D with cr:=r } has/\Batch (t.n:Int) (ij M.W)/\eK J { D with cr:=r } K (ij M.W)=(0,g,e)/\q.Q (B+1) g e (mP has (ij M.W)):=by
  intro M i u E hl c0 k0;obtain ⟨S,r,e2⟩:=E.gr.inv;have hb:=yh E c0 hl (List.length_pos_iff.2 k0);obtain ⟨g,e,e3,e4⟩:=q.zC (q.cr hq r) hB hb;exact ⟨r,g,e,Prod.ext S e2,q.cr hq r,hb,e3,e4⟩
 refine (Ed t w d0 J D C jf g0 b0 F (fun c M y=>∃ m i u,P c m i u y/\n8 t.n (jq has) (IJ J D) M i u/\M.W.length<=m/\m<=24) (q.inv hq).ok (q.inv hq).I9 mS ?_ ?_ (h1.to (by ac_rfl))).mono ?_
 .intro v b w1 H G
  have q0:ag w1 (Qa x b ⟨0,[],[],(J,D)⟩*(pt t.f (gU t C)*(pt v (bG b t.n)*(b0*H)))):=
   ag.rq (x:=x) (S:=wK) (S':=wK) (fun _ _ h=>h) (G.to (by show _=cE (yK t d0) wK b ⟨0,[],[],(J,D)⟩*(ak wK*(emp*(pt t.f (gU t C)*(pt v (bG b t.n)*(b0*H)))));rw [cW];ac_rfl))
  have r0:=ag.nh (x:=x) (A:=A) (k:=k) ⟨Ik hh,Nat.zero_le _⟩ q0;refine (hj x v b w1 H rfl (r0.to (by ac_rfl))).mono ?_;rintro i0 w2 ⟨c,i,u,y,m,hP,he,d,hm,hs⟩;obtain ⟨M,hM,h2⟩:=ag.kz (x:=x.more m) (hs.to (by ac_rfl:_=dF (x.more m) b i u*(pt t.f (gU t C)*(pt v (bG b t.n)*(y*H)))));obtain ⟨S',h3⟩:=ag.mH (x:=x.more m) h2;refine ⟨c,S',M,y,⟨m,i,u,hP,hM.1,Nat.le_trans hM.2 (by show 0+m<=m;omega),hm⟩,he,d,?_⟩;have h4:ag w2 (cE (yK t d0) S' b M*(ak S'*(emp*(pt t.f (gU t C)*(pt v (bG b t.n)*(y*H)))))):=h3;rw [cW] at h4;exact h4.to (by ac_rfl)
 .rintro c M y ⟨m,i,u,-,E,hl,hm⟩-c0 k0
  obtain ⟨r,g,e,S,e2,e3,e4,-⟩:=m0 M i u E (by omega) c0 k0;refine ⟨has,g,e,?_,?_,e3,?_⟩
  .rw [S];exact q.inv e2
  .rw [S];exact q.jn e2
  .rw [S];exact e4
 .rintro i0 w' ⟨c,M,y,S',g,e,⟨m,i,u,hP,E,hl,hm⟩,c0,rfl,d,hs,n0,o0⟩
  obtain ⟨S,r,e2⟩:=E.gr.inv
  have f0:(c≠0\/M.W=[])->Ds.Rd ⟨J,D,has,B⟩ ⟨g,e,has,B⟩:=fun h=>by
   have i0:=o0 h;rw [i0] at S e2;exact ⟨S,⟨r,e2⟩,rfl,rfl⟩
  have p0:m=0->M.W=[]:=fun h=>List.eq_nil_of_length_eq_zero (by omega)
  by_cases h0:c=0
  .by_cases G:M.W=[]
   .refine ⟨c,m,i,u,y,⟨g,e,has,B⟩,hP,rfl,d,(lX (s:=⟨g,e,has,B⟩) (hs.to (by ac_rfl))).to (by ac_rfl:pV t ⟨g,e,has,B⟩*(pt t.f (gU t C)*(y*F))=_),fun _=>f0 (.inr G),.inr ⟨h0,?_,.inl (f0 (.inr G))⟩⟩
    exact PI.rd (s:=⟨J,D,has,B⟩) ⟨hq,sQ E G⟩ (f0 (.inr G))
   .obtain ⟨r',J2,D2,f1,f2,f3,f4,f5⟩:=m0 M i u E (by omega) c0 G
    have e0:=n0 h0 G;rw [f1] at e0;have e0:eK J { D with cr:=r' } K (ij M.W)=(0,g,e):=e0;rw [e0] at f4;simp only [Prod.mk.injEq,true_and] at f4;obtain ⟨rfl,rfl⟩:=f4
    exact ⟨c,m,i,u,y,⟨g,e,mP has (ij M.W),B+1⟩,hP,rfl,d,(lX (s:=⟨g,e,mP has (ij M.W),B+1⟩) (hs.to (by ac_rfl))).to (by ac_rfl:pV t ⟨g,e,mP has (ij M.W),B+1⟩*(pt t.f (gU t C)*(y*F))=_),
     fun h=>absurd (p0 h) G,.inr ⟨h0,⟨f5,uX E c0⟩,.inr ⟨r',ij M.W,f3,e0,rfl,rfl⟩⟩⟩
  .exact ⟨c,m,i,u,y,⟨g,e,has,B⟩,hP,rfl,d,(lX (s:=⟨g,e,has,B⟩) (hs.to (by ac_rfl))).to (by ac_rfl:pV t ⟨g,e,has,B⟩*(pt t.f (gU t C)*(y*F))=_),fun _=>f0 (.inl h0),.inl ⟨h0,f0 (.inl h0)⟩⟩
end Go.Proofs.Cl
namespace Go.Proofs.Cl
open Go.RowKit Go.SL Go.Proofs.Nn Go.Proofs.Ba Go.Proofs.Su Go.Proofs.Fs
attribute [local go_sem] Oper.semAt_some
abbrev kY:=List (Int × (Nat × Nat))
def lD (O:kY):KV:=O.map fun o=>(o.1,.agg #[Z .i64 (o.2.1:Int),Z .i64 (o.2.2:Int)])
def eG (t:Pl) (s:Ds) (m:Nat) (O:kY):ai:=pt t.f (gU t (.map (X m)))*(pV t s*mp m (lD O))
structure mQ (t:Pl) (q:Dk t.n) (s:Ds) (T:Tr) (k:Nat):Prop where
 at_:PI q s (eY T) k
 ty:Tidy t.n T
 h4:4<=t.n
 hn:t.n<=3840
def Ds.Go (n:Nat) (wr:Bool) (s s':Ds):Prop:=s.Rd s'\/(wr=K/\s.Cm n s')
def UO (t:Pl) (q:Dk t.n) (m:Nat) (wr:Bool) (s:Ds) (h:Tr) (i:Nat) (g:kY) (v:N) (F:ai) (w:U) (e:Ending) (w':U):Prop:=
 ∃ s',e = Q v/\aj w w'/\s.Go t.n wr s'/\mQ t q s' h i/\ag w' (eG t s' m g*F)
section
variable {t:Pl} {q:Dk t.n} {s s':Ds} {T:Tr} {k m:Nat} {O:kY} {w:U} {F:ai} {p:List UInt8}
theorem mQ.rd (h:mQ t q s T k) (r:s.Rd s'):mQ t q s' T k:=⟨h.at_.rd r,h.ty,h.h4,h.hn⟩
def ez (t:Pl) (m:Nat) (O:kY):ai:=pt t.f (gU t (.map (X m)))*mp m (lD O)
theorem kE (E:mQ t q s T k) (hB:s.B<=1000000) (h:FuncId) (y:Array N) (G:ai) (c:Int) (i u:ai)
  (mS:∀ (S:Array N) (w:U),(callFunc h S).run W w = .ok (.enter h S) w)
  (hj:∀ (x:Fx t.n) (v b:Nat) (g:U) (H:ai),ag g (vA x b v T k*(G*(ez t m O*H)))->Calls W h (#[ay v]++y) g (JB c (vA x b v T k*(i*(ez t m O*H))) (vA x b v T k*(u*(ez t m O*H))) g))
  (b0:ag w (eG t s m O*(G*F))) :
  Calls W 29 #[ay t.f,.func (.func h) #[] y] w fun e w'=>
   ∃ s',e = Q (Z .i64 c)/\aj w w'/\s.Rd s'/\ag w' (eG t s' m O*((if c=0 then i else u)*F)):=by
 have h1:ag w (pt t.f (gU t (.map (X m)))*(pV t s*((G*mp m (lD O))*F))):=b0.to (by unfold eG;ac_rfl);refine (PA t q E.h4 E.hn w s (eY T) k (.map (X m)) h y (G*mp m (lD O)) F (fun c' m' A' k' M=>c'=c/\m'=0/\M=(if c=0 then i else u)*mp m (lD O)) E.at_ hB mS ?_ h1).mono ?_
 .intro x v b g H hC hw
  have h2:ag g (vA x b v T k*(G*(ez t m O*H))):=hw.to (by unfold vA ez;ac_rfl);refine (hj x v b g _ h2).mono ?_;rintro e w' ⟨d,⟨rfl,rfl,C⟩|⟨hc,rfl,C⟩⟩
  .exact ⟨0,eY T,k,_,0,⟨rfl,rfl,rfl⟩,.inl ⟨rfl,rfl⟩,d,by decide,(ag.sV (x:=x) 0 (C.to (by unfold vA ez;ac_rfl:_=dF x b (eY T) k*(pt t.f (gU t (.map (X m)))*(pt v (bG b t.n)*((i*mp m (lD O))*H)))))).to (by rw [if_pos rfl];ac_rfl)⟩
  .exact ⟨c,eY T,k,_,0,⟨rfl,rfl,rfl⟩,.inr ⟨hc,rfl⟩,d,by decide,(ag.sV (x:=x) 0 (C.to (by unfold vA ez;ac_rfl:_=dF x b (eY T) k*(pt t.f (gU t (.map (X m)))*(pt v (bG b t.n)*((u*mp m (lD O))*H)))))).to (by rw [if_neg hc];ac_rfl)⟩
 .rintro e w' ⟨c',m',A',k',M,s',⟨rfl,rfl,rfl⟩,rfl,d,hs,hr,-⟩
  exact ⟨s',rfl,d,hr rfl,hs.to (by unfold eG;ac_rfl)⟩
def Ua (z:Int × Int × Int):N:=.agg #[Z .i64 z.1,Z .i64 z.2.1,Z .i64 z.2.2]
theorem qI {w:U} {g:Array N} {rc:Nat} {z:Int × Int × Int} {e:N} {F:ai} (h4:g[4]?=X (ay rc)) (C:g[5]?=X e) (h:ag w (fm rc z*F)) :
  (results Tryz.f20 g).run W w = .ok (I #[Ua z,e]) w:=by
 have i:=ag.cell h 0;have u:=ag.cell h 1;have y:=ag.cell h 2;have E:g.getD 4 undef=ay rc:=by simp [h4]
 have G:g.getD 5 undef=e:=by simp [C]
 simp at i u y;simp [results,Tryz.results20,h4,C,asAddr,ay,go_sem,i,u,y,Ua]
theorem ML (M:mQ t q s T k) (hB:s.B<=1000000) (b0:ag w (eG t s m O*F)) :
  Calls W 20 #[ay t.f,L (str p)] w
   (UO t q m false s T k O (I #[Ua (if (cm T p).1=0 then wg (T (cm T p).2) else (0,0,0)),Z .i64 (cm T p).1]) F w):=by
 refine aH fun e0 y=>?_;have hA:=(((b0.alloc (Y #[L (str p)] 9 (0,0))).alloc (Y #[Z .i64 0,Z .i64 0,Z .i64 0] 48 (0,0))).alloc (Y #[Z .i64 0,Z .i64 0,Z .i64 0] 48 (0,0)))
 simp only [M1] at hA;have dA:=ae ((((aj.refl w).alloc (Y #[L (str p)] 9 (0,0))).alloc (Y #[Z .i64 0,Z .i64 0,Z .i64 0] 48 (0,0))).alloc (Y #[Z .i64 0,Z .i64 0,Z .i64 0] 48 (0,0)))
 have hd:=ae fun (pc g:Nat) (F':ai) (w':U) (h':ag w' (eG t s m O*((az pc p*fm g (0,0,0))*F')))=>
  kE M hB 53 #[ay pc,ay g] (az pc p*fm g (0,0,0)) (cm T p).1 (az pc p*fm g (wg (T (cm T p).2))) (az pc p*fm g (0,0,0)) (enters func53 (by kernel_rfl) rfl)
   (fun x v b w1 c0 hw=>(Kz (x:=x) (b:=b) (v:=v) (k:=k) (pc:=pc) (sc:=g) (F:=ez t m O*c0) (p:=p) M.ty (hw.to (by ac_rfl))).mono fun d0 w' hq=>by simpa only [ax] using hq) h'
 have HF:=ae M;have HA:=ae hA;clear b0 hA hB M;generalize cm T p=pw at *;obtain ⟨c,id⟩:=pw;dsimp only at hd y
 go_enter func20,ntmps20
 go_wp2_with fail
 generalize ((w.alloc (Y #[L (str p)] 9 (0,0))).alloc (Y #[Z .i64 0,Z .i64 0,Z .i64 0] 48 (0,0))).alloc (Y #[Z .i64 0,Z .i64 0,Z .i64 0] 48 (0,0))=w1 at *;generalize w.heap.size+1+1=g at *;generalize w.heap.size+1=rc at *;generalize w.heap.size=pc at *;refine (hd.out pc g (fm rc (0,0,0)*F) _ (HA.out.to (by unfold az fm;ac_rfl))).mono ?_;rintro d0 h ⟨s',rfl,d2,hr,u⟩;have G:=ae (dA.out.trans d2);have H:=ae hr;clear hd dA HA d2 hr
 by_cases h0:c=0
 .subst h0
  rw [if_pos rfl] at u y;generalize wg (T id)=z at *;obtain ⟨C,E,z3⟩:=z;have e:=u.to (by unfold fm;ac_rfl:_=pt rc (Y #[Z .i64 0,Z .i64 0,Z .i64 0] 48 (0,0))*(pt g (Y #[Z .i64 C,Z .i64 E,Z .i64 z3] 48 (0,0))*(az pc p*(eG t s' m O*F))));have s0:h.cell? ⟨g,0,V⟩=X (Z .i64 C):=e.ah.cell 0;have s1:h.cell? ⟨g,1,V⟩=X (Z .i64 E):=e.ah.cell 1;have s2:h.cell? ⟨g,2,V⟩=X (Z .i64 z3):=e.ah.cell 2;have r0:h.cell? ⟨rc,0,V⟩=X (Z .i64 0):=e.cell 0;have r1:h.cell? ⟨rc,1,V⟩=X (Z .i64 0):=e.cell 1;have r2:h.cell? ⟨rc,2,V⟩=X (Z .i64 0):=e.cell 2;have f0:=e.frozen 0;have f1:=e.frozen 1;have f2:=e.frozen 2;have H4:=ae (((e.setCell 0 (Z .i64 C)).setCell 1 (Z .i64 E)).setCell 2 (Z .i64 z3));have S:=ae (((G.out.setCell ⟨rc,0,V⟩ (Z .i64 C)).setCell ⟨rc,1,V⟩ (Z .i64 E)).setCell ⟨rc,2,V⟩ (Z .i64 z3));clear u e G
  go_wp2_with fail
  have i:=H4.out;simp only [E1,K1,N1] at i;exact bodyPost_ret (qI (z:=(C,E,z3)) rfl rfl i) rfl (y.out _ _ ⟨s',rfl,S.out,.inl H.out,HF.out.rd H.out,i.right.right.right⟩)
 .rw [if_neg h0] at u y
  have e:=u.to (by unfold fm;ac_rfl:_=pt rc (Y #[Z .i64 0,Z .i64 0,Z .i64 0] 48 (0,0))*((az pc p*fm g (0,0,0))*(eG t s' m O*F)));have r0:h.cell? ⟨rc,0,V⟩=X (Z .i64 0):=e.cell 0;have r1:h.cell? ⟨rc,1,V⟩=X (Z .i64 0):=e.cell 1;have r2:h.cell? ⟨rc,2,V⟩=X (Z .i64 0):=e.cell 2;have f0:=e.frozen 0;have f1:=e.frozen 1;have f2:=e.frozen 2;have H4:=ae (((e.setCell 0 (Z .i64 0)).setCell 1 (Z .i64 0)).setCell 2 (Z .i64 0));have S:=ae (((G.out.setCell ⟨rc,0,V⟩ (Z .i64 0)).setCell ⟨rc,1,V⟩ (Z .i64 0)).setCell ⟨rc,2,V⟩ (Z .i64 0));clear u e G
  go_wp2_with fail
  have i:=H4.out;simp only [E1,K1,N1] at i;exact bodyPost_ret (qI (z:=(0,0,0)) rfl rfl i) rfl (y.out _ _ ⟨s',rfl,S.out,.inl H.out,HF.out.rd H.out,i.right.right⟩)
end
def PC (t:Pl) (q:Dk t.n) (m:Nat) (s:Ds) (O:kY) (i:Int->Tr->Nat->Prop) (F:ai) (w:U) (e:Ending) (w':U):Prop:=
 ∃ c g h s',i c g h/\e = Q (Z .i64 c)/\aj w w'/\((c≠0/\s.Rd s')\/(c=0/\mQ t q s' g h/\s.Go t.n K s'))/\ag w' (eG t s' m O*F)
section
variable {t:Pl} {q:Dk t.n} {s s':Ds} {T:Tr} {k m:Nat} {O:kY} {w:U} {F:ai} {p:List UInt8}
theorem ni (i:mQ t q s T k) (hB:s.B<=1000000) (u:FuncId) (E:Array N) (G:ai) (C:Int->Tr->Nat->Prop)
  (mS:∀ (b0:Array N) (w:U),(callFunc u b0).run W w = .ok (.enter u b0) w)
  (hj:∀ (x:Fx t.n) (v b:Nat) (g:U) (H:ai),ag g (vA x b v T k*(G*(ez t m O*H)))->Calls W u (#[ay v]++E) g (RR x b v C (G*(ez t m O*H)) g))
  (h:ag w (eG t s m O*(G*F))) :
  Calls W 29 #[ay t.f,.func (.func u) #[] E] w (PC t q m s O C (G*F) w):=by
 have M:ag w (pt t.f (gU t (.map (X m)))*(pV t s*((G*mp m (lD O))*F))):=h.to (by unfold eG;ac_rfl);refine (PA t q i.h4 i.hn w s (eY T) k (.map (X m)) u E (G*mp m (lD O)) F (fun c _ A' y G'=>∃ e,C c e y/\(c=0->Tidy t.n e/\A'=eY e)/\G'=G*mp m (lD O)) i.at_ hB mS ?_ M).mono ?_
 .intro x v b g H hC hw
  have h2:ag g (vA x b v T k*(G*(ez t m O*H))):=hw.to (by unfold vA ez;ac_rfl);refine (hj x v b g _ h2).mono ?_;rintro c0 w' ⟨c,e,y,j,S,hT,he,d,d0,h3⟩;exact ⟨c,eY e,y,_,j,⟨e,S,fun h=>⟨hT h,rfl⟩,rfl⟩,he,d,d0,h3.to (by unfold vA ez;ac_rfl)⟩
 .rintro c0 w' ⟨c,j,A',y,G',s',⟨e,S,hT,rfl⟩,rfl,d,hs,-,hr⟩
  refine ⟨c,e,y,s',S,rfl,d,?_,hs.to (by unfold eG;ac_rfl)⟩;rcases hr with hr|⟨h0,ha,hg⟩
  .exact .inl hr
  .obtain ⟨M,rfl⟩:=hT h0
   exact .inr ⟨h0,⟨ha,M,i.h4,i.hn⟩,hg.imp id fun h=>⟨rfl,h⟩⟩
theorem AN {kd:Int} (e0:kd=1\/kd=2) (g:mQ t q s T k) (G:s.B<=1000000) (h:ag w (eG t s m O*F)) :
  Calls W 27 #[ay t.f,L (str p),Z .i64 kd] w (PC t q m s O (mF t.n T k kd p) F w):=by
 refine aH fun f0 HQ=>?_;have i:=((h.alloc (Y #[L (str p)] 9 (0,0))).alloc (Y #[Z .i64 kd] 3 (0,0)))
 rw [M1] at i;have C:=ae (((aj.refl w).alloc (Y #[L (str p)] 9 (0,0))).alloc (Y #[Z .i64 kd] 3 (0,0)))
 have M:=ae fun (pc e:Nat) (w':U) (h':ag w' (eG t s m O*((az pc p*aP e kd)*F)))=>
  ni g G 66 #[ay pc,ay e] (az pc p*aP e kd) (mF t.n T k kd p) (enters func66 (by kernel_rfl) rfl)
   (fun x v b w1 b0 hw=>(My (x:=x) (b:=b) (v:=v) (k:=k) (pc:=pc) (kc:=e) (F:=ez t m O*b0) (p:=p) e0 g.hn g.ty (hw.to (by ac_rfl))).mono fun c0 w' hq=>by simpa only [ax] using hq) h'
 have u:=ae i;clear h i G g
 go_enter func27,ntmps27
 go_wp2_with fail
 generalize (w.alloc (Y #[L (str p)] 9 (0,0))).alloc (Y #[Z .i64 kd] 3 (0,0))=w1 at *;generalize w.heap.size+1=e at *;generalize w.heap.size=pc at *;refine (M.out pc e _ (u.out.to (by unfold az aP;ac_rfl))).mono ?_;rintro c0 w2 ⟨c,T',k',s',H,rfl,y,S,E⟩;have d0:=ae (HQ.out _ _ ⟨c,T',k',s',H,rfl,C.out.trans y,S,(E.to (by ac_rfl:_=(az pc p*aP e kd)*(eG t s' m O*F))).right⟩);clear M C u y S H E
 go_wp2_with fail
 exact d0.out
theorem Et (y:mQ t q s T k) (i:s.B<=1000000) (h:ag w (eG t s m O*F)) :
  Calls W 9 #[ay t.f,L (str p)] w (PC t q m s O (mF t.n T k 1 p) F w):=by
 refine aH fun b0 G=>?_;have C:=ae (AN (p:=p) (kd:=1) (.inl rfl) y i h);clear h y i
 go_enter func9,ntmps9
 go_wp2_with fail
 refine C.out.mono ?_;rintro c0 w2 ⟨c,H,S,s',u,rfl,e,E,g⟩;have M:=ae (G.out _ _ ⟨c,H,S,s',u,rfl,e,E,g⟩);clear C e E u g
 go_wp2_with fail
 exact M.out
theorem IY (y:mQ t q s T k) (i:s.B<=1000000) (h:ag w (eG t s m O*F)) :
  Calls W 16 #[ay t.f,L (str p)] w (PC t q m s O (mF t.n T k 2 p) F w):=by
 refine aH fun b0 G=>?_;have C:=ae (AN (p:=p) (kd:=2) (.inr rfl) y i h);clear h y i
 go_enter func16,ntmps16
 go_wp2_with fail
 refine C.out.mono ?_;rintro c0 w2 ⟨c,H,S,s',u,rfl,e,E,g⟩;have M:=ae (G.out _ _ ⟨c,H,S,s',u,rfl,e,E,g⟩);clear C e E u g
 go_wp2_with fail
 exact M.out
end
def Cs (o:Nat × Nat):N:=.agg #[Z .i64 (o.1:Int),Z .i64 (o.2:Int)]
theorem zT (O:kY) (fd:Int):aM (lD O) fd=(aM O fd).map Cs:=by
 induction O with
 | nil=>rfl
 | cons o O e=>
  rw [lD,List.map_cons,gY,gY]
  by_cases h:o.1=fd
  .rw [if_pos h,if_pos h];rfl
  .rw [if_neg h,if_neg h];exact e
section
variable {t:Pl} {q:Dk t.n} {s s':Ds} {T:Tr} {k m:Nat} {O:kY} {w:U} {F:ai} {p:List UInt8} {fd:Int}
theorem xQ (h:ag w (ez t m O*F)) (fd:Int):(Instr.lookup 64 (.map (X m)) (Z .i64 fd) K).run W w = .ok (I #[(((aM O fd).map Cs).getD (Cs (0,0))),.bool (aM O fd).isSome]) w:=by
 have e:ag w (mp m (lD O)*(pt t.f (gU t (.map (X m)))*F)):=h.to (by unfold ez;ac_rfl);obtain ⟨o,i,g,-⟩:=e.nK;have:=iu (P:=W) (z:=Cs (0,0)) underlying64 underlying3 (by kernel_rfl) g i fd K;rw [zT] at this;rw [this,if_pos rfl,O1]
theorem lT (h:ag w (ez t m O*F)):Calls W 28 #[ay t.f,Z .i64 fd] w fun e w'=>e = Q (.bool (aM O fd).isSome)/\aj w w'/\ag w' (ez t m O*F):=by
 refine aH fun H g=>?_;have C:=xQ h fd
 obtain ⟨u,E⟩:∃ u,((aM O fd).map Cs).getD (Cs (0,0))=Cs u:=by
  cases aM O fd with
  | none=>exact ⟨_,rfl⟩
  | some o=>exact ⟨o,rfl⟩
 rw [E] at C;have M:w.cell? ⟨t.f,1,V⟩=X (.map (X m)):=(h.to (by unfold ez;ac_rfl:_=pt t.f (gU t (.map (X m)))*(mp m (lD O)*F))).cell 1;have y:=(h.alloc (Y #[Z .i64 (u.1:Int),Z .i64 (u.2:Int)] 78 (0,0))).right;have i:=(aj.refl w).alloc (Y #[Z .i64 (u.1:Int),Z .i64 (u.2:Int)] 78 (0,0));have G:=ae (g.out _ _ ⟨rfl,i,y⟩);unfold Cs at C;clear h E y i g;generalize (aM O fd).isSome=is at *
 go_enter func28,ntmps28
 go_wp2_with fail
 exact G.out
def ug (O:kY) (fd:Int):kY:=Go.SL.del O fd
theorem Oa (O:kY) (fd:Int):del (lD O) fd=lD (ug O fd):=by
 unfold del lD ug del;rw [List.filter_map];rfl
theorem F6 (hf:mQ t q s T k) (h:ag w (eG t s m O*F)) :
  Calls W 10 #[ay t.f,Z .i64 fd] w fun e w'=>e = Q (Z .i64 (if (aM O fd).isSome then 0 else 5))/\aj w w'/\ag w' (eG t s m (if (aM O fd).isSome then ug O fd else O)*F):=by
 refine aH fun b0 g=>?_;have E:ag w (ez t m O*(pV t s*F)):=h.to (by unfold eG ez;ac_rfl);have i:=ae (lT (fd:=fd) E);clear h
 cases C:(aM O fd).isSome with
 | false=>
  rw [C] at i g;rw [if_neg (by decide),if_neg (by decide)] at g;clear E C
  go_enter func10,ntmps10
  go_wp2_with fail
  refine i.out.mono ?_;rintro e M ⟨rfl,u,y⟩;have H:=ae (g.out _ _ ⟨rfl,u,y.to (by unfold eG ez;ac_rfl)⟩);clear i u y
  go_wp2_with fail
  exact H.out
 | true=>
  rw [C] at i g;rw [if_pos rfl,if_pos rfl] at g;clear E C
  go_enter func10,ntmps10
  go_wp2_with fail
  refine i.out.mono ?_;rintro e M ⟨rfl,u,y⟩;have G:ag M (mp m (lD O)*(pt t.f (gU t (.map (X m)))*(pV t s*F))):=y.to (by unfold ez;ac_rfl);have c1:M.cell? ⟨t.f,1,V⟩=X (.map (X m)):=G.ah.cell 1;obtain ⟨w3,hr,h4,S,-⟩:=ag.delete (P:=W) underlying64 underlying3 0 3 G fd;rw [Oa] at h4;have H:=ae (g.out _ _ ⟨rfl,u.trans S,h4.to (by unfold eG;ac_rfl)⟩);clear i u y G h4 S
  go_wp2_with fail
  exact H.out
def gw (T:Tr) (O:kY) (p:List UInt8):Int:=if (cm T p).1≠0 then (cm T p).1 else match T (cm T p).2 with
 | some (.file _)=>if 16<=O.length then 9 else 0
 | _=>8
def bd (t:Pl) (a:Nat):ai:=pt a (Y #[ay t.f] 25 (0,0))
def JI (a:Nat):ai:=ex fun z=>aP a z
theorem Nw {a:Nat} {z:Int} (h:ag w (aP a z*F)):ag w (JI a*F):=ag.aw.2 ⟨z,h⟩
theorem LD {x:Fx t.n} {b v pc nc fc:Nat} (M:Tidy t.n T) (m0:ag w (vA x b v T k*((az pc p*(aP nc 0*bd t fc))*(ez t m O*F)))) :
  Calls W 30 #[ay v,ay pc,ay nc,ay fc] w (JB (gw T O p) (vA x b v T k*((az pc p*(aP nc ((cm T p).2:Nat)*bd t fc))*(ez t m O*F))) (vA x b v T k*((az pc p*(JI nc*bd t fc))*(ez t m O*F))) w):=by
 refine aH fun l0 HQ=>?_;have G:=m0.to (by ac_rfl:_=vA x b v T k*(az pc p*(aP nc 0*(bd t fc*(ez t m O*F)))));have cp:w.cell? ⟨pc,0,V⟩=X (L (str p)):=G.ah.cell 0;have i0:=ae G;have HT:=ae M
 have d0:Hid (∀ c,c≠0->c=gw T O p->∀ (z:Int) (w':U),aj w w'->ag w' (vA x b v T k*(az pc p*(aP nc z*(bd t fc*(ez t m O*F)))))->l0 (.panicked (lG c)) w'):=fun c E he z w' d i=>
  HQ.out _ _ ⟨d,.inr ⟨by rw [<- he];exact E,by rw [he],(Nw (i.to (by ac_rfl:_=aP nc z*(vA x b v T k*(az pc p*(bd t fc*(ez t m O*F))))))).to (by ac_rfl)⟩⟩
 clear m0 G
 cases i:aZ p with
 | none=>
  have hk:=ae (lh (w:=w) i);have E:(1:Int)=gw T O p:=by unfold gw;rw [qA i];rfl
  clear M i
  go_enter func30,ntmps30
  go_wp2_with fail
  refine hk.out.mono ?_;rintro e w2 ⟨rfl,d2,h2⟩;exact ⟨rfl,d0.out 1 (by decide) E 0 _ d2 (h2.dN i0.out)⟩
 | some g=>
  obtain ⟨H0,hl⟩:=cV i;have u0:=eM (T:=T) i;have hk:=ae (dz (w:=w) i);have y:=fun G=>M.walk g M.root.choose_spec G;have HL:=ae hl;have g0:=ae u0;have HY:=ae y;clear M i hl H0 u0 y
  go_enter func30,ntmps30
  go_wp2_with fail
  refine hk.out.mono ?_;rintro e w2 ⟨u,rfl,d2,h2⟩;have C:=(h2.under i0.out).ah;have hw:=ae (eR HT.out HL.out fR C);have k0:=ae (show ∀ e w',JB (gw T O p) (vA x b v T k*((az pc p*(aP nc ((aN T 1 g).2:Nat)*bd t fc))*(ez t m O*F))) (vA x b v T k*((az pc p*(JI nc*bd t fc))*(ez t m O*F))) w e w'->l0 e w' by rw [<- g0.out];exact fun e w'=>HQ.out e w');have s0:gw T O p=if (aN T 1 g).1≠0 then (aN T 1 g).1 else match T (aN T 1 g).2 with|some (.file _)=>if 16<=O.length then 9 else 0|_=>8:=by unfold gw;rw [g0.out]
  have c0:=ae s0;clear s0;generalize aN T 1 g=pw at *;obtain ⟨c,id⟩:=pw;dsimp only at hw HY k0 c0;clear cp hk h2 C HL HQ g0
  go_wp2_with fail
  refine hw.out.mono ?_;rintro e w3 ⟨he,d3,C⟩;clear hw;have D3:=ae (d2.trans d3);clear d2 d3;rcases he with ⟨rfl,rfl⟩|⟨E,rfl⟩
  .obtain ⟨x0,y⟩:=HY.out rfl
   have h4:=C.to (by unfold aP;ac_rfl:_=pt nc (Y #[Z .i64 0] 3 (0,0))*(vA x b v T k*(az pc p*(bd t fc*(ez t m O*(dJ u g*F))))));have n0:w3.cell? ⟨nc,0,V⟩=X (Z .i64 0):=h4.cell 0;have f0:=h4.frozen 0;have h:=h4.setCell 0 (Z .i64 (id:Int));simp only [E1,K1] at h;have n1:=h.cell 0;have o0:=ae (lz y h.ah);have D5:=ae (D3.out.setCell ⟨nc,0,V⟩ (Z .i64 (id:Int)))
   have H:gw T O p=if x0.af.kd=1 then (if 16<=O.length then 9 else 0) else 8:=by
    rw [c0.out,if_neg (by decide),y]
    cases x0 with
    | file f=>have:=HT.out.files _ _ y;show _=if f.kd=1 then _ else _;rw [if_pos this]
    | dir S0=>rfl
   have HC:=ae H;clear C h4 h y HY c0 H D3
   go_wp2_with fail
   generalize w3.setCell ⟨nc,0,V⟩ (Z .i64 (id:Int))=w4 at *;refine o0.out.mono ?_;rintro e w5 hq;rcases hq with ⟨e0,z,rfl,K0,L0,N0,R0,d5,h⟩|⟨e0,rfl,d5,h⟩
   .have h6:=h.to (by unfold aP;ac_rfl:_=ez t m O*(vA x b v T k*(aP nc (id:Int)*(az pc p*(bd t fc*(dJ u g*F))))))
    have h7:ag w5 (mp m (lD O)*(pt t.f (gU t (.map (X m)))*(vA x b v T k*(aP nc (id:Int)*(az pc p*(bd t fc*(dJ u g*F))))))):=h6.to (by unfold ez;ac_rfl);have q0:=h7.TV (P:=W) underlying64 3;have r0:(lD O).length=O.length:=by unfold lD;exact L1 _
    rw [r0] at q0;have c1:w5.cell? ⟨t.f,1,V⟩=X (.map (X m)):=h7.ah.cell 1;have cf:w5.cell? ⟨fc,0,V⟩=X (ay t.f):=(h7.to (by unfold bd;ac_rfl:_=pt fc (Y #[ay t.f] 25 (0,0))*(mp m (lD O)*(pt t.f (gU t (.map (X m)))*(vA x b v T k*(aP nc (id:Int)*(az pc p*(dJ u g*F)))))))).cell 0;have H6:=ae h6;have D6:=ae (D5.out.trans d5);have H:gw T O p=if 16<=O.length then 9 else 0:=by rw [HC.out,if_pos e0]
    have b0:=ae H;obtain ⟨S,p0⟩:∃ S,O.length=S:=⟨_,rfl⟩
    rw [p0] at q0 b0;clear h h6 h7 o0 n1 K0 L0 N0 R0 d5 D5 HC H p0 r0 e0
    by_cases h0:16<=S
    .have D0:(16:Int)<=(S:Int):=by omega
     have F0:=ae fun w=>cT w 9 (by decide)
     go_wp2_with fail
     refine (F0.out _).mono ?_;rintro e w7 ⟨rfl,rfl⟩;exact ⟨rfl,d0.out 9 (by decide) (by rw [b0.out,if_pos h0]) _ _ D6.out (H6.out.to (by ac_rfl:_=dJ u g*(vA x b v T k*(az pc p*(aP nc (id:Int)*(bd t fc*(ez t m O*F))))))).right⟩
    .have D0:(S:Int)<16:=by omega
     have G0:=ae (k0.out _ _ ⟨D6.out,.inl ⟨by rw [b0.out,if_neg h0],rfl,(H6.out.to (by ac_rfl:_=dJ u g*(vA x b v T k*((az pc p*(aP nc (id:Int)*bd t fc))*(ez t m O*F))))).right⟩⟩);clear h0 b0
     go_wp2_with fail
     go_end0
     exact G0.out
   .exact ⟨rfl,d0.out 8 (by decide) (by rw [HC.out,if_neg e0]) _ _ (D5.out.trans d5) (h.to (by unfold aP;ac_rfl:_=dJ u g*(vA x b v T k*(az pc p*(aP nc (id:Int)*(bd t fc*(ez t m O*F))))))).right⟩
  .exact ⟨rfl,d0.out _ E (by rw [c0.out,if_pos E]) 0 _ D3.out (C.to (by ac_rfl:_=dJ u g*(vA x b v T k*(az pc p*(aP nc 0*(bd t fc*(ez t m O*F))))))).right⟩
end
end Go.Proofs.Cl
namespace Go.SL
open Go.RowKit
theorem Ma {u:Type} (M:List (Int × u)) (x:Int) (h:(aM M x).isSome=K):(del M x).length+1<=M.length:=by
 have i:∃ p ∈ M,(!(p.1 == x))=false:=by
  unfold aM at h;rw [O1,List.find?_isSome] at h;obtain ⟨p,g,e⟩:=h;exact ⟨p,g,by simpa using e⟩
 obtain ⟨p,g,e⟩:=i;unfold del
 have:(M.filter fun p => !(p.1 == x)).length<M.length:=by
  rw [List.length_filter_lt_length_iff_exists];exact ⟨p,g,by rw [e];decide⟩
 omega
theorem rR {e:Type}:∀ (m:Nat) (M:List (Int × e)),(∀ j:Nat,j<m->(aM M (j:Int)).isSome=K)->m<=M.length
 | 0,_,_=>Nat.zero_le _
 | m+1,M,h=>by
  have g:=Ma M (m:Int) (h m (by omega));have i:=rR m (del M (m:Int)) fun j u=>by rw [pX,if_neg (by omega)];exact h j (by omega)
  omega
end Go.SL
namespace Go.Proofs.Cl
open Go.RowKit Go.SL Go.Proofs.Nn Go.Proofs.Ba Go.Proofs.Su Go.Proofs.Fs
attribute [local go_sem] Oper.semAt_some
section
variable {t:Pl} {q:Dk t.n} {s s':Ds} {T:Tr} {k m:Nat} {O:kY} {w:U} {F:ai} {p:List UInt8}
def _root_.Go.SL.iE (O:List (Int × (Nat × Nat))) (fd:Int) (o:Nat × Nat):List (Int × (Nat × Nat)):=Go.SL.fA O fd o
theorem Fq (O:kY) (fd:Int) (o:Nat × Nat):Go.SL.fA (lD O) fd (Cs o)=lD (iE O fd o):=by
 unfold iE Go.SL.fA;rw [zT,O1];unfold lD
 split
 .rw [List.map_map,List.map_map]
  apply List.map_congr_left;intro p _;simp only [Function.comp]
  split <;> rfl
 .rw [List.map_append];rfl
def vV (t:Pl) (q:Dk t.n) (m:Nat) (s:Ds) (T:Tr) (k:Nat) (O:kY) (p:List UInt8) (F:ai) (w:U) (e:Ending) (w':U):Prop:=
 ∃ s',aj w w'/\s.Rd s'/\((gw T O p≠0/\e = Q (I #[Z .i64 0,Z .i64 (gw T O p)])/\ag w' (eG t s' m O*F)) \/
  (gw T O p=0/\∃ fd:Nat,(∀ j:Nat,j<fd->(aM O (j:Int)).isSome=K)/\aM O (fd:Int)=V/\e = Q (I #[Z .i64 (fd:Int),Z .i64 0])/\ag w' (eG t s' m (iE O fd ((cm T p).2,0))*F)))
def Td (t:Pl) (m:Nat) (O:kY) (e:ai) (w0:U) (u:N) (wr:U):Prop:=
 ∃ fd:Nat,u = Z .i64 (fd:Int)/\(∀ j:Nat,j<fd->(aM O (j:Int)).isSome=K)/\aj w0 wr/\ag wr (ez t m O*e)
theorem nO (hf:mQ t q s T k) (hB:s.B<=1000000) (hO:O.length<=1000) (h:ag w (eG t s m O*F)) :
  Calls W 11 #[ay t.f,L (str p)] w (vV t q m s T k O p F w):=by
 refine aH fun s0 E=>?_;have hA:=(((h.alloc (Y #[ay t.f] 25 (0,0))).alloc (Y #[L (str p)] 9 (0,0))).alloc (Y #[Z .i64 0] 3 (0,0)))
 simp only [M1] at hA;have dA:=ae ((((aj.refl w).alloc (Y #[ay t.f] 25 (0,0))).alloc (Y #[L (str p)] 9 (0,0))).alloc (Y #[Z .i64 0] 3 (0,0)))
 have hd:=ae fun (pc nc e:Nat) (w':U) (h':ag w' (eG t s m O*((az pc p*(aP nc 0*bd t e))*F)))=>
  kE hf hB 30 #[ay pc,ay nc,ay e] (az pc p*(aP nc 0*bd t e)) (gw T O p) (az pc p*(aP nc ((cm T p).2:Nat)*bd t e)) (az pc p*(JI nc*bd t e)) (enters func30 (by kernel_rfl) rfl)
   (fun x v b w1 o0 C=>LD (x:=x) (b:=b) (v:=v) (k:=k) (pc:=pc) (nc:=nc) (fc:=e) (F:=o0) (p:=p) hf.ty C) h'
 have HA:=ae hA;have k0:=ae (rR (M:=O));have HO:=ae hO;clear h hA hB hf hO;unfold vV at E;generalize gw T O p=c at *;generalize (cm T p).2=id at *
 go_enter func11,ntmps11
 go_wp2_with fail
 generalize ((w.alloc (Y #[ay t.f] 25 (0,0))).alloc (Y #[L (str p)] 9 (0,0))).alloc (Y #[Z .i64 0] 3 (0,0))=w1 at *;generalize w.heap.size=e at *;refine (hd.out (e+1) (e+1+1) e _ (HA.out.to (by unfold az aP bd;ac_rfl))).mono ?_;rintro i0 w2 ⟨s',rfl,d2,hr,i⟩;have D2:=ae (dA.out.trans d2);clear hd dA d2 HA
 by_cases hc:c=0
 .subst hc
  rw [if_pos rfl] at i;have g:ag w2 (ez t m O*(pV t s'*((az (e+1) p*(aP (e+1+1) (id:Nat)*bd t e))*F))):=i.to (by unfold eG ez;ac_rfl);generalize hZ:pV t s'*((az (e+1) p*(aP (e+1+1) (id:Nat)*bd t e))*F)=M at g;have HZ:=ae hZ.symm;have H3:=ae g
  have mS:∀ wr,ag wr (ez t m O*M)->wr.cell? ⟨e,0,V⟩=X (ay t.f)/\wr.cell? ⟨e+1+1,0,V⟩=X (Z .i64 (id:Int))/\wr.cell? ⟨t.f,1,V⟩=X (.map (X m)):=fun wr C=>by
   have r0:=C;rw [HZ.out] at C
   exact ⟨(C.to (by unfold bd;ac_rfl:_=pt e (Y #[ay t.f] 25 (0,0))*(ez t m O*(pV t s'*((az (e+1) p*aP (e+1+1) (id:Nat))*F))))).cell 0,
    (C.to (by unfold aP;ac_rfl:_=pt (e+1+1) (Y #[Z .i64 (id:Int)] 3 (0,0))*(ez t m O*(pV t s'*((az (e+1) p*bd t e)*F))))).cell 0,
    (r0.to (by unfold ez;ac_rfl:_=pt t.f (gU t (.map (X m)))*(mp m (lD O)*M))).cell 1⟩
  have HC:=ae mS;have h0:=ae fun (fd:Nat) (w':U) (d:aj w w') (ha:∀ j:Nat,j<fd->(aM O (j:Int)).isSome=K) (hn:aM O (fd:Int)=V) (hs:ag w' (eG t s' m (iE O (fd:Int) (id,0))*F))=>E.out _ _ ⟨s',d,hr,.inr ⟨rfl,fd,ha,hn,rfl,hs⟩⟩;clear i g hZ mS E
  go_wp2_with fail
  go_loopw [8] (fun f0 wr=>Td t m O M w f0 wr) (fun f0 _=>O.length+1-(intOf f0).toNat)
  case atStart=>exact ⟨0,rfl,fun j hj=>absurd hj (Nat.not_lt_zero _),D2.out,H3.out⟩
  case round=>
   obtain ⟨fd,rfl,d0,n0,b0⟩:=hrel;have l0:=k0.out fd d0;have p0:fd<=1000:=by have:=HO.out;omega
   obtain ⟨e1,e2,e3⟩:=HC.out wr b0;have u:=ae (lT (fd:=(fd:Int)) b0);have HS:=ae b0;have c0:=ae d0;have D:=ae n0;have g0:=ae l0;have u0:(fd:Int)<=1000:=by omega
   clear b0 d0 n0 l0 p0 e2 e3
   cases y:(aM O (fd:Int)).isSome with
   | true=>
    rw [y] at u;have H:=ae y;clear y
    go_wp2_with fail
    refine u.out.mono ?_;rintro i0 w3 ⟨rfl,G,g⟩;have D3:=ae (D.out.trans G);have H4:=ae g;clear u G g e1
    go_wp2_with fail
    go_roundw
    case rel=>exact ⟨fd+1,by go_num,fun j hj=>by
     rcases Nat.lt_succ_iff_lt_or_eq.1 hj with h|rfl
     .exact c0.out j h
     .exact H.out,D3.out,H4.out⟩
    case measure=>have:=g0.out;simp [intOf];omega
   | false=>
    rw [y] at u;have H:=ae y;clear y
    go_wp2_with fail
    refine u.out.mono ?_;rintro i0 w3 ⟨rfl,G,g⟩;obtain ⟨f1,f2,f3⟩:=HC.out w3 g;obtain ⟨w4,q0,h4,d4,S⟩:=ag.mapUpdate (P:=W) underlying64 underlying3 (w:=w3.drew) (g.drew.to (by unfold ez;ac_rfl:_=mp m (lD O)*(pt t.f (gU t (.map (X m)))*M))) (fd:Int) (Cs (id,0));rw [Fq] at h4
    have m0:aM O (fd:Int)=V:=by
     have:=H.out
     cases hk:aM O (fd:Int) with
     | none=>rfl
     | some o=>rw [hk] at this;cases this
    have e0:=ae (h0.out fd w4 ((D.out.trans G).drew.trans d4) c0.out m0 (by rw [HZ.out] at h4;exact (h4.to (by unfold eG;ac_rfl:_=(az (e+1) p*(aP (e+1+1) (id:Nat)*bd t e))*(eG t s' m (iE O (fd:Int) (id,0))*F))).right));have g3:w4.cell? ⟨t.f,1,V⟩=X (.map (X m)):=(S.1 _).trans f3;have g2:w4.cell? ⟨e+1+1,0,V⟩=X (Z .i64 (id:Int)):=(S.1 _).trans f2;have g1:w4.cell? ⟨e,0,V⟩=X (ay t.f):=(S.1 _).trans f1;clear u G g h4 d4 HS c0 D g0 H m0 e1 HC H3 D2 HO k0 h0 S;simp only [Cs,Int.ofNat_zero] at q0
    go_wp2_with fail
    go_region_held3 (fun w'=>w'.cell? ⟨e,0,V⟩=X (ay t.f)/\w'.cell? ⟨e+1+1,0,V⟩=X (Z .i64 (id:Int))/\w'.cell? ⟨t.f,1,V⟩=X (.map (X m))) (go_keep) (fail)
    go_wp2_with fail
    exact e0.out
 .have e0:=ae (E.out _ _ ⟨s',D2.out,hr,.inl ⟨hc,rfl,by rw [if_neg hc] at i;exact (i.to (by ac_rfl:_=(az (e+1) p*(JI (e+1+1)*bd t e))*(eG t s' m O*F))).right⟩⟩)
  clear i E hr
  go_wp2_with fail
  exact e0.out
end
section
variable {n:Nat} {x:Fx n} {b v oc qc pc tc id at' k:Nat} {T:Tr} {w:U} {F:ai} {o wh z:Int}
def oR (a:Nat) (p:Nat × Nat):ai:=pt a (Y #[Z .i64 (p.1:Int),Z .i64 (p.2:Int)] 78 (0,0))
end
section
variable {t:Pl} {q:Dk t.n} {s s':Ds} {T:Tr} {k m:Nat} {O:kY} {w:U} {F:ai} {fd o wh:Int}
theorem Rg {u:Nat × Nat} (e:aM O fd=X u) (h:ag w (ez t m O*F)):(Instr.lookup 64 (.map (X m)) (Z .i64 fd) K).run W w = .ok (I #[.agg #[Z .i64 (u.1:Int),Z .i64 (u.2:Int)],.bool K]) w:=by
 have:=xQ h fd;rw [e] at this;exact this
theorem zp (h:ag w (ez t m O*F)):w.cell? ⟨t.f,1,V⟩=X (.map (X m)):=(h.to (by unfold ez;ac_rfl:_=pt t.f (gU t (.map (X m)))*(mp m (lD O)*F))).cell 1
theorem Qd (h:ag w (ez t m O*F)) (fd:Int) (u:Nat × Nat):∃ w',(Instr.mapUpdate 64 (.map (X m)) (Z .i64 fd) (.agg #[Z .i64 (u.1:Int),Z .i64 (u.2:Int)])).run W w = .ok () w'/\ag w' (ez t m (iE O fd u)*F)/\aj w w'/\n7 w w':=by
 obtain ⟨y,i,h4,g,e⟩:=ag.mapUpdate (P:=W) underlying64 underlying3 (h.to (by unfold ez;ac_rfl:_=mp m (lD O)*(pt t.f (gU t (.map (X m)))*F))) fd (Cs u);rw [Fq] at h4;exact ⟨y,i,h4.to (by unfold ez;ac_rfl),g,e⟩
end
def fz (a:Nat) (v:N):ai:=pt a (Y #[v] 37 (0,0))
def DW (a:Nat) (l:List UInt8):ai:=ex fun u=>bs 5 u l*fz a u
theorem BQ {w:U} {a:Nat} {l:List UInt8} {F:ai}:ag w (DW a l*F)↔∃ u,ag w (bs 5 u l*(fz a u*F)):=by
 unfold DW;rw [ag.aw];exact exists_congr fun u=>by rw [ax]
end Go.Proofs.Cl
namespace Go.SL
theorem Tidy.file {n id:Nat} {T:Tr} {f f':AF} (h:Tidy n T) (y:T id=X (.file f)) (G:f'.kd=f.kd) (H:f'.lk=f.lk):Tidy n (dp T id (X (.file f'))):=by
 have M:=h.lt y
 have S:id≠1:=by
  rintro rfl;obtain ⟨C,E⟩:=h.root;rw [E] at y;cases y
 refine ⟨?_,fun i C u=>?_,fun i g u=>?_,fun i=>?_,fun i u=>?_⟩
 .obtain ⟨C,E⟩:=h.root
  exact ⟨C,by unfold dp;rw [if_neg (Ne.symm S)];exact E⟩
 .unfold dp at u
  split at u
  .cases u
  .exact h.pK _ _ u
 .unfold dp at u
  split at u
  .cases u;rw [G];exact h.files _ _ y
  .exact h.files _ _ u
 .have:=rp M (T:=T) (X (.file f')) i
  rw [y] at this;have e:refs n (dp T id (X (.file f'))) i=refs n T i:=by simpa [eX] using this
  rw [e,h.ref];unfold dp
  split
  .rename_i e;subst e;rw [y];exact H.symm
  .rfl
 .unfold dp
  rw [if_neg (by omega)];exact h.out _ u
def kg (k at':Nat) (f:AF) (l:List UInt8):Int:=
 if 4096<l.length then 1 else if 122880<at'+l.length then 9 else if l=[] then 0 else if k+bE f.pr<bE (f.wr at' l).pr then 7 else 0
def gQ (T:Tr) (k id at':Nat) (f:AF) (l:List UInt8) (c:Int) (e:Tr) (g:Nat):Prop:=
 c=kg k at' f l/\(c=0->(l=[]/\e=T/\g=k)\/(l≠[]/\e=dp T id (X (.file (f.wr at' l)))/\g=k+bE f.pr-bE (f.wr at' l).pr))
end Go.SL
namespace Go.Proofs.Cl
open Go.RowKit Go.SL Go.Proofs.Nn Go.Proofs.Ba Go.Proofs.Su Go.Proofs.Fs
attribute [local go_sem] Oper.semAt_some
section
variable {n:Nat} {x:Fx n} {b v nc pc id at' k:Nat} {T:Tr} {w:U} {F D:ai} {l:List UInt8} {va:Option Addr} {vc:Nat}
theorem Iv {f:AF} (ht:Tidy n T) (c0:kg k at' f l=0) (S:T id=X (.file f)) (C:at'<=122880) (g0:l.length<=1000000000) (E:l.length<=vc) (hD:∀ f0 P,ag f0 (D*P)->Rd f0 (R va l.length vc) l) (h:ag w (vA x b v T k*((fz nc (R va l.length vc)*oR pc (id,at'))*(D*F)))) :
  Calls W 40 #[ay v,ay nc,ay pc] w (RR x b v (gQ T k id at' f l) ((fz nc (R va l.length vc)*oR pc (id,at'))*(D*F)) w):=by
 refine aH fun l0 y=>?_;have e0:=ae fun (c:Int) (hc:c≠0) (he:c=kg k at' f l)=>y.out (.panicked (lG c)) w ⟨c,T,k,0,⟨he,fun h=>absurd h hc⟩,fun h=>absurd h hc,.inr ⟨hc,rfl⟩,aj.refl w,by decide,(ag.sV (x:=x) 0 (qt h |>.to (aF _ _ _))).to (by unfold vA;ac_rfl)⟩;have g:=h.to (by unfold vA oR fz;ac_rfl:_=dF x b (eY T) k*(D*(pt v (bG b n)*(pt nc (Y #[R va l.length vc] 37 (0,0))*(pt pc (Y #[Z .i64 (id:Int),Z .i64 (at':Int)] 78 (0,0))*F)))));have n0:w.cell? ⟨nc,0,V⟩=X (R va l.length vc):=g.aC.cell 0;have p0:w.cell? ⟨pc,0,V⟩=X (Z .i64 (id:Int)):=g.aK.cell 0;have p1:w.cell? ⟨pc,1,V⟩=X (Z .i64 (at':Int)):=g.aK.cell 1;have h0:=ae xi;have q0:=ae zN;have hC:kg k at' f l=if 4096<l.length then 1 else if 122880<at'+l.length then 9 else if l=[] then 0 else if k+bE f.pr<bE (f.wr at' l).pr then 7 else 0:=rfl
 have u:=ae hC;have M:=ae ht;have HA:=ae C;have HL:=ae g0;have o0:(l.length:Int)<=1000000000:=by omega
 have m0:(at':Int)<=122880:=by omega
 clear hC ht C g0
 by_cases r1:(l.length:Int)<=4096
 .by_cases r2:(at':Int)+(l.length:Int)<=122880
  .by_cases r3:(l.length:Int)=0
   .have i:l=[]:=List.length_eq_zero_iff.1 (by omega)
    have b0:=ae (y.out (Q (I #[])) w ⟨0,T,k,0,⟨by rw [u.out,if_neg (by omega),if_neg (by omega),if_pos i],fun _=>.inl ⟨i,rfl,rfl⟩⟩,fun _=>M.out,.inl ⟨rfl,rfl⟩,aj.refl w,by decide,(ag.sV (x:=x) 0 (qt h |>.to (aF _ _ _))).to (by unfold vA;ac_rfl)⟩);have i0:=ae E;clear e0 u h g M HA HL y S E i;generalize l.length=ln at *
    go_enter func40,ntmps40
    go_wp2_with fail
    refine (h0.out _).mono ?_;rintro e w2 ⟨rfl,rfl⟩
    go_wp2_with fail
    go_end0
    exact b0.out
   .have i:l≠[]:=fun e=>r3 (by rw [e];rfl)
    have H1:=ae g;have G:w.cell? ⟨v,0,V⟩=X (ay b)/\w.cell? ⟨v,1,V⟩=X (Z .i64 (n:Int))/\w.cell? ⟨pc,0,V⟩=X (Z .i64 (id:Int))/\w.cell? ⟨pc,1,V⟩=X (Z .i64 (at':Int))/\w.cell? ⟨nc,0,V⟩=X (R va l.length vc):=⟨g.au.cell 0,g.au.cell 1,p0,p1,n0⟩
    by_cases hk:k+bE f.pr<bE (f.wr at' l).pr
    .exact absurd ((by rw [u.out,if_neg (by omega),if_neg (by omega),if_neg i,if_pos hk]:kg k at' f l=7).symm.trans c0) (by decide)
    .have d0:=ae fun (w':U) (d:aj w w') (hs:ag w' (vA (x.more (l.length/480+5)) b v (dp T id (X (.file (f.wr at' l)))) (k+bE f.pr-bE (f.wr at' l).pr)*((fz nc (R va l.length vc)*oR pc (id,at'))*(D*F))))=>
      y.out (Q (I #[])) w' ⟨0,_,_,l.length/480+5,⟨by rw [u.out,if_neg (by omega),if_neg (by omega),if_neg i,if_neg hk],fun _=>.inr ⟨i,rfl,rfl⟩⟩,fun _=>M.out.file (f':=f.wr at' l) S rfl rfl,.inl ⟨rfl,rfl⟩,d,by omega,hs⟩
     have C:=ae fun w' h'=>y5 (x:=x) (b:=b) (k:=k) (w:=w') (F:=pt v (bG b n)*(pt nc (Y #[R va l.length vc] 37 (0,0))*(pt pc (Y #[Z .i64 (id:Int),Z .i64 (at':Int)] 78 (0,0))*F))) (lq S) at' hD E (by omega) (by omega) (by omega) h';have Hk:=ae fun w=>cO w;have K0:=ae G;have i0:=ae E;clear e0 u h g M HA HL y S E i hk G hD;generalize l.length=ln at *
     go_enter func40,ntmps40
     go_wp2_with fail
     refine (h0.out _).mono ?_;rintro e w2 ⟨rfl,rfl⟩
     go_wp2_with fail
     have G:=K0.out
     go_region_held3 (fun w'=>w'.cell? ⟨v,0,V⟩=X (ay b)/\w'.cell? ⟨v,1,V⟩=X (Z .i64 (n:Int))/\w'.cell? ⟨pc,0,V⟩=X (Z .i64 (id:Int))/\w'.cell? ⟨pc,1,V⟩=X (Z .i64 (at':Int))/\w'.cell? ⟨nc,0,V⟩=X (R va ln vc))
      (first|exact G|exact k1|go_keep)
      (first
       | (go_at_call 42;refine (C.out _ H1.out.drew).mono ?_;rintro e H ⟨rfl,d4,h4⟩;have k1:H.cell? ⟨v,0,V⟩=X (ay b)/\H.cell? ⟨v,1,V⟩=X (Z .i64 (n:Int))/\H.cell? ⟨pc,0,V⟩=X (Z .i64 (id:Int))/\H.cell? ⟨pc,1,V⟩=X (Z .i64 (at':Int))/\H.cell? ⟨nc,0,V⟩=X (R va ln vc):=⟨h4.au.cell 0,h4.au.cell 1,h4.aK.cell 0,h4.aK.cell 1,h4.aC.cell 0⟩)
       | (go_at_call 34;refine (Hk.out _).mono ?_;rintro e w5 ⟨rfl,rfl⟩))
     rename_i k0;clear k0 G k1 K0 C H1;rw [show dp (eY T) id (X (f.wr at' l))=eY (dp T id (X (.file (f.wr at' l)))) from sE T id (.file (f.wr at' l))] at h4;have b0:=ae (d0.out _ ((aj.refl w).drew.trans d4) (h4.to (by unfold vA oR fz;ac_rfl)));clear h4 d4 d0
     go_wp2_with fail
     go_end0
     exact b0.out
  .exact absurd ((by rw [u.out,if_neg (by omega),if_pos (by omega)]:kg k at' f l=9).symm.trans c0) (by decide)
 .exact absurd ((by rw [u.out,if_pos (by omega)]:kg k at' f l=1).symm.trans c0) (by decide)
end
section
variable {t:Pl} {q:Dk t.n} {s s':Ds} {T:Tr} {k m:Nat} {O:kY} {w:U} {F D:ai} {fd z:Int} {l:List UInt8} {va:Option Addr} {vc:Nat}
def gK (t:Pl) (q:Dk t.n) (m:Nat) (s:Ds) (O:kY) (fd:Int) (o:Nat × Nat) (i:Int->Tr->Nat->Prop) (F:ai) (w:U) (e:Ending) (w':U):Prop:=
 ∃ c g h s',i c g h/\e = Q (Z .i64 c)/\aj w w'/\((c≠0/\s.Rd s'/\ag w' (eG t s' m O*F))\/(c=0/\mQ t q s' g h/\s.Go t.n K s'/\ag w' (eG t s' m (iE O fd o)*F)))
theorem Gz {f:AF} {id at':Nat} (hf:mQ t q s T k) (hB:s.B<=1000000) (r0:kg k at' f l=0) (hy:aM O fd=X (id,at')) (hT:T id=X (.file f)) (ha:at'<=122880) (k0:l.length<=1000000000) (i0:l.length<=vc) (hD:∀ g0 P,ag g0 (D*P)->Rd g0 (R va l.length vc) l) (h:ag w (eG t s m O*(D*F))) :
  Calls W 13 #[ay t.f,Z .i64 fd,R va l.length vc] w (gK t q m s O fd (id,at'+l.length) (gQ T k id at' f l) (D*F) w):=by
 refine aH fun x0 u=>?_;have h1:ag w (ez t m O*(pV t s*(D*F))):=h.to (by unfold eG ez;ac_rfl);have hA:=h1.alloc (Y #[R va l.length vc] 37 (0,0));have dA:=(aj.refl w).alloc (Y #[R va l.length vc] 37 (0,0));generalize u0:w.alloc (Y #[R va l.length vc] 37 (0,0))=w1 at *;have b0:ag w1 (ez t m O*(fz w.heap.size (R va l.length vc)*(pV t s*(D*F)))):=hA.to (by unfold fz;ac_rfl);have hl:=Rg hy b0;have c1:=zp b0;have h0:=b0.alloc (Y #[Z .i64 (id:Int),Z .i64 (at':Int)] 78 (0,0));have dB:=ae (dA.alloc (Y #[Z .i64 (id:Int),Z .i64 (at':Int)] 78 (0,0)))
 have hd:=ae fun (nc pc:Nat) (w':U) (h':ag w' (eG t s m O*(((fz nc (R va l.length vc)*oR pc (id,at'))*D)*F)))=>
  ni hf hB 40 #[ay nc,ay pc] ((fz nc (R va l.length vc)*oR pc (id,at'))*D) (gQ T k id at' f l) (enters func40 (by kernel_rfl) rfl)
   (fun x v b w1 n0 G=>(Iv (x:=x) (b:=b) (v:=v) (k:=k) (nc:=nc) (pc:=pc) (F:=ez t m O*n0) hf.ty r0 hT ha k0 i0 hD (G.to (by ac_rfl))).mono fun o0 w' hq=>by simpa only [ax] using hq) h'
 have HB:=ae h0;have p0:gQ T k id at' f l 0 T k\/True:=.inr trivial
 have m0:∀ y H,gQ T k id at' f l 0 y H->l.length<=4096:=fun y H g=>by
  have:=g.1;unfold kg at this
  by_cases h4:4096<l.length
  .rw [if_pos h4] at this;cases this
  .omega
 have c0:=ae m0;have G0:(at':Int)<=122880:=by omega
 unfold gK at u;clear h h1 hA b0 dA h0 hf hB hy hT m0 ha k0 hD p0 i0;generalize gQ T k id at' f l=D0 at *
 go_enter func13,ntmps13
 go_wp2_with fail
 generalize w1.alloc (Y #[Z .i64 (id:Int),Z .i64 (at':Int)] 78 (0,0))=w2 at *;generalize w1.heap.size=pc at *;generalize w.heap.size=nc at *;refine (hd.out nc pc _ (HB.out.to (by unfold eG ez oR;ac_rfl))).mono ?_;rintro o0 w3 ⟨c,y,H,s',E,rfl,d3,g,C⟩;have M:=ae (dB.out.trans d3);clear hd dB d3 HB u0 hl c1
 by_cases hc:c=0
 .subst hc
  have l0:=c0.out _ _ E;have i:=g.elim (fun h=>absurd rfl h.1) (fun h=>h.2);have d0:=ae fun (w':U) (d:aj w w') (hs:ag w' (eG t s' m (iE O fd (id,at'+l.length))*(D*F)))=>u.out _ w' ⟨0,y,H,s',E,rfl,d,.inr ⟨rfl,i.1,i.2,hs⟩⟩;obtain ⟨z,hz⟩:∃ z,l.length=z:=⟨_,rfl⟩
  rw [hz] at C l0 d0 ⊢;have h4:=C.to (by unfold eG ez oR fz;ac_rfl:_=pt pc (Y #[Z .i64 (id:Int),Z .i64 (at':Int)] 78 (0,0))*(pt nc (Y #[R va z vc] 37 (0,0))*(ez t m O*(D*(pV t s'*F)))));have t0:w3.cell? ⟨nc,0,V⟩=X (R va z vc):=h4.ah.cell 0;have p1:w3.cell? ⟨pc,1,V⟩=X (Z .i64 (at':Int)):=h4.cell 1;have g1:=h4.frozen 1;have h5:=h4.setCell 1 (Z .i64 ((at'+z:Nat):Int));simp only [E1,K1,N1] at h5;have S:=ae (M.out.setCell ⟨pc,1,V⟩ (Z .i64 ((at'+z:Nat):Int)));have H5:=ae h5;have K0:(z:Int)<=4096:=by omega
  have f0:((at'+z:Nat):Int)=(at':Int)+(z:Int):=by omega
  rw [f0] at H5 S;have H0:0<=(z:Int):=by omega
  have F0:0<=(at':Int):=by omega
  clear C h4 h5 u M g i E c0 hz l0;generalize q0:at'+z=e at *
  go_wp2_with fail
  rw [<- f0] at H5 S ⊢;generalize w3.setCell ⟨pc,1,V⟩ (Z .i64 (e:Int))=w4 at *
  have mS:∀ (O:kY) (wr:U),ag wr (ez t m O*(pt pc (Y #[Z .i64 (id:Int),Z .i64 (e:Int)] 78 (0,0))*(pt nc (Y #[R va z vc] 37 (0,0))*(D*(pV t s'*F)))))->wr.cell? ⟨t.f,1,V⟩=X (.map (X m))/\wr.cell? ⟨pc,0,V⟩=X (Z .i64 (id:Int))/\wr.cell? ⟨pc,1,V⟩=X (Z .i64 (e:Int)):=fun O wr G=>
   ⟨zp G,G.ah.cell 0,G.ah.cell 1⟩
  have h6:=H5.out.to (by ac_rfl:_=ez t m O*(pt pc (Y #[Z .i64 (id:Int),Z .i64 (e:Int)] 78 (0,0))*(pt nc (Y #[R va z vc] 37 (0,0))*(D*(pV t s'*F)))));obtain ⟨e1,e2,e3⟩:=mS _ _ h6;obtain ⟨w5,s0,h7,d7,ce⟩:=Qd h6.drew fd (id,e);obtain ⟨f1,f2,f3⟩:=mS _ _ h7;have e0:=ae (d0.out w5 (S.out.drew.trans d7) ((h7.to (by unfold eG ez;ac_rfl:_=(pt pc (Y #[Z .i64 (id:Int),Z .i64 (e:Int)] 78 (0,0))*pt nc (Y #[R va z vc] 37 (0,0)))*(eG t s' m (iE O fd (id,e))*(D*F)))).right));dsimp only at s0;clear mS h6 h7 d7 ce S H5 d0 t0 p1 g1 f0 q0
  go_region_held3 (fun w'=>w'.cell? ⟨t.f,1,V⟩=X (.map (X m))/\w'.cell? ⟨pc,0,V⟩=X (Z .i64 (id:Int))/\w'.cell? ⟨pc,1,V⟩=X (Z .i64 (e:Int))) (go_keep) (fail)
  go_wp2_with fail
  exact e0.out
 .have i:=g.elim (fun h=>h.2) (fun h=>absurd h.1 hc)
  have e0:=ae (u.out _ _ ⟨c,y,H,s',E,rfl,M.out,.inl ⟨hc,i,(C.to (by ac_rfl:_=(fz nc (R va l.length vc)*oR pc (id,at'))*(eG t s' m O*(D*F)))).right⟩⟩);clear C u g i E M c0
  go_wp2_with fail
  exact e0.out
end
section
variable {n:Nat} {x:Fx n} {b v nc mc k:Nat} {T:Tr} {w:U} {F:ai}
theorem LY (h:ag w (vA x b v T k*(aP nc 0*(aP mc 0*F)))) :
  Calls W 47 #[ay v,ay nc,ay mc] w (JB 0 (vA x b v T k*(aP nc (n:Int)*(aP mc (k:Int)*F))) (vA x b v T k*(aP nc 0*(aP mc 0*F))) w):=by
 refine aH fun b0 C=>?_;have i:=h.to (by unfold vA;ac_rfl:_=dF x b (eY T) k*(pt v (bG b n)*(aP nc 0*(aP mc 0*F))));have v0:w.cell? ⟨v,0,V⟩=X (ay b):=i.ah.cell 0;have M:w.cell? ⟨v,1,V⟩=X (Z .i64 (n:Int)):=i.ah.cell 1;have H:=ae (Ru i);have hk:=ae cO;clear h i
 go_enter func47,ntmps47
 go_wp2_with fail
 refine H.out.mono ?_;rintro e u ⟨rfl,E,G⟩;have g:=G.to (by unfold aP;ac_rfl:_=pt nc (Y #[Z .i64 0] 3 (0,0))*(pt mc (Y #[Z .i64 0] 3 (0,0))*(pt v (bG b n)*(dF x b (eY T) k*F))));clear v0 M;have v0:u.cell? ⟨v,0,V⟩=X (ay b):=g.au.cell 0;have M:u.cell? ⟨v,1,V⟩=X (Z .i64 (n:Int)):=g.au.cell 1;have n0:u.cell? ⟨nc,0,V⟩=X (Z .i64 0):=g.cell 0;have m0:u.cell? ⟨mc,0,V⟩=X (Z .i64 0):=g.ah.cell 0;have g0:=g.frozen 0;have g1:=g.ah.frozen 0;have h4:=g.setCell 0 (Z .i64 (n:Int));have y:=(h4.ah.setCell 0 (Z .i64 (k:Int)))
 simp only [E1,K1] at y;have g2:=h4.ah.frozen 0;have m1:=h4.ah.cell 0;have S:=ae (C.out (Q (I #[])) _ ⟨(E.setCell ⟨nc,0,V⟩ (Z .i64 (n:Int))).setCell ⟨mc,0,V⟩ (Z .i64 (k:Int)),.inl ⟨rfl,rfl,y.to (by unfold vA aP;ac_rfl)⟩⟩);clear G g h4 y C H E
 go_wp2_with fail
 refine (hk.out _).mono ?_;rintro e w3 ⟨rfl,rfl⟩
 go_wp2_with fail
 go_end0
 exact S.out
end
section
variable {t:Pl} {q:Dk t.n} {s s':Ds} {T:Tr} {k m:Nat} {O:kY} {w:U} {F:ai}
theorem Ct (u:mQ t q s T k) (S:s.B<=1000000) (h:ag w (eG t s m O*F)) :
  Calls W 17 #[ay t.f] w
   (UO t q m false s T k O (I #[Z .i64 (t.n:Int),Z .i64 (k:Int),Z .i64 0]) F w):=by
 refine aH fun f0 G=>?_;have i:=(h.alloc (Y #[Z .i64 0] 3 (0,0))).alloc (Y #[Z .i64 0] 3 (0,0));simp only [M1] at i;have M:=ae (((aj.refl w).alloc (Y #[Z .i64 0] 3 (0,0))).alloc (Y #[Z .i64 0] 3 (0,0)))
 have hd:=ae fun (nc mc:Nat) (w':U) (h':ag w' (eG t s m O*((aP nc 0*aP mc 0)*F)))=>
  kE u S 47 #[ay nc,ay mc] (aP nc 0*aP mc 0) 0 (aP nc (t.n:Int)*aP mc (k:Int)) (aP nc 0*aP mc 0) (enters func47 (by kernel_rfl) rfl)
   (fun x v b w1 b0 hw=>(LY (x:=x) (b:=b) (v:=v) (k:=k) (nc:=nc) (mc:=mc) (F:=ez t m O*b0) (hw.to (by ac_rfl))).mono fun c0 w' hq=>by simpa only [ax] using hq) h'
 have E:=ae u;have C:=ae i;clear h i S u
 go_enter func17,ntmps17
 go_wp2_with fail
 generalize (w.alloc (Y #[Z .i64 0] 3 (0,0))).alloc (Y #[Z .i64 0] 3 (0,0))=w1 at *;generalize w.heap.size=nc at *;refine (hd.out nc (nc+1) _ (C.out.to (by unfold aP;ac_rfl))).mono ?_;rintro c0 w2 ⟨s',rfl,H,y,g⟩;rw [if_pos trivial] at g;have e:=g.to (by ac_rfl:_=aP nc (t.n:Int)*(aP (nc+1) (k:Int)*(eG t s' m O*F)));have n0:w2.cell? ⟨nc,0,V⟩=X (Z .i64 (t.n:Int)):=e.cell 0;have m0:w2.cell? ⟨nc+1,0,V⟩=X (Z .i64 (k:Int)):=e.ah.cell 0;have e0:=ae (G.out _ _ ⟨s',rfl,(M.out.trans H).drew,.inl y,E.out.rd y,e.right.right.drew⟩);clear hd M C H y g e G E
 go_wp2_with fail
 go_region_held3 (fun w'=>w'.cell? ⟨nc,0,V⟩=X (Z .i64 (t.n:Int))/\w'.cell? ⟨nc+1,0,V⟩=X (Z .i64 (k:Int))) (go_keep) (fail)
 rename_i d0;clear d0 n0 m0
 go_wp2_with fail
 exact bodyPost_ret (by kernel_rfl) rfl e0.out
end
end Go.Proofs.Cl
namespace Go.SL
def gV (T:Tr) (p:List UInt8) (a c:Int):Int:=if 0<=a/\0<=c/\c<=4096 then (if (cm T p).1≠0 then (cm T p).1 else match T (cm T p).2 with
 | some (.file _)=>0
 | _=>8) else 1
def nA (T:Tr) (p:List UInt8) (a c:Int):List UInt8:=match T (cm T p).2 with
 | some (.file f)=>f.sub a.toNat c.toNat
 | _=>[]
end Go.SL
namespace Go.Proofs.Cl
open Go.RowKit Go.SL Go.Proofs.Nn Go.Proofs.Ba Go.Proofs.Su Go.Proofs.Fs
attribute [local go_sem] Oper.semAt_some
section
variable {n:Nat} {x:Fx n} {b v pc ac nc rc k:Nat} {T:Tr} {w:U} {F:ai} {p:List UInt8} {a c:Int}
theorem Ms (ht:Tidy n T) (b0:gV T p a c=0) (i0:ag w (vA x b v T k*(az pc p*(aP ac a*(aP nc c*(fz rc (R V 0 0)*F)))))) :
  Calls W 54 #[ay v,ay pc,ay ac,ay nc,ay rc] w (JB (gV T p a c) (vA x b v T k*(az pc p*(aP ac a*(aP nc c*(DW rc (nA T p a c)*F))))) (vA x b v T k*(az pc p*(aP ac a*(aP nc c*(fz rc (R V 0 0)*F))))) w):=by
 refine aH fun u0 M=>?_;have cp:w.cell? ⟨pc,0,V⟩=X (L (str p)):=i0.ah.cell 0;have k0:=ae i0;have HT:=ae ht
 have r0:Hid (∀ e,e≠0->e=gV T p a c->∀ (w':U),aj w w'->ag w' (vA x b v T k*(az pc p*(aP ac a*(aP nc c*(fz rc (R V 0 0)*F)))))->u0 (.panicked (lG e)) w'):=fun e H he w' d y=>
  M.out _ _ ⟨d,.inr ⟨by rw [<- he];exact H,by rw [he],y⟩⟩
 have m0:=ae xi;have D0:=ae zN;clear i0
 cases y:aZ p with
 | none=>
  exact absurd ((by unfold gV;rw [qA y];split <;> rfl:(1:Int)=gV T p a c).trans b0) (by decide)
 | some h=>
  obtain ⟨F0,hl⟩:=cV y;have p0:=eM (T:=T) y;have hk:=ae (dz (w:=w) y);have i:=fun h0=>ht.walk h ht.root.choose_spec h0;have HL:=ae hl;have f0:=ae p0;have HY:=ae i;clear ht y hl F0 p0 i
  by_cases hr:0<=a/\0<=c/\c<=4096
  .have E:=ae (show gV T p a c=if (aN T 1 h).1≠0 then (aN T 1 h).1 else match T (aN T 1 h).2 with|some (.file _)=>0|_=>8 by unfold gV;rw [if_pos hr,f0.out])
   have S:=ae (show nA T p a c=match T (aN T 1 h).2 with|some (.file f)=>f.sub a.toNat c.toNat|_=>[] by unfold nA;rw [f0.out]);obtain ⟨r1,r2,r3⟩:=hr
   go_enter func54,ntmps54
   go_wp2_with fail
   refine hk.out.mono ?_;rintro e w2 ⟨e0,rfl,d2,h2⟩;have g:=(h2.under k0.out)
   have a0:w2.cell? ⟨ac,0,V⟩=X (Z .i64 a):=g.aC.cell 0;have n0:w2.cell? ⟨nc,0,V⟩=X (Z .i64 c):=g.aK.cell 0;have hw:=ae (eR HT.out HL.out fR g.ah);generalize aN T 1 h=pw at *;obtain ⟨wc,id⟩:=pw;dsimp only at hw HY E S;clear cp hk h2 g HL f0
   go_wp2_with fail
   refine (m0.out _).mono ?_;rintro e N0 ⟨rfl,rfl⟩;clear m0 D0
   go_wp2_with fail
   refine hw.out.mono ?_;rintro e w3 ⟨he,d3,g⟩;clear hw;have D3:=ae (d2.trans d3);clear d2 d3;rcases he with ⟨rfl,rfl⟩|⟨H,rfl⟩
   .obtain ⟨q0,i⟩:=HY.out rfl
    have l0:=ae (lz i g);clear g HY a0 n0
    go_wp2_with fail
    refine l0.out.mono ?_;rintro e w5 hq;rcases hq with ⟨c0,z,rfl,G0,H0,K0,L0,d5,u⟩|⟨c0,rfl,d5,u⟩
    .cases q0 with
     | dir s0=>exact absurd c0 (by show ¬ (2:Int)=1;decide)
     | file f=>
      rw [i] at E S;have d0:gV T p a c=0:=E.out;have o0:nA T p a c=f.sub a.toNat c.toNat:=S.out;rw [d0,o0] at M;obtain ⟨C,rfl⟩:∃ m:Nat,a=(m:Int):=⟨a.toNat,by omega⟩
      obtain ⟨mc,rfl⟩:∃ m:Nat,c=(m:Int):=⟨c.toNat,by omega⟩
      simp only [Int.toNat_natCast] at M;have hb:=ae (DB i C mc u);have G:=u.to (by ac_rfl:_=aP ac (C:Int)*(aP nc (mc:Int)*(vA x b v T k*(dJ e0 h*(az pc p*(fz rc (R V 0 0)*F))))));have a0:w5.cell? ⟨ac,0,V⟩=X (Z .i64 (C:Int)):=G.cell 0;have n0:w5.cell? ⟨nc,0,V⟩=X (Z .i64 (mc:Int)):=G.ah.cell 0;have D5:=ae (D3.out.trans d5);clear i E S d0 o0 r0 u G l0 G0 H0 K0 L0 d5 D3 c0 k0;generalize f.sub C mc=l at *
      go_wp2_with fail
      refine hb.out.mono ?_;rintro e w6 ⟨u2,rfl,d6,G⟩;have g:=G.to (by unfold fz;ac_rfl:_=pt rc (Y #[R V 0 0] 37 (0,0))*(bs 5 u2 l*(vA x b v T k*(az pc p*(aP ac (C:Int)*(aP nc (mc:Int)*(dJ e0 h*F)))))));have t0:w6.cell? ⟨rc,0,V⟩=X (R V 0 0):=g.cell 0;have g0:=g.frozen 0;have h4:=g.setCell 0 u2;simp only [E1,K1] at h4;obtain ⟨ua,uc,rfl⟩:=aD h4.ah;have u:ag (w6.setCell ⟨rc,0,V⟩ (R ua l.length uc)) (DW rc l*(vA x b v T k*(az pc p*(aP ac (C:Int)*(aP nc (mc:Int)*(dJ e0 h*F)))))):=BQ.2 ⟨_,h4.to (by unfold fz;ac_rfl)⟩;have x0:=ae (M.out _ _ ⟨(D5.out.trans d6).setCell ⟨rc,0,V⟩ (R ua l.length uc),.inl ⟨rfl,rfl,(u.to (by ac_rfl:_=dJ e0 h*(vA x b v T k*(az pc p*(aP ac (C:Int)*(aP nc (mc:Int)*(DW rc l*F))))))).right⟩⟩);clear g h4 u G M hb d6 D5
      go_wp2_with fail
      go_end0
      exact x0.out
    .have d0:(8:Int)=gV T p a c:=by
      rw [E.out,if_neg (by decide),i]
      cases q0 with
      | dir s0=>rfl
      | file f=>exact absurd (HT.out.files _ _ i) c0
     exact absurd (d0.trans b0) (by decide)
   .exact absurd ((by rw [E.out,if_pos H]:gV T p a c=_).symm.trans b0) H
  .have H:(1:Int)=gV T p a c:=by unfold gV;rw [if_neg hr]
   exact absurd (H.trans b0) (by decide)
end
section
variable {t:Pl} {q:Dk t.n} {s s':Ds} {T:Tr} {k m:Nat} {O:kY} {w:U} {F:ai} {p:List UInt8} {a c:Int}
def zx (t:Pl) (m:Nat) (s:Ds) (O:kY) (c:Int) (l:List UInt8) (F:ai) (w:U) (e:Ending) (w':U):Prop:=
 ∃ s',aj w w'/\s.Rd s'/\((c≠0/\e = Q (I #[R V 0 0,Z .i64 c])/\ag w' (eG t s' m O*F)) \/
  (c=0/\∃ u,e = Q (I #[u,Z .i64 0])/\ag w' (bs 5 u l*(eG t s' m O*F))))
theorem Kb (E:mQ t q s T k) (hB:s.B<=1000000) (c0:gV T p a c=0) (b0:ag w (eG t s m O*F)) :
  Calls W 21 #[ay t.f,L (str p),Z .i64 a,Z .i64 c] w (zx t m s O (gV T p a c) (nA T p a c) F w):=by
 refine aH fun f0 g=>?_;have y:=((((b0.alloc (Y #[L (str p)] 9 (0,0))).alloc (Y #[Z .i64 a] 3 (0,0))).alloc (Y #[Z .i64 c] 3 (0,0))).alloc (Y #[R V 0 0] 37 (0,0)))
 simp only [M1] at y;have dA:=ae (((((aj.refl w).alloc (Y #[L (str p)] 9 (0,0))).alloc (Y #[Z .i64 a] 3 (0,0))).alloc (Y #[Z .i64 c] 3 (0,0))).alloc (Y #[R V 0 0] 37 (0,0)))
 have hd:=ae fun (pc ac nc rc:Nat) (w':U) (h':ag w' (eG t s m O*((az pc p*(aP ac a*(aP nc c*fz rc (R V 0 0))))*F)))=>
  kE E hB 54 #[ay pc,ay ac,ay nc,ay rc] (az pc p*(aP ac a*(aP nc c*fz rc (R V 0 0)))) (gV T p a c) (az pc p*(aP ac a*(aP nc c*DW rc (nA T p a c)))) (az pc p*(aP ac a*(aP nc c*fz rc (R V 0 0)))) (enters func54 (by kernel_rfl) rfl)
   (fun x v b w1 d0 hw=>(Ms (x:=x) (b:=b) (v:=v) (k:=k) (pc:=pc) (ac:=ac) (nc:=nc) (rc:=rc) (F:=ez t m O*d0) (p:=p) E.ty c0 (hw.to (by ac_rfl))).mono fun e0 w' hq=>by simpa only [ax] using hq) h'
 have S:=ae y;clear c0;unfold zx at g;clear b0 y hB E;generalize gV T p a c=cc at *;generalize nA T p a c=l at *
 go_enter func21,ntmps21
 go_wp2_with fail
 generalize (((w.alloc (Y #[L (str p)] 9 (0,0))).alloc (Y #[Z .i64 a] 3 (0,0))).alloc (Y #[Z .i64 c] 3 (0,0))).alloc (Y #[R V 0 0] 37 (0,0))=w1 at *;generalize w.heap.size=pc at *;refine (hd.out pc (pc+1) (pc+1+1) (pc+1+1+1) _ (S.out.to (by unfold az aP fz;ac_rfl))).mono ?_;rintro e0 w2 ⟨s',rfl,d2,u,e⟩;have h:=ae (dA.out.trans d2);clear hd dA S d2
 by_cases C:cc=0
 .subst C
  rw [if_pos rfl] at e;obtain ⟨g0,i⟩:=(BQ (a:=pc+1+1+1)).1 (e.to (by ac_rfl:_=DW (pc+1+1+1) l*(eG t s' m O*(az pc p*(aP (pc+1) a*(aP (pc+1+1) c*F))))));obtain ⟨H,M,rfl⟩:=aD i;have t0:w2.cell? ⟨pc+1+1+1,0,V⟩=X (R H l.length M):=i.ah.cell 0;have G:=ae (g.out _ _ ⟨s',h.out,u,.inr ⟨rfl,_,rfl,(i.to (by ac_rfl:_=(fz (pc+1+1+1) (R H l.length M)*(az pc p*(aP (pc+1) a*aP (pc+1+1) c)))*(bs 5 (R H l.length M) l*(eG t s' m O*F)))).right⟩⟩);clear e i g u h
  go_wp2_with fail
  exact G.out
 .rw [if_neg C] at e
  have G:=ae (g.out _ _ ⟨s',h.out,u,.inl ⟨C,rfl,(e.to (by ac_rfl:_=(az pc p*(aP (pc+1) a*(aP (pc+1+1) c*fz (pc+1+1+1) (R V 0 0))))*(eG t s' m O*F))).right⟩⟩);clear e g u h
  go_wp2_with fail
  exact G.out
end
end Go.Proofs.Cl

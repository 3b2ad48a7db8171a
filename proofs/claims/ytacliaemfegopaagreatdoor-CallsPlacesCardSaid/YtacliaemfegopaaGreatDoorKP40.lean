/- Steps. -/
import Derived.Test.YtacliaemfegopaaGreatDoorKP39
import Derived.Test.YtacliaemfegopaaGreatDoorKP30
set_option linter.all false
set_option maxRecDepth 99999
set_option maxHeartbeats 0
open Go.SL
open Go.Value renaming int->Y,slice->R,string->I,tuple->G
open Go.Obj renaming cells->X
open Go.Ending renaming returned->L
open Go renaming World->N,Value->K
open Go.Proofs.Tryz renaming prog->U
open Option renaming some->V,none->W
open Bool renaming true->E
open Go.Proofs.Tryz
open List renaming setIfInBounds_toArray->A1,set_cons_zero->E1,length_map->M1,set_cons_succ->N1,getElem?_eq_getElem->S1
open Go.World renaming size_alloc->K1
open Prod renaming fst->L1
open Option renaming isSome_map->O1
open Int renaming toNat_natCast->R1
namespace Go.Proofs.Cl
open Go.RowKit Go.SL Go.Proofs.Nn Go.Proofs.Ba Go.Proofs.Su Go.Proofs.Fs
theorem yi (s j k : Nat) (w : N) (h : w.cell? ⟨s, 0, W⟩ = V (ay j)) : (method (k + 1) 61 (ay s) "Read").run U w = .ok (314, ay j) w := by
 have e : (method (k + 1) 61 (ay s) "Read").run U w = (do let v <- loadVar 123 ⟨s, 0, W⟩; pure (314, v) : Sem (FuncId × K)).run U w := by kernel_rfl
 rw [e];simp [go_sem,h]
theorem Bw (e:Array K) (w:N):(callFunc 314 e).run U w = .ok (.enter 314 e) w:=by kernel_rfl
structure Pl where
 f:Nat
 s:Nat
 j:Nat
 d:Nat
 n:Nat
 P:Nat
def xG (t:Pl) (Sd:Hp):Cx (Jr × az):=⟨61,ay t.s,314,ay t.j,fun w=>w.cell? ⟨t.s,0,W⟩=V (ay t.j),Od,L7 t.s t.j t.d t.n t.P Sd⟩
section
variable {w w':N} {s j d n P:Nat} {Sd:Hp} {x:Jr × az} {F:ai}
theorem mh (h:ag w (L7 s j d n P Sd x*F)):(x.1.Ok/\x.2.Ok)/\ag w (et s j d n P x.1*(aL Sd d x.2*(ak Sd*F))):=by
 obtain ⟨e,g⟩:=ag.au.1 (h.to (ax _ _ _));exact ⟨e,g.to (by ac_rfl)⟩
theorem yO (e:x.1.Ok) (g:x.2.Ok) (h:ag w (et s j d n P x.1*(aL Sd d x.2*(ak Sd*F)))):ag w (L7 s j d n P Sd x*F):=
 (ag.au.2 ⟨⟨e,g⟩,h.to (by ac_rfl:_=(et s j d n P x.1*(aL Sd d x.2*ak Sd))*F)⟩:ag w (fact _*_)).to (ax _ _ _).symm
theorem qg {J:Jr} (h:ag w (et s j d n P J*F)):w.cell? ⟨s,0,W⟩=V (ay j):=by
 have e:ag w (pt s (X #[ay j,Y .i64 (n:Int),Y .i64 (P:Int)] 125 (0,0))*(nY j d J*F)):=h.to (by unfold et;ac_rfl);exact e.cell 0
end
theorem Ib (t:Pl) (Sd:Hp):(xG t Sd).Ok:=by
 refine ⟨fun x F w h=>?_,fun k w h=>yi t.s t.j k w h,fun y w=>Bw y w,fun x id F w h=>?_,fun x id _=>?_⟩
 .exact qg (mh (F:=F) h).2
 .obtain ⟨J,D⟩:=x
  obtain ⟨⟨g,i⟩,H⟩:=mh (F:=F) h;have g:=g;have i:=i;have:=F5 w Sd t.j t.d J D id (pt t.s (X #[ay t.j,Y .i64 (t.n:Int),Y .i64 (t.P:Int)] 125 (0,0))*F) (H.to (by unfold et;ac_rfl)) g i;refine this.mono ?_;rintro e w' ⟨u,rfl,h4,C⟩;obtain ⟨Q,S⟩:=JH g i id;refine ⟨u,rfl,?_,C⟩;have M:ag w' (et t.s t.j t.d t.n t.P (J.read D id).2.1*(aL Sd t.d (J.read D id).2.2*(ak Sd*(oa 5 (J.read D id).1 u*F)))):=h4.to (by unfold et;ac_rfl);exact (yO (x:=((J.read D id).2.1,(J.read D id).2.2)) Q S M).to (by ac_rfl:_=oa 5 (J.read D id).1 u*(L7 t.s t.j t.d t.n t.P Sd ((J.read D id).2.1,(J.read D id).2.2)*F))
 .show (Jr.read x.1 x.2 id).1.2.length<=1000000
  have:=oZ x.1 x.2 id;omega
abbrev uX:Hp:=fun _=>W
def gO (t:Pl) (e:K):Obj:=X #[ay t.s,e] 66 (0,0)
theorem vh {P:Program} {w:N} {t h e:TypeId} (g:P.underlying t=V (.map h e)) (ty:TypeId) :
  (Builtin.len_ #[t] ty #[.map W]).run P w = .ok (Y .i64 0) w:=by
 simp [Builtin.len_,run_underlying g,goInt]
theorem rL {w:N} {S:Hp} {b:Nat} {rd:K} {i:Int} {g D:CB} {F:ai} (h:ag w (aA 176 5 S b rd i g D*(ak S*F))):(g.map L1).Nodup:=by
 obtain ⟨x,u⟩:=h.dO;obtain ⟨Z,C,y,_⟩:=(u.to (by ac_rfl:_=aK 5 S x.wv x.ws g*(ak S*(pt b (X (x.cells rd i) 176 (0,0))*(aK 5 S x.tv x.ts D*(eX x.av*F)))))).kJ;have e:(g.map L1).Perm (Z.map L1):=by grind
 exact e.nodup_iff.2 y
theorem MF (w:N) (S:Hp) (b:Nat) (rd:K) (u:Int) (g D:CB) (F:ai)
  (h:ag w (aA 176 5 S b rd u g D*(ak S*F))) :
  Calls U 73 #[.pointer (V ⟨b,0,W⟩)] w fun e w'=>e = L (Y .i64 g.length)/\w=w':=by
 obtain ⟨x,C⟩:=h.dO;have b0:w.cell? ⟨b,2,W⟩=V x.wv:=C.cell 2
 have c0:(Builtin.len_ #[172] 3 #[x.wv]).run U w = .ok (Y .i64 g.length) w:=by
  obtain ⟨Z,z1,z2,z3,Q,_⟩:=(C.to (by ac_rfl:_=aK 5 S x.wv x.ws g*(ak S*(pt b (X (x.cells rd u) 176 (0,0))*(aK 5 S x.tv x.ts D*(eX x.av*F)))))).kJ;have y:g.length=Z.length:=by have:=z1.length_eq;simpa using this.symm
  rcases Q with ⟨i,hz⟩|⟨m,o,i,H,M⟩
  .have:Z=[]:=by simpa using hz
   rw [y,i,this,vh underlying172];rfl
  .rw [y,i,AD H M underlying172];simp
 go_enter func73,ntmps73
 go_wp2
 go_ret
 exact ⟨rfl,rfl⟩
theorem zN {P:Program} {i:Func} {C:Ending->N->Prop} {t M:Array K} (he:∀ w,(results i t).run P w=(results i M).run P w):∀ (g:List Deferred) (u:FrameMode) (w:N),Leaves P i t C g u w->Leaves P i M C g u w:=by
 intro g
 induction g with
 | nil=>
  intro u w h
  cases u with
  | run=>exact h
  | returning=>
   obtain ⟨v,hr,hR⟩:=h;exact ⟨v,(he w).symm.trans hr,hR⟩
  | panicking c=>exact h
 | cons d g H=>
  intro u w h;obtain ⟨d0,Z,S,f,Q,e0,c0,b0⟩:=h;refine ⟨d0,Z,S,f,Q,e0,c0,b0.mono fun e u' w' y=>?_⟩
  cases e with
  | returned v=>exact H _ _ y
  | panicked c=>exact H _ _ y
  | outgrown=>exact y
theorem LI {e:Ending->N->Prop} {c:List PanicEntry} {a:Act} {w:N} {k:Nat} {v:K} (g:k≠4) (h:bodyPostD U Tryz.f29 e (.panic c) (a.put (V k) v) w):bodyPostD U Tryz.f29 e (.panic c) a w:=by
 refine zN (fun w=>?_) _ _ _ h;simp [results,Tryz.results29,Act.put,Array.getElem?_setIfInBounds,g]
theorem CD {e:Array Oper} {C:Region.Mode} {S:N->Prop} {u:Exit->Act->N->Prop} (i:Nat) {g:Oper} {v:K} {H:Nat} {y:Array Bool} {a:Act} {w:N} {q:Prop} (h:q)
  (hi:e[i]?=V g:=by rfl) (hs:Region.noSelect e=E:=by kernel_rfl) (hf:Region.free C e y i=E:=by kernel_rfl) (hr:(Region.ready C e y).contains i=E:=by kernel_rfl)
  (M:∀ c a w,u (.panic c) (a.put g.dst v) w->u (.panic c) a w:=by exact fun _ _ _ h=>LI (by decide) h) (hw:Region.wanted g (yielded e a.tmps)=E:=by kernel_rfl)
  (hv:∀ w,S w->(execOp a.eval g).run U w = .ok (.value v) w:=by intro w Z;(try dsimp only at Z);go_simp;try with_reducible rfl) (Q:S w:=by assumption)
  (hk:q->wpAnyH U C e u S H (y.setIfInBounds i E) (a.put g.dst v) w:=by intro hx;(try simp only [Go.SL.tz,Go.Act.put]);exact hx):wpAnyH U C e u S (H+1) y a w:=
 wpAnyH_take hi hs hf hr M (.inl ⟨hw,hv⟩) Q (hk h)
theorem EY {n:Int} {Z:List Wr} (h:Batch n (bU Z)):Ej n Z:=by
 have C:(bU Z).length=Z.length:=by unfold bU;rw [M1]
 refine ⟨by rw [<- C];exact h.n0,by rw [<- C];exact h.n1,fun k u=>?_⟩;have y:k<(bU Z).length:=by omega
 have H:=List.getElem_mem y;have e:(Z.getD k Wr.nil).1=(bU Z)[k].1:=by rw [List.getD,S1 u];simp [bU]
 have S:(Z.getD k Wr.nil).2.2=(bU Z)[k].2:=by rw [List.getD,S1 u];simp [bU]
 have g:=h.id _ H;refine ⟨by rw [e];exact g.1,by rw [e];exact g.2,by rw [S];exact h.Og _ H,?_⟩;rw [e];intro hx;obtain ⟨z,Q,b0⟩:=List.mem_map.1 hx;rw [List.mem_take_iff_getElem] at Q;obtain ⟨i,hi,rfl⟩:=Q;have e3:(Z[i]'(by omega)).1=((bU Z)[i]'(by omega)).1:=by simp [bU]
 have M:=h.nd;rw [List.Nodup,List.pairwise_iff_getElem] at M;have:=M i k (by rw [M1];omega) (by rw [M1];exact y) (by omega);apply this;rw [List.getElem_map,List.getElem_map,<- b0,e3]
def Rm (t:Pl) (J:Jr) (D:az) (H:ai) (w:N) (e:Ending) (w':N):Prop:=
 ∃ S,e = L (Y .i64 0)/\aj w w'/\ag w' (et t.s t.j t.d t.n t.P J*(aL S t.d D*(ak S*H)))
theorem yA (t:Pl) (w:N) (S e:Hp) (v:K) (g:CB) (J i:Jr) (D h:az) (has:Has) (H:ai) (y:fq J D has) (Q:Batch J.n g) (d0:eB J D E g=(0,i,h))
  (c0:ag w (gm 188 5 e v g*(et t.s t.j t.d t.n t.P J*(aL S t.d D*(ak S*(ak e*H)))))) :
  Calls U 74 #[ay t.j,v] w (Rm t i h H w):=by
 obtain ⟨Z,C,hV,h1⟩:=c0.lz;have M:Z.length=g.length:=by rw [<- C,M1]
 obtain ⟨h2,e1,e2⟩:=ag.zD (h1.to (by ac_rfl:_=ak S*(ak e*(aL S t.d D*(et t.s t.j t.d t.n t.P J*(sl 188 2 v g.length (oP Z)*H))))));have h3:=(h2.to (by ac_rfl:_=aL S t.d D*(ak (join S e)*(et t.s t.j t.d t.n t.P J*(sl 188 2 v g.length (oP Z)*H))))).fp (vU e1)
 have h4:ag w (nY t.j t.d J*(aL (join S e) t.d D*(ak (join S e)*(sl 188 2 v Z.length (bE Z)*(pt t.s (X #[ay t.j,Y .i64 (t.n:Int),Y .i64 (t.P:Int)] 125 (0,0))*H))))):=by
  rw [M];exact h3.to (by unfold et;show _*(_*(_*(sl _ 2 v _ (oP Z)*H)))=_*(_*(_*(sl _ 2 v _ (oP Z)*_)));ac_rfl)
 have hp:bU Z=g:=C
 have hr:Reads (join S e) v Z (sl 188 2 v Z.length (bE Z)*(pt t.s (X #[ay t.j,Y .i64 (t.n:Int),Y .i64 (t.P:Int)] 125 (0,0))*H)):=by
  intro S' b0 w' hE hs;refine ⟨vY (hs.to (by ac_rfl:_=sl 188 2 v Z.length (bE Z)*(b0*(ak S'*(pt t.s (X #[ay t.j,Y .i64 (t.n:Int),Y .i64 (t.P:Int)] 125 (0,0))*H))))),fun z hz=>?_⟩;exact ((hV z hz).mono (e2.trans hE)).rd hs.ah
 have:=y0 w (join S e) t.j t.d J D _ v Z h4 y.ok y.nums y.Gi (by rw [M];have:=Q.n1;omega) hr E ⟨fun _=>EY (by rw [hp];exact Q),fun _=>rfl⟩;rw [hp,d0] at this;refine this.mono ?_;rintro e0 w' ⟨u,-,rfl,h5,d5⟩;refine ⟨u,rfl,d5,?_⟩;exact (h5.to (by unfold et;ac_rfl:_=sl 188 2 v Z.length (bE Z)*(et t.s t.j t.d t.n t.P i*(aL u t.d h*(ak u*H))))).right
def P5 (n P:Nat) (w:N) (e:Ending) (w':N):Prop:=e = L (.agg #[Y .i64 (n:Int),Y .i64 (P:Int)])/\ag w' (whole w)/\aj w w'
def RM (t:Pl) (S:Hp) (u:K) (v b:Nat) (i:Int->ia (Jr × az)->ai->Prop) (H:ai) (y:N) (e:Ending) (w':N):Prop:=
 ∃ c h M g,i c M g/\((c=0/\e = L (G #[]))\/(c≠0/\e = .panicked (me c)))/\aj y w' /\
  ag w' (pt t.f (gO t u)*(pt v (cl b t.n)*(cG (xG t S) h b M*(ak h*(g*H)))))
def PG (t:Pl) (S:Hp) (g:K) (J:Jr) (D:az) (y:FuncId) (u:Array K) (h:ai) (i:Int->ia (Jr × az)->ai->Prop):Prop:=
 ∀ (v b:Nat) (e:N) (H:ai),ag e (pt t.f (gO t g)*(pt v (cl b t.n)*(cG (xG t S) uX b ⟨0,[],[],(J,D)⟩*(ak uX*(h*H)))))->Calls U y (#[ay v]++u) e (RM t S g v b i H e)
def Sm (t:Pl) (i:Int->ia (Jr × az)->ai->Prop):Prop:=
 ∀ c M g,i c M g->c=0->(M.W.map L1).Nodup->M.W≠[]->∃ has h e,fq M.s.1 M.s.2 has/\M.s.1.n=(t.n:Int)/\Batch (t.n:Int) (gL M.W)/\eB M.s.1 M.s.2 E (gL M.W)=(0,h,e)
def Sq (t:Pl) (C:K) (y:Int->ia (Jr × az)->ai->Prop) (F:ai) (w:N) (e:Ending) (w':N):Prop:=
 ∃ c M i u h g,y c M i/\(M.W.map L1).Nodup/\e = L (Y .i64 c)/\aj w w' /\
  ag w' (pt t.f (gO t C)*(et t.s t.j t.d t.n t.P h*(aL u t.d g*(ak u*(i*F))))) /\
  (c=0->M.W≠[]->eB M.s.1 M.s.2 E (gL M.W)=(0,h,g))/\((c≠0\/M.W=[])->M.s=(h,g))
theorem Cs (t:Pl) (w:N) (S:Hp) (J:Jr) (D:az) (g:K) (jf:FuncId) (H0:Array K) (g0 F:ai) (Pj:Int->ia (Jr × az)->ai->Prop) (hJ:J.Ok) (hD:D.Ok)
  (jN:∀ (G0:Array K) (w:N),(callFunc jf G0).run U w = .ok (.enter jf G0) w) (hj:PG t S g J D jf H0 g0 Pj) (hm:Sm t Pj)
  (h:ag w (pt t.f (gO t g)*(et t.s t.j t.d t.n t.P J*(aL S t.d D*(ak S*(g0*F)))))) :
  Calls U 29 #[ay t.f,.func (.func jf) #[] H0] w (Sq t g Pj F w):=by
 refine aJ fun j1 HQ=>?_;have Hj:=ae hj;have Hm:=ae hm;have HJ:=ae hJ;have HD:=ae hD;have cf:w.cell? ⟨t.f,0,W⟩=V (ay t.s):=h.cell 0;have f1:t.f<w.heap.size:=h.lt;clear hj hm hJ hD
 go_enter_defers func29,ntmps29
 have H1:=h.alloc (X #[Y .i64 0] 28 (0,0));have D1:=(aj.refl w).alloc (X #[Y .i64 0] 28 (0,0))
 go_wp2_with fail
 generalize w.alloc (X #[Y .i64 0] 28 (0,0))=w3 at *;generalize w.heap.size=u at *;obtain ⟨o0,i0⟩:∃ b0,b0=pt u (X #[Y .i64 0] 28 (0,0))*(pt t.f (gO t g)*(et t.s t.j t.d t.n t.P J*(aL S t.d D*(ak S*(g0*F))))):=⟨_,rfl⟩
 have hF:∀ w' b0,ag w' (b0*o0)->w'.cell? ⟨t.f,0,W⟩=V (ay t.s):=fun w' b0 hx=>by
  rw [i0] at hx;exact hx.aq.cell 0
 have hG:∀ w' b0,ag w' (b0*o0)->Calls U 72 #[ay t.s] w' (P5 t.n t.P w'):=fun w' b0 hx=>by
  rw [i0] at hx;exact II w' t.s t.j t.d t.n t.P J _ (hx.to (by ac_rfl:_=et t.s t.j t.d t.n t.P J*(b0*(pt u (X #[Y .i64 0] 28 (0,0))*(pt t.f (gO t g)*(aL S t.d D*(ak S*(g0*F))))))))
 rw [<- i0] at H1;have c0:=hF w3 emp (H1.to (cV _).symm);have HF:=ae hF;have HG:=ae hG;have m1:∀ w,(Instr.field 119 (.agg #[Y .i64 (t.n:Int),Y .i64 (t.P:Int)]) 0).run U w = .ok (Y .i64 (t.n:Int)) w:=fun w=>by kernel_rfl
 have H3:=ae H1;have D3:=ae D1;have HB:=ae i0;clear H1 D1 hF hG i0 cf h f1
 go_cut [5] from 17 to 33 (fun u5 wx=>∃ v b,u5=ay v/\ag wx (pt v (cl b t.n)*(aA 176 5 uX b (.iface 61 (ay t.s)) 0 [] []*o0))/\aj w wx)
 case first=>
  refine wp_region_held_drew (S:=(fun w'=>w'.cell? ⟨t.f,0,W⟩=V (ay t.s))) (by kernel_rfl) ?_ (fun l0=>?_)
  .first|exact c0|exact c1|exact c2|exact bH _ _ _ _ c1|exact bH _ _ _ _ c2
  refine CD 0 ?_;refine CD 1 ?_;refine CD 2 ?_;refine CD 3 ?_;refine CD 4 ?_;refine CD 5 ?_;refine CD 7 ?_;refine CD 8 ?_;refine CD 9 ?_;refine CD 10 ?_;refine CD 11 ?_;refine wpAnyH_ready (rs:=[6]) (by kernel_rfl) (by simp) ?_;refine AllReadyH.cons rfl (fun h0 hK=>?_) AllReadyH.nil
  go_simp
  go_wp2_with (go_at_call 71;go_loud ((with_reducible refine (Ba.xi _ 61 (ay t.s)).mono ?_);rintro d0 Z ⟨b,rfl,h4,d4⟩;have hn:=(h4 uX).under H3.out.drew;have c1:Z.cell? ⟨t.f,0,W⟩=V (ay t.s):=HF.out Z _ hn))
  refine hK.out _ _ ?_ (fun l0=>?_)
  .first|exact c0|exact c1|exact c2|exact bH _ _ _ _ c1|exact bH _ _ _ _ c2
  clear hK h0;refine wpAnyH_ready (rs:=[12]) (by kernel_rfl) (by simp) ?_;refine AllReadyH.cons rfl (fun h0 hK=>?_) AllReadyH.nil
  go_simp
  go_wp2_with (go_at_call 72;go_loud ((with_reducible refine (HG.out Z _ hn).mono ?_);rintro d0 w5 ⟨rfl,h5,d5⟩;have hg:=((h5.to (cV _).symm).under hn).right;have c2:w5.cell? ⟨t.f,0,W⟩=V (ay t.s):=HF.out w5 _ hg))
  refine hK.out _ _ ?_ (fun l0=>?_)
  .first|exact c0|exact c1|exact c2|exact bH _ _ _ _ c1|exact bH _ _ _ _ c2
  clear hK h0;refine CD 13 ?_;refine CD 14 ?_;refine CD 15 ?_;refine wpAnyH_ready (rs:=[16]) (by kernel_rfl) (by simp) ?_;refine AllReadyH.cons rfl (fun h0 hK=>?_) AllReadyH.nil
  go_simp
  refine hK.out _ _ ?_ (fun l0=>?_)
  .first|exact c0|exact c1|exact c2|exact bH _ _ _ _ c1|exact bH _ _ _ _ c2
  clear hK h0;refine CD 17 ?_;refine wpAnyH_done (by kernel_rfl) ?_ _
  go_wp2_with fail
  go_meet
  exact ⟨_,b,rfl,(hg.alloc (cl b t.n)).to (by ac_rfl),((D3.out.drew.trans d4).trans d5).alloc _⟩
 case rest=>
  clear c0 HF HG H3 D3;obtain ⟨v,b,rfl,S0,g1⟩:=hcut;rw [HB.out] at S0
  have b1:ag wc (pt t.f (gO t g)*(pt v (cl b t.n)*(cG (xG t S) uX b ⟨0,[],[],(J,D)⟩*(ak uX*(g0*(pt u (X #[Y .i64 0] 28 (0,0))*F)))))):=by
   have h6:ag wc (fact (J.Ok/\D.Ok)*_):=ag.au.2 ⟨⟨HJ.out,HD.out⟩,ag.xY S0⟩;have d0:cG (xG t S) uX b ⟨0,[],[],(J,D)⟩=aA 176 5 uX b (.iface 61 (ay t.s)) 0 [] []*(fact (J.Ok/\D.Ok)*(et t.s t.j t.d t.n t.P J*(aL S t.d D*ak S))):=rfl;rw [d0];exact h6.to (by show fact _*(ak uX*_)=_;ac_rfl)
  have L0:=ae (Hj.out v b wc _ b1);have F0:=ae g1
  go_wp2_with fail
  refine L0.out.mono ?_;clear L0;rintro d0 Z ⟨c,i,q0,Q,hP,he,d4,h4⟩;have HP:=ae hP;have D4:=ae (F0.out.trans d4);clear hP d4 F0;rcases he with ⟨rfl,rfl⟩|⟨hc,rfl⟩
  .obtain ⟨H,e,y,C,M⟩:=q0
   have e0:ag Z (aA 176 5 i b (.iface 61 (ay t.s)) H e y*(ak i*(L7 t.s t.j t.d t.n t.P S (C,M)*(pt t.f (gO t g)*(pt v (cl b t.n)*(Q*(pt u (X #[Y .i64 0] 28 (0,0))*F))))))):=h4.to (by unfold cG xG Cx.rd;ac_rfl);have n0:=rL e0;have m0:=ae (MF Z i b _ H e y _ e0);have c1:Z.cell? ⟨v,0,W⟩=V (ay b):=h4.ah.cell 0;obtain ⟨⟨s0,r0⟩,h5⟩:=mh (e0.to (by ac_rfl:_=L7 t.s t.j t.d t.n t.P S (C,M)*(aA 176 5 i b (.iface 61 (ay t.s)) H e y*(ak i*(pt t.f (gO t g)*(pt v (cl b t.n)*(Q*(pt u (X #[Y .i64 0] 28 (0,0))*F))))))));dsimp only at h5 s0 r0;have H5:=ae h5;have p0:=ae n0;clear h4 e0 h5 n0
   by_cases hw:e=[]
   .subst hw
    have i1:=ae s0;have h1:=ae r0;clear Hm s0 r0 jN;have h6:=H5.out.to (by ac_rfl:_=pt u (X #[Y .i64 0] 28 (0,0))*((aA 176 5 i b (.iface 61 (ay t.s)) H [] y*(ak i*pt v (cl b t.n)))*(pt t.f (gO t g)*(et t.s t.j t.d t.n t.P C*(aL S t.d M*(ak S*(Q*F)))))));have z0:=h6.cell 0;have f0:Z.frozen? ⟨u,0,W⟩=false:=h6.frozen 0;have h7:=h6.setCell 0 (Y .i64 0);have X0:=ae (h7.cell 0);have H7:=ae h7.right.right;have D7:=ae (D4.out.setCell ⟨u,0,W⟩ (Y .i64 0));clear h6 h7 H5
    go_wp2_with fail
    refine m0.out.mono ?_;rintro d0 w5 ⟨rfl,rfl⟩;clear m0
    go_wp2_with fail
    refine wH rfl X0.out (HQ.out _ _ ⟨0,⟨H,[],y,C,M⟩,Q,S,C,M,HP.out,p0.out,rfl,D7.out,H7.out,fun _ h=>absurd rfl h,fun _=>rfl⟩)
   .obtain ⟨has,J2,D2,hI,R0,K0,N0⟩:=Hm.out 0 _ _ HP.out rfl p0.out hw
    dsimp only at hI R0 K0 N0;have n1:(0:Int)<(e.length:Int):=by have:=List.length_pos_iff.2 hw;omega
    have HI:=ae hI;have u0:=ae K0;have x0:=ae N0;have V0:=ae R0;have Hw:=ae hw;have hX:=H5.out.to (by ac_rfl:_=aA 176 5 i b (.iface 61 (ay t.s)) H e y*(ak i*(et t.s t.j t.d t.n t.P C*(aL S t.d M*(ak S*(pt t.f (gO t g)*(pt v (cl b t.n)*(Q*(pt u (X #[Y .i64 0] 28 (0,0))*F)))))))));have Z0:e.length<=1000000:=by have:=u0.out.n1;rw [xP] at this;omega
    have e1:=fun w' h=>G7 w' i b (.iface 61 (ay t.s)) H e y (et t.s t.j t.d t.n t.P C*(aL S t.d M*(ak S*(pt t.f (gO t g)*(pt v (cl b t.n)*(Q*(pt u (X #[Y .i64 0] 28 (0,0))*F))))))) Z0 h;have k0:Z.cell? ⟨t.f,0,W⟩=V (ay t.s)/\Z.cell? ⟨t.s,0,W⟩=V (ay t.j)/\Z.cell? ⟨v,0,W⟩=V (ay b):=⟨(hX.du).cell 0,qg (hX.aq),c1⟩
    have HX:=ae hX;have W0:=ae e1;have d1:∀ (w':N) (b0:ai) (J3:Jr) ,ag w' (pt t.f (gO t g)*(et t.s t.j t.d t.n t.P J3*(pt v (cl b t.n)*b0)))->w'.cell? ⟨t.f,0,W⟩=V (ay t.s)/\w'.cell? ⟨t.s,0,W⟩=V (ay t.j)/\w'.cell? ⟨v,0,W⟩=V (ay b):=fun w' b0 J3 h=>⟨h.cell 0,qg h.ah,h.aq.cell 0⟩
    have D0:=ae d1;have a1:=fun w' S2 vL h=>yA t w' S S2 vL (gL e) C J2 M D2 has (aA 176 5 S2 b (.iface 61 (ay t.s)) H e y*(pt t.f (gO t g)*(pt v (cl b t.n)*(Q*(pt u (X #[Y .i64 0] 28 (0,0))*F))))) HI.out (by rw [V0.out];exact u0.out) x0.out h;have U0:=ae a1;have T0:=ae fun w=>dx w
    go_wp2_with fail
    refine m0.out.mono ?_;rintro d0 w5 ⟨rfl,rfl⟩;clear m0
    go_wp2_with fail
    go_region_held3 (fun w'=>w'.cell? ⟨t.f,0,W⟩=V (ay t.s)/\w'.cell? ⟨t.s,0,W⟩=V (ay t.j)/\w'.cell? ⟨v,0,W⟩=V (ay b))
     (first|exact k0|exact k1|exact k2|exact k3|go_keep)
     (first
      | (go_at_call 75;refine (W0.out _ HX.out.drew).mono ?_;rintro d0 w6 ⟨S2,vL,l1,rfl,hL,dL⟩;have k1:=D0.out w6 _ C (hL.to (by ac_rfl:_=pt t.f (gO t g)*(et t.s t.j t.d t.n t.P C*(pt v (cl b t.n)*(gm 188 5 S2 vL (gL e)*(aA 176 5 S2 b (.iface 61 (ay t.s)) H e y*(ak S2*(aL S t.d M*(ak S*(Q*(pt u (X #[Y .i64 0] 28 (0,0))*F))))))))))))
      | (go_at_call 74;refine (U0.out _ S2 vL (hL.to (by ac_rfl))).mono ?_;rintro d0 w7 ⟨S3,rfl,d7,h7⟩;have k2:=D0.out w7 _ J2 (h7.to (by ac_rfl:_=pt t.f (gO t g)*(et t.s t.j t.d t.n t.P J2*(pt v (cl b t.n)*(aL S3 t.d D2*(ak S3*(aA 176 5 S2 b (.iface 61 (ay t.s)) H e y*(Q*(pt u (X #[Y .i64 0] 28 (0,0))*F))))))))))
      | (go_at_call 34;refine (T0.out _).mono ?_;rintro d0 w8 ⟨rfl,rfl⟩))
    rename_i l0;have h8:=h7.to (by ac_rfl:_=pt u (X #[Y .i64 0] 28 (0,0))*((aA 176 5 S2 b (.iface 61 (ay t.s)) H e y*pt v (cl b t.n))*(pt t.f (gO t g)*(et t.s t.j t.d t.n t.P J2*(aL S3 t.d D2*(ak S3*(Q*F)))))));have z0:=h8.cell 0;have f0:w7.frozen? ⟨u,0,W⟩=false:=h8.frozen 0;have h9:=h8.setCell 0 (Y .i64 0);have Y0:=ae (h9.cell 0);have H9:=ae h9.right.right;have D9:=ae (((D4.out.drew.trans dL).trans d7).setCell ⟨u,0,W⟩ (Y .i64 0));clear h7 h8 h9 dL d7
    go_wp2_with fail
    refine wH rfl Y0.out (HQ.out _ _ ⟨0,⟨H,e,y,C,M⟩,Q,S3,J2,D2,HP.out,p0.out,rfl,D9.out,H9.out,fun _ _=>x0.out,fun h=>?_⟩);rcases h with h|h
    .exact absurd rfl h
    .exact absurd h Hw.out
  .have hd:(c:Int)≠0:=hc
   have h5:ag Z (pt u (X #[Y .i64 0] 28 (0,0))*(pt t.f (gO t g)*(pt v (cl b t.n)*(cG (xG t S) i b q0*(ak i*(Q*F)))))):=h4.to (by ac_rfl);obtain ⟨H,e,y,C,M⟩:=q0;have e0:ag Z (aA 176 5 i b (.iface 61 (ay t.s)) H e y*(ak i*(L7 t.s t.j t.d t.n t.P S (C,M)*(pt t.f (gO t g)*(pt v (cl b t.n)*(Q*(pt u (X #[Y .i64 0] 28 (0,0))*F))))))):=h4.to (by unfold cG xG Cx.rd;ac_rfl);have n0:=rL e0;refine EU hc rfl h5 fun w' h6 d6=>HQ.out _ _ ⟨c,⟨H,e,y,C,M⟩,Q,S,C,M,HP.out,n0,rfl,D4.out.trans d6,?_,fun h=>absurd h hc,fun _=>rfl⟩;have h7:ag w' (L7 t.s t.j t.d t.n t.P S (C,M)*((aA 176 5 i b (.iface 61 (ay t.s)) H e y*(ak i*pt v (cl b t.n)))*(pt t.f (gO t g)*(Q*F)))):=h6.to (by unfold cG xG Cx.rd;ac_rfl);obtain ⟨-,h8⟩:=mh h7;exact (h8.to (by ac_rfl:_=(aA 176 5 i b (.iface 61 (ay t.s)) H e y*(ak i*pt v (cl b t.n)))*(pt t.f (gO t g)*(et t.s t.j t.d t.n t.P C*(aL S t.d M*(ak S*(Q*F))))))).right
structure Ds where
 J:Jr
 D:az
 has:Has
 B:Nat
structure Ds.Rd (s s':Ds):Prop where
 J:s'.J=s.J
 D:∃ r,s'.D={ s.D with cr:=r }
 has:s'.has=s.has
 B:s'.B=s.B
def Ds.Cm (n:Nat) (s s':Ds):Prop:=∃ r e,Batch (n:Int) e/\eB s.J { s.D with cr:=r } E e=(0,s'.J,s'.D)/\s'.has=lS s.has e/\s'.B=s.B+1
structure NO {n:Nat} (q:Dk n) (s:Ds) (A:Nat->Option AF) (k:Nat):Prop where
 q:q.Q s.B s.J s.D s.has
 has:Go.SL.Has n ⟨iO s.has,iO s.has 0⟩ A k
theorem NO.rd {n:Nat} {q:Dk n} {s s':Ds} {A:Nat->Option AF} {k:Nat} (h:NO q s A k) (r:s.Rd s'):NO q s' A k:=by
 obtain ⟨H,C,M,y⟩:=s';obtain ⟨e,⟨r,g⟩,i,u⟩:=r;dsimp only at e g i u;subst e;subst g;subst i;subst u;exact ⟨q.cr h.q r,h.has⟩
def kP (t:Pl) (s:Ds):ai:=ex fun S=>et t.s t.j t.d t.n t.P s.J*(aL S t.d s.D*ak S)
section
variable {t:Pl} {s:Ds} {w:N} {F:ai}
theorem xm (h:ag w (kP t s*F)):∃ S,ag w (et t.s t.j t.d t.n t.P s.J*(aL S t.d s.D*(ak S*F))):=by
 obtain ⟨S,e⟩:=ag.aw.1 h;exact ⟨S,e.to (by ac_rfl)⟩
theorem lx {S:Hp} (h:ag w (et t.s t.j t.d t.n t.P s.J*(aL S t.d s.D*(ak S*F)))):ag w (kP t s*F):=
 ag.aw.2 ⟨S,h.to (by ac_rfl)⟩
end
def RR (t:Pl) (u:K) (x:Fx t.n) (v b:Nat) (P:Int->Nat->(Nat->Option AF)->Nat->ai->Prop) (H:ai) (y:N) (e:Ending) (w':N):Prop:=
 ∃ c g i h m,P c m g i h/\((c=0/\e = L (G #[]))\/(c≠0/\e = .panicked (me c)))/\aj y w'/\m<=24 /\
  ag w' (pt t.f (gO t u)*(pt v (cl b t.n)*(eA (x.more m) b g i*(h*H))))
def Rx (t:Pl) (u:K) (q:Dk t.n) (s:Ds) (P:Int->Nat->(Nat->Option AF)->Nat->ai->Prop) (F:ai) (w:N) (e:Ending) (w':N):Prop:=
 ∃ c m g i h s',P c m g i h/\e = L (Y .i64 c)/\aj w w'/\ag w' (pt t.f (gO t u)*(kP t s'*(h*F))) /\
  (m=0->s.Rd s')/\((c≠0/\s.Rd s')\/(c=0/\NO q s' g i/\(s.Rd s'\/s.Cm t.n s')))
theorem Np (t:Pl) (q:Dk t.n) (h4:4<=t.n) (hn:t.n<=3840) (w:N) (s:Ds) (A:Nat->Option AF) (k:Nat) (C:K) (jf:FuncId) (g0:Array K) (b0 F:ai) (P:Int->Nat->(Nat->Option AF)->Nat->ai->Prop)
  (ha:NO q s A k) (hB:s.B<=1000000) (jN:∀ (l0:Array K) (w:N),(callFunc jf l0).run U w = .ok (.enter jf l0) w)
  (hj:∀ (x:Fx t.n) (v b:Nat) (w1:N) (H:ai),x.C=0->ag w1 (pt t.f (gO t C)*(pt v (cl b t.n)*(eA x b A k*(b0*H))))->Calls U jf (#[ay v]++g0) w1 (RR t C x v b P H w1))
  (h:ag w (pt t.f (gO t C)*(kP t s*(b0*F)))) :
  Calls U 29 #[ay t.f,.func (.func jf) #[] g0] w (Rx t C q s P F w):=by
 obtain ⟨J,D,has,B⟩:=s;obtain ⟨d0,h1⟩:=xm (h.to (by ac_rfl:_=kP t ⟨J,D,has,B⟩*(pt t.f (gO t C)*(b0*F))));have hq:q.Q B J D has:=ha.q;have hh:Go.SL.Has t.n ⟨iO has,iO has 0⟩ A k:=ha.has;have hB:B<=1000000:=hB
 let x:Fx t.n:=⟨Jr × az,xG t d0,iO has,IJ J D,Ib t d0,wo hq,h4,hn,fun _=>emp,fun _ _ _ _ h=>h,0⟩
 have m0:∀ (M:ia (Jr × az)) i u,qa t.n (iO has) (IJ J D) M i u->M.W.length<=24->(M.W.map L1).Nodup->M.W≠[] ->
   ∃ r g e,M.s=(J,{ D with cr:=r })/\q.Q B J { D with cr:=r } has/\Batch (t.n:Int) (gL M.W)/\eB J { D with cr:=r } E (gL M.W)=(0,g,e)/\q.Q (B+1) g e (lS has (gL M.W)):=by
  intro M i u Q hl c0 k0;obtain ⟨Z,r,e2⟩:=Q.fW.inv;have hb:=vP Q c0 hl (List.length_pos_iff.2 k0);obtain ⟨g,e,e3,e4⟩:=q.xH (q.cr hq r) hB hb;exact ⟨r,g,e,Prod.ext Z e2,q.cr hq r,hb,e3,e4⟩
 refine (Cs t w d0 J D C jf g0 b0 F (fun c M y=>∃ m i u,P c m i u y/\qa t.n (iO has) (IJ J D) M i u/\M.W.length<=m/\m<=24) (q.inv hq).ok (q.inv hq).Gi jN ?_ ?_ (h1.to (by ac_rfl))).mono ?_
 .intro v b w1 H S
  have q0:ag w1 (Oo x b ⟨0,[],[],(J,D)⟩*(pt t.f (gO t C)*(pt v (cl b t.n)*(b0*H)))):=
   ag.wP (x:=x) (S:=uX) (S':=uX) (fun _ _ h=>h) (S.to (by show _=cG (xG t d0) uX b ⟨0,[],[],(J,D)⟩*(ak uX*(emp*(pt t.f (gO t C)*(pt v (cl b t.n)*(b0*H)))));rw [cV];ac_rfl))
  have r0:=ag.sI (x:=x) (A:=A) (k:=k) ⟨FW hh,Nat.zero_le _⟩ q0;refine (hj x v b w1 H rfl (r0.to (by ac_rfl))).mono ?_;rintro i0 w2 ⟨c,i,u,y,m,hP,he,d,hm,hs⟩;obtain ⟨M,hM,h2⟩:=ag.rJ (x:=x.more m) (hs.to (by ac_rfl:_=eA (x.more m) b i u*(pt t.f (gO t C)*(pt v (cl b t.n)*(y*H)))));obtain ⟨S',h3⟩:=ag.uB (x:=x.more m) h2;refine ⟨c,S',M,y,⟨m,i,u,hP,hM.1,Nat.le_trans hM.2 (by show 0+m<=m;omega),hm⟩,he,d,?_⟩;have h4:ag w2 (cG (xG t d0) S' b M*(ak S'*(emp*(pt t.f (gO t C)*(pt v (cl b t.n)*(y*H)))))):=h3;rw [cV] at h4;exact h4.to (by ac_rfl)
 .rintro c M y ⟨m,i,u,-,Q,hl,hm⟩-c0 k0
  obtain ⟨r,g,e,Z,e2,e3,e4,-⟩:=m0 M i u Q (by omega) c0 k0;refine ⟨has,g,e,?_,?_,e3,?_⟩
  .rw [Z];exact q.inv e2
  .rw [Z];exact q.jn e2
  .rw [Z];exact e4
 .rintro i0 w' ⟨c,M,y,S',g,e,⟨m,i,u,hP,Q,hl,hm⟩,c0,rfl,d,hs,n0,o0⟩
  obtain ⟨Z,r,e2⟩:=Q.fW.inv
  have f0:(c≠0\/M.W=[])->Ds.Rd ⟨J,D,has,B⟩ ⟨g,e,has,B⟩:=fun h=>by
   have i0:=o0 h;rw [i0] at Z e2;exact ⟨Z,⟨r,e2⟩,rfl,rfl⟩
  have p0:m=0->M.W=[]:=fun h=>List.eq_nil_of_length_eq_zero (by omega)
  by_cases h0:c=0
  .by_cases S:M.W=[]
   .refine ⟨c,m,i,u,y,⟨g,e,has,B⟩,hP,rfl,d,(lx (s:=⟨g,e,has,B⟩) (hs.to (by ac_rfl))).to (by ac_rfl:kP t ⟨g,e,has,B⟩*(pt t.f (gO t C)*(y*F))=_),fun _=>f0 (.inr S),.inr ⟨h0,?_,.inl (f0 (.inr S))⟩⟩
    exact NO.rd (s:=⟨J,D,has,B⟩) ⟨hq,rP Q S⟩ (f0 (.inr S))
   .obtain ⟨r',J2,D2,f1,f2,f3,f4,f5⟩:=m0 M i u Q (by omega) c0 S
    have e0:=n0 h0 S;rw [f1] at e0;have e0:eB J { D with cr:=r' } E (gL M.W)=(0,g,e):=e0;rw [e0] at f4;simp only [Prod.mk.injEq,true_and] at f4;obtain ⟨rfl,rfl⟩:=f4
    exact ⟨c,m,i,u,y,⟨g,e,lS has (gL M.W),B+1⟩,hP,rfl,d,(lx (s:=⟨g,e,lS has (gL M.W),B+1⟩) (hs.to (by ac_rfl))).to (by ac_rfl:kP t ⟨g,e,lS has (gL M.W),B+1⟩*(pt t.f (gO t C)*(y*F))=_),
     fun h=>absurd (p0 h) S,.inr ⟨h0,⟨f5,tF Q c0⟩,.inr ⟨r',gL M.W,f3,e0,rfl,rfl⟩⟩⟩
  .exact ⟨c,m,i,u,y,⟨g,e,has,B⟩,hP,rfl,d,(lx (s:=⟨g,e,has,B⟩) (hs.to (by ac_rfl))).to (by ac_rfl:kP t ⟨g,e,has,B⟩*(pt t.f (gO t C)*(y*F))=_),fun _=>f0 (.inl h0),.inl ⟨h0,f0 (.inl h0)⟩⟩
end Go.Proofs.Cl
namespace Go.Proofs.Cl
open Go.RowKit Go.SL Go.Proofs.Nn Go.Proofs.Ba Go.Proofs.Su Go.Proofs.Fs
attribute [local go_sem] Oper.semAt_some
abbrev kg:=List (Int × (Nat × Nat))
def lK (O:kg):KV:=O.map fun o=>(o.1,.agg #[Y .i64 (o.2.1:Int),Y .i64 (o.2.2:Int)])
def dH (t:Pl) (s:Ds) (m:Nat) (O:kg):ai:=pt t.f (gO t (.map (V m)))*(kP t s*mp m (lK O))
structure mF (t:Pl) (q:Dk t.n) (s:Ds) (T:Tr) (k:Nat):Prop where
 at_:NO q s (gJ T) k
 ty:Tidy t.n T
 h4:4<=t.n
 hn:t.n<=3840
def Ds.Go (n:Nat) (wr:Bool) (s s':Ds):Prop:=s.Rd s'\/(wr=E/\s.Cm n s')
def Sb (t:Pl) (q:Dk t.n) (m:Nat) (wr:Bool) (s:Ds) (h:Tr) (i:Nat) (g:kg) (v:K) (F:ai) (w:N) (e:Ending) (w':N):Prop:=
 ∃ s',e = L v/\aj w w'/\s.Go t.n wr s'/\mF t q s' h i/\ag w' (dH t s' m g*F)
section
variable {t:Pl} {q:Dk t.n} {s s':Ds} {T:Tr} {k m:Nat} {O:kg} {w:N} {F:ai} {p:List UInt8}
theorem mF.rd (h:mF t q s T k) (r:s.Rd s'):mF t q s' T k:=⟨h.at_.rd r,h.ty,h.h4,h.hn⟩
def ew (t:Pl) (m:Nat) (O:kg):ai:=pt t.f (gO t (.map (V m)))*mp m (lK O)
theorem iW (Q:mF t q s T k) (hB:s.B<=1000000) (i:FuncId) (C:Array K) (h:ai) (c:Int) (u y:ai)
  (jN:∀ (Z:Array K) (w:N),(callFunc i Z).run U w = .ok (.enter i Z) w)
  (hj:∀ (x:Fx t.n) (v b:Nat) (g:N) (H:ai),ag g (vA x b v T k*(h*(ew t m O*H)))->Calls U i (#[ay v]++C) g (Gd c (vA x b v T k*(u*(ew t m O*H))) (vA x b v T k*(y*(ew t m O*H))) g))
  (b0:ag w (dH t s m O*(h*F))) :
  Calls U 29 #[ay t.f,.func (.func i) #[] C] w fun e w'=>
   ∃ s',e = L (Y .i64 c)/\aj w w'/\s.Rd s'/\ag w' (dH t s' m O*((if c=0 then u else y)*F)):=by
 have h1:ag w (pt t.f (gO t (.map (V m)))*(kP t s*((h*mp m (lK O))*F))):=b0.to (by unfold dH;ac_rfl);refine (Np t q Q.h4 Q.hn w s (gJ T) k (.map (V m)) i C (h*mp m (lK O)) F (fun c' m' A' k' S=>c'=c/\m'=0/\S=(if c=0 then u else y)*mp m (lK O)) Q.at_ hB jN ?_ h1).mono ?_
 .intro x v b g H hC hw
  have h2:ag g (vA x b v T k*(h*(ew t m O*H))):=hw.to (by unfold vA ew;ac_rfl);refine (hj x v b g _ h2).mono ?_;rintro e w' ⟨d,⟨rfl,rfl,M⟩|⟨hc,rfl,M⟩⟩
  .exact ⟨0,gJ T,k,_,0,⟨rfl,rfl,rfl⟩,.inl ⟨rfl,rfl⟩,d,by decide,(ag.C4 (x:=x) 0 (M.to (by unfold vA ew;ac_rfl:_=eA x b (gJ T) k*(pt t.f (gO t (.map (V m)))*(pt v (cl b t.n)*((u*mp m (lK O))*H)))))).to (by rw [if_pos rfl];ac_rfl)⟩
  .exact ⟨c,gJ T,k,_,0,⟨rfl,rfl,rfl⟩,.inr ⟨hc,rfl⟩,d,by decide,(ag.C4 (x:=x) 0 (M.to (by unfold vA ew;ac_rfl:_=eA x b (gJ T) k*(pt t.f (gO t (.map (V m)))*(pt v (cl b t.n)*((y*mp m (lK O))*H)))))).to (by rw [if_neg hc];ac_rfl)⟩
 .rintro e w' ⟨c',m',A',k',S,s',⟨rfl,rfl,rfl⟩,rfl,d,hs,hr,-⟩
  exact ⟨s',rfl,d,hr rfl,hs.to (by unfold dH;ac_rfl)⟩
def Ri (z:Int × Int × Int):K:=.agg #[Y .i64 z.1,Y .i64 z.2.1,Y .i64 z.2.2]
theorem pz {w:N} {g:Array K} {rc:Nat} {z:Int × Int × Int} {e:K} {F:ai} (h4:g[4]?=V (ay rc)) (C:g[5]?=V e) (h:ag w (eQ rc z*F)) :
  (results Tryz.f20 g).run U w = .ok (G #[Ri z,e]) w:=by
 have i:=ag.cell h 0;have u:=ag.cell h 1;have y:=ag.cell h 2;have H:g.getD 4 undef=ay rc:=by simp [h4]
 have M:g.getD 5 undef=e:=by simp [C]
 simp at i u y;simp [results,Tryz.results20,h4,C,asAddr,ay,go_sem,i,u,y,Ri]
theorem I8 (S:mF t q s T k) (hB:s.B<=1000000) (b0:ag w (dH t s m O*F)) :
  Calls U 20 #[ay t.f,I (str p)] w
   (Sb t q m false s T k O (G #[Ri (if (bX T p).1=0 then sF (T (bX T p).2) else (0,0,0)),Y .i64 (bX T p).1]) F w):=by
 refine aJ fun e0 y=>?_;have hA:=(((b0.alloc (X #[I (str p)] 9 (0,0))).alloc (X #[Y .i64 0,Y .i64 0,Y .i64 0] 48 (0,0))).alloc (X #[Y .i64 0,Y .i64 0,Y .i64 0] 48 (0,0)))
 simp only [K1] at hA;have dA:=ae ((((aj.refl w).alloc (X #[I (str p)] 9 (0,0))).alloc (X #[Y .i64 0,Y .i64 0,Y .i64 0] 48 (0,0))).alloc (X #[Y .i64 0,Y .i64 0,Y .i64 0] 48 (0,0)))
 have hd:=ae fun (pc g:Nat) (F':ai) (w':N) (h':ag w' (dH t s m O*((aB pc p*eQ g (0,0,0))*F')))=>
  iW S hB 53 #[ay pc,ay g] (aB pc p*eQ g (0,0,0)) (bX T p).1 (aB pc p*eQ g (sF (T (bX T p).2))) (aB pc p*eQ g (0,0,0)) (enters func53 (by kernel_rfl) rfl)
   (fun x v b w1 c0 hw=>(Kw (x:=x) (b:=b) (v:=v) (k:=k) (pc:=pc) (sc:=g) (F:=ew t m O*c0) (p:=p) S.ty (hw.to (by ac_rfl))).mono fun d0 w' hq=>by simpa only [ax] using hq) h'
 have HF:=ae S;have HA:=ae hA;clear b0 hA hB S;generalize bX T p=pw at *;obtain ⟨c,id⟩:=pw;dsimp only at hd y
 go_enter func20,ntmps20
 go_wp2_with fail
 generalize ((w.alloc (X #[I (str p)] 9 (0,0))).alloc (X #[Y .i64 0,Y .i64 0,Y .i64 0] 48 (0,0))).alloc (X #[Y .i64 0,Y .i64 0,Y .i64 0] 48 (0,0))=w1 at *;generalize w.heap.size+1+1=g at *;generalize w.heap.size+1=rc at *;generalize w.heap.size=pc at *;refine (hd.out pc g (eQ rc (0,0,0)*F) _ (HA.out.to (by unfold aB eQ;ac_rfl))).mono ?_;rintro d0 h ⟨s',rfl,d2,hr,u⟩;have M:=ae (dA.out.trans d2);have Q:=ae hr;clear hd dA HA d2 hr
 by_cases h0:c=0
 .subst h0
  rw [if_pos rfl] at u y;generalize sF (T id)=z at *;obtain ⟨C,H,z3⟩:=z;have e:=u.to (by unfold eQ;ac_rfl:_=pt rc (X #[Y .i64 0,Y .i64 0,Y .i64 0] 48 (0,0))*(pt g (X #[Y .i64 C,Y .i64 H,Y .i64 z3] 48 (0,0))*(aB pc p*(dH t s' m O*F))));have s0:h.cell? ⟨g,0,W⟩=V (Y .i64 C):=e.ah.cell 0;have s1:h.cell? ⟨g,1,W⟩=V (Y .i64 H):=e.ah.cell 1;have s2:h.cell? ⟨g,2,W⟩=V (Y .i64 z3):=e.ah.cell 2;have r0:h.cell? ⟨rc,0,W⟩=V (Y .i64 0):=e.cell 0;have r1:h.cell? ⟨rc,1,W⟩=V (Y .i64 0):=e.cell 1;have r2:h.cell? ⟨rc,2,W⟩=V (Y .i64 0):=e.cell 2;have f0:=e.frozen 0;have f1:=e.frozen 1;have f2:=e.frozen 2;have H4:=ae (((e.setCell 0 (Y .i64 C)).setCell 1 (Y .i64 H)).setCell 2 (Y .i64 z3));have Z:=ae (((M.out.setCell ⟨rc,0,W⟩ (Y .i64 C)).setCell ⟨rc,1,W⟩ (Y .i64 H)).setCell ⟨rc,2,W⟩ (Y .i64 z3));clear u e M
  go_wp2_with fail
  have i:=H4.out;simp only [A1,E1,N1] at i;exact bodyPost_ret (pz (z:=(C,H,z3)) rfl rfl i) rfl (y.out _ _ ⟨s',rfl,Z.out,.inl Q.out,HF.out.rd Q.out,i.right.right.right⟩)
 .rw [if_neg h0] at u y
  have e:=u.to (by unfold eQ;ac_rfl:_=pt rc (X #[Y .i64 0,Y .i64 0,Y .i64 0] 48 (0,0))*((aB pc p*eQ g (0,0,0))*(dH t s' m O*F)));have r0:h.cell? ⟨rc,0,W⟩=V (Y .i64 0):=e.cell 0;have r1:h.cell? ⟨rc,1,W⟩=V (Y .i64 0):=e.cell 1;have r2:h.cell? ⟨rc,2,W⟩=V (Y .i64 0):=e.cell 2;have f0:=e.frozen 0;have f1:=e.frozen 1;have f2:=e.frozen 2;have H4:=ae (((e.setCell 0 (Y .i64 0)).setCell 1 (Y .i64 0)).setCell 2 (Y .i64 0));have Z:=ae (((M.out.setCell ⟨rc,0,W⟩ (Y .i64 0)).setCell ⟨rc,1,W⟩ (Y .i64 0)).setCell ⟨rc,2,W⟩ (Y .i64 0));clear u e M
  go_wp2_with fail
  have i:=H4.out;simp only [A1,E1,N1] at i;exact bodyPost_ret (pz (z:=(0,0,0)) rfl rfl i) rfl (y.out _ _ ⟨s',rfl,Z.out,.inl Q.out,HF.out.rd Q.out,i.right.right⟩)
end
def PO (t:Pl) (q:Dk t.n) (m:Nat) (s:Ds) (O:kg) (i:Int->Tr->Nat->Prop) (F:ai) (w:N) (e:Ending) (w':N):Prop:=
 ∃ c g h s',i c g h/\e = L (Y .i64 c)/\aj w w'/\((c≠0/\s.Rd s')\/(c=0/\mF t q s' g h/\s.Go t.n E s'))/\ag w' (dH t s' m O*F)
section
variable {t:Pl} {q:Dk t.n} {s s':Ds} {T:Tr} {k m:Nat} {O:kg} {w:N} {F:ai} {p:List UInt8}
theorem tB (u:mF t q s T k) (hB:s.B<=1000000) (y:FuncId) (Q:Array K) (e:ai) (M:Int->Tr->Nat->Prop)
  (jN:∀ (b0:Array K) (w:N),(callFunc y b0).run U w = .ok (.enter y b0) w)
  (hj:∀ (x:Fx t.n) (v b:Nat) (i:N) (H:ai),ag i (vA x b v T k*(e*(ew t m O*H)))->Calls U y (#[ay v]++Q) i (Rk x b v M (e*(ew t m O*H)) i))
  (h:ag w (dH t s m O*(e*F))) :
  Calls U 29 #[ay t.f,.func (.func y) #[] Q] w (PO t q m s O M (e*F) w):=by
 have S:ag w (pt t.f (gO t (.map (V m)))*(kP t s*((e*mp m (lK O))*F))):=h.to (by unfold dH;ac_rfl);refine (Np t q u.h4 u.hn w s (gJ T) k (.map (V m)) y Q (e*mp m (lK O)) F (fun c _ A' C G'=>∃ g,M c g C/\(c=0->Tidy t.n g/\A'=gJ g)/\G'=e*mp m (lK O)) u.at_ hB jN ?_ S).mono ?_
 .intro x v b i H hC hw
  have h2:ag i (vA x b v T k*(e*(ew t m O*H))):=hw.to (by unfold vA ew;ac_rfl);refine (hj x v b i _ h2).mono ?_;rintro c0 w' ⟨c,g,C,j,Z,hT,he,d,d0,h3⟩;exact ⟨c,gJ g,C,_,j,⟨g,Z,fun h=>⟨hT h,rfl⟩,rfl⟩,he,d,d0,h3.to (by unfold vA ew;ac_rfl)⟩
 .rintro c0 w' ⟨c,j,A',C,G',s',⟨g,Z,hT,rfl⟩,rfl,d,hs,-,hr⟩
  refine ⟨c,g,C,s',Z,rfl,d,?_,hs.to (by unfold dH;ac_rfl)⟩;rcases hr with hr|⟨h0,ha,hg⟩
  .exact .inl hr
  .obtain ⟨S,rfl⟩:=hT h0
   exact .inr ⟨h0,⟨ha,S,u.h4,u.hn⟩,hg.imp id fun h=>⟨rfl,h⟩⟩
theorem zX {kd:Int} (f0:kd=1\/kd=2) (g:mF t q s T k) (M:s.B<=1000000) (e0:fS T k p=0) (h:ag w (dH t s m O*F)) :
  Calls U 27 #[ay t.f,I (str p),Y .i64 kd] w (PO t q m s O (lT t.n T k kd p) F w):=by
 refine aJ fun g0 HQ=>?_;have i:=((h.alloc (X #[I (str p)] 9 (0,0))).alloc (X #[Y .i64 kd] 3 (0,0)))
 rw [K1] at i;have C:=ae (((aj.refl w).alloc (X #[I (str p)] 9 (0,0))).alloc (X #[Y .i64 kd] 3 (0,0)))
 have S:=ae fun (pc e:Nat) (w':N) (h':ag w' (dH t s m O*((aB pc p*aH e kd)*F)))=>
  tB g M 66 #[ay pc,ay e] (aB pc p*aH e kd) (lT t.n T k kd p) (enters func66 (by kernel_rfl) rfl)
   (fun x v b w1 b0 hw=>(IU (x:=x) (b:=b) (v:=v) (k:=k) (pc:=pc) (kc:=e) (F:=ew t m O*b0) (p:=p) f0 g.hn g.ty e0 (hw.to (by ac_rfl))).mono fun c0 w' hq=>by simpa only [ax] using hq) h'
 have u:=ae i;clear h i M g
 go_enter func27,ntmps27
 go_wp2_with fail
 generalize (w.alloc (X #[I (str p)] 9 (0,0))).alloc (X #[Y .i64 kd] 3 (0,0))=w1 at *;generalize w.heap.size+1=e at *;generalize w.heap.size=pc at *;refine (S.out pc e _ (u.out.to (by unfold aB aH;ac_rfl))).mono ?_;rintro c0 w2 ⟨c,T',k',s',Q,rfl,y,Z,H⟩;have d0:=ae (HQ.out _ _ ⟨c,T',k',s',Q,rfl,C.out.trans y,Z,(H.to (by ac_rfl:_=(aB pc p*aH e kd)*(dH t s' m O*F))).right⟩);clear S C u y Z Q H
 go_wp2_with fail
 exact d0.out
theorem Br (y:mF t q s T k) (i:s.B<=1000000) (Z:fS T k p=0) (h:ag w (dH t s m O*F)) :
  Calls U 9 #[ay t.f,I (str p)] w (PO t q m s O (lT t.n T k 1 p) F w):=by
 refine aJ fun b0 M=>?_;have C:=ae (zX (p:=p) (kd:=1) (.inl rfl) y i Z h);clear h y i
 go_enter func9,ntmps9
 go_wp2_with fail
 refine C.out.mono ?_;rintro c0 w2 ⟨c,Q,k',s',u,rfl,e,H,g⟩;have S:=ae (M.out _ _ ⟨c,Q,k',s',u,rfl,e,H,g⟩);clear C e H u g
 go_wp2_with fail
 exact S.out
theorem EF (y:mF t q s T k) (i:s.B<=1000000) (Z:fS T k p=0) (h:ag w (dH t s m O*F)) :
  Calls U 16 #[ay t.f,I (str p)] w (PO t q m s O (lT t.n T k 2 p) F w):=by
 refine aJ fun b0 M=>?_;have C:=ae (zX (p:=p) (kd:=2) (.inr rfl) y i Z h);clear h y i
 go_enter func16,ntmps16
 go_wp2_with fail
 refine C.out.mono ?_;rintro c0 w2 ⟨c,Q,k',s',u,rfl,e,H,g⟩;have S:=ae (M.out _ _ ⟨c,Q,k',s',u,rfl,e,H,g⟩);clear C e H u g
 go_wp2_with fail
 exact S.out
end
def Gg (o:Nat × Nat):K:=.agg #[Y .i64 (o.1:Int),Y .i64 (o.2:Int)]
theorem zK (O:kg) (fd:Int):aG (lK O) fd=(aG O fd).map Gg:=by
 induction O with
 | nil=>rfl
 | cons o O e=>
  rw [lK,List.map_cons,jj,jj]
  by_cases h:o.1=fd
  .rw [if_pos h,if_pos h];rfl
  .rw [if_neg h,if_neg h];exact e
section
variable {t:Pl} {q:Dk t.n} {s s':Ds} {T:Tr} {k m:Nat} {O:kg} {w:N} {F:ai} {p:List UInt8} {fd:Int}
theorem wN (h:ag w (ew t m O*F)) (fd:Int):(Instr.lookup 64 (.map (V m)) (Y .i64 fd) E).run U w = .ok (G #[(((aG O fd).map Gg).getD (Gg (0,0))),.bool (aG O fd).isSome]) w:=by
 have e:ag w (mp m (lK O)*(pt t.f (gO t (.map (V m)))*F)):=h.to (by unfold ew;ac_rfl);obtain ⟨o,i,g,-⟩:=e.nW;have:=gS (P:=U) (z:=Gg (0,0)) underlying64 underlying3 (by kernel_rfl) g i fd E;rw [zK] at this;rw [this,if_pos rfl,O1]
theorem lA (h:ag w (ew t m O*F)):Calls U 28 #[ay t.f,Y .i64 fd] w fun e w'=>e = L (.bool (aG O fd).isSome)/\aj w w'/\ag w' (ew t m O*F):=by
 refine aJ fun Q g=>?_;have C:=wN h fd
 obtain ⟨u,H⟩:∃ u,((aG O fd).map Gg).getD (Gg (0,0))=Gg u:=by
  cases aG O fd with
  | none=>exact ⟨_,rfl⟩
  | some o=>exact ⟨o,rfl⟩
 rw [H] at C;have S:w.cell? ⟨t.f,1,W⟩=V (.map (V m)):=(h.to (by unfold ew;ac_rfl:_=pt t.f (gO t (.map (V m)))*(mp m (lK O)*F))).cell 1;have y:=(h.alloc (X #[Y .i64 (u.1:Int),Y .i64 (u.2:Int)] 78 (0,0))).right;have i:=(aj.refl w).alloc (X #[Y .i64 (u.1:Int),Y .i64 (u.2:Int)] 78 (0,0));have M:=ae (g.out _ _ ⟨rfl,i,y⟩);unfold Gg at C;clear h H y i g;generalize (aG O fd).isSome=Z at *
 go_enter func28,ntmps28
 go_wp2_with fail
 exact M.out
def nV (O:kg) (fd:Int):kg:=Go.SL.del O fd
theorem LJ (O:kg) (fd:Int):del (lK O) fd=lK (nV O fd):=by
 unfold del lK nV del;rw [List.filter_map];rfl
theorem ER (hf:mF t q s T k) (h:ag w (dH t s m O*F)) :
  Calls U 10 #[ay t.f,Y .i64 fd] w fun e w'=>e = L (Y .i64 (if (aG O fd).isSome then 0 else 5))/\aj w w'/\ag w' (dH t s m (if (aG O fd).isSome then nV O fd else O)*F):=by
 refine aJ fun b0 g=>?_;have H:ag w (ew t m O*(kP t s*F)):=h.to (by unfold dH ew;ac_rfl);have i:=ae (lA (fd:=fd) H);clear h
 cases C:(aG O fd).isSome with
 | false=>
  rw [C] at i g;rw [if_neg (by decide),if_neg (by decide)] at g;clear H C
  go_enter func10,ntmps10
  go_wp2_with fail
  refine i.out.mono ?_;rintro e S ⟨rfl,u,y⟩;have Q:=ae (g.out _ _ ⟨rfl,u,y.to (by unfold dH ew;ac_rfl)⟩);clear i u y
  go_wp2_with fail
  exact Q.out
 | true=>
  rw [C] at i g;rw [if_pos rfl,if_pos rfl] at g;clear H C
  go_enter func10,ntmps10
  go_wp2_with fail
  refine i.out.mono ?_;rintro e S ⟨rfl,u,y⟩;have M:ag S (mp m (lK O)*(pt t.f (gO t (.map (V m)))*(kP t s*F))):=y.to (by unfold ew;ac_rfl);have c1:S.cell? ⟨t.f,1,W⟩=V (.map (V m)):=M.ah.cell 1;obtain ⟨w3,hr,h4,Z,-⟩:=ag.delete (P:=U) underlying64 underlying3 0 3 M fd;rw [LJ] at h4;have Q:=ae (g.out _ _ ⟨rfl,u.trans Z,h4.to (by unfold dH;ac_rfl)⟩);clear i u y M h4 Z
  go_wp2_with fail
  exact Q.out
def fZ (T:Tr) (O:kg) (p:List UInt8):Int:=if (bX T p).1≠0 then (bX T p).1 else match T (bX T p).2 with
 | some (.file _)=>if 16<=O.length then 9 else 0
 | _=>8
def cq (t:Pl) (a:Nat):ai:=pt a (X #[ay t.f] 25 (0,0))
def Jl (a:Nat):ai:=ex fun z=>aH a z
theorem Mb {a:Nat} {z:Int} (h:ag w (aH a z*F)):ag w (Jl a*F):=ag.aw.2 ⟨z,h⟩
theorem JF {x:Fx t.n} {b v pc nc fc:Nat} (S:Tidy t.n T) (m0:ag w (vA x b v T k*((aB pc p*(aH nc 0*cq t fc))*(ew t m O*F)))) :
  Calls U 30 #[ay v,ay pc,ay nc,ay fc] w (Gd (fZ T O p) (vA x b v T k*((aB pc p*(aH nc ((bX T p).2:Nat)*cq t fc))*(ew t m O*F))) (vA x b v T k*((aB pc p*(Jl nc*cq t fc))*(ew t m O*F))) w):=by
 refine aJ fun l0 HQ=>?_;have M:=m0.to (by ac_rfl:_=vA x b v T k*(aB pc p*(aH nc 0*(cq t fc*(ew t m O*F)))));have cp:w.cell? ⟨pc,0,W⟩=V (I (str p)):=M.ah.cell 0;have i0:=ae M;have HT:=ae S
 have d0:Hid (∀ c,c≠0->c=fZ T O p->∀ (z:Int) (w':N),aj w w'->ag w' (vA x b v T k*(aB pc p*(aH nc z*(cq t fc*(ew t m O*F)))))->l0 (.panicked (me c)) w'):=fun c H he z w' d i=>
  HQ.out _ _ ⟨d,.inr ⟨by rw [<- he];exact H,by rw [he],(Mb (i.to (by ac_rfl:_=aH nc z*(vA x b v T k*(aB pc p*(cq t fc*(ew t m O*F))))))).to (by ac_rfl)⟩⟩
 clear m0 M
 cases i:aX p with
 | none=>
  have hk:=ae (we (w:=w) i);have H:(1:Int)=fZ T O p:=by unfold fZ;rw [oU i];rfl
  clear S i
  go_enter func30,ntmps30
  go_wp2_with fail
  refine hk.out.mono ?_;rintro e w2 ⟨rfl,d2,h2⟩;exact ⟨rfl,d0.out 1 (by decide) H 0 _ d2 (h2.dU i0.out)⟩
 | some g=>
  obtain ⟨H0,hl⟩:=dq i;have u0:=e7 (T:=T) i;have hk:=ae (dP (w:=w) i);have y:=fun M=>S.walk g S.root.choose_spec M;have HL:=ae hl;have g0:=ae u0;have HY:=ae y;clear S i hl H0 u0 y
  go_enter func30,ntmps30
  go_wp2_with fail
  refine hk.out.mono ?_;rintro e w2 ⟨u,rfl,d2,h2⟩;have C:=(h2.under i0.out).ah;have hw:=ae (fL HT.out HL.out iD C);have k0:=ae (show ∀ e w',Gd (fZ T O p) (vA x b v T k*((aB pc p*(aH nc ((aT T 1 g).2:Nat)*cq t fc))*(ew t m O*F))) (vA x b v T k*((aB pc p*(Jl nc*cq t fc))*(ew t m O*F))) w e w'->l0 e w' by rw [<- g0.out];exact fun e w'=>HQ.out e w');have s0:fZ T O p=if (aT T 1 g).1≠0 then (aT T 1 g).1 else match T (aT T 1 g).2 with|some (.file _)=>if 16<=O.length then 9 else 0|_=>8:=by unfold fZ;rw [g0.out]
  have c0:=ae s0;clear s0;generalize aT T 1 g=pw at *;obtain ⟨c,id⟩:=pw;dsimp only at hw HY k0 c0;clear cp hk h2 C HL HQ g0
  go_wp2_with fail
  refine hw.out.mono ?_;rintro e w3 ⟨he,d3,C⟩;clear hw;have D3:=ae (d2.trans d3);clear d2 d3;rcases he with ⟨rfl,rfl⟩|⟨H,rfl⟩
  .obtain ⟨x0,y⟩:=HY.out rfl
   have h4:=C.to (by unfold aH;ac_rfl:_=pt nc (X #[Y .i64 0] 3 (0,0))*(vA x b v T k*(aB pc p*(cq t fc*(ew t m O*(eJ u g*F))))));have n0:w3.cell? ⟨nc,0,W⟩=V (Y .i64 0):=h4.cell 0;have f0:=h4.frozen 0;have h:=h4.setCell 0 (Y .i64 (id:Int));simp only [A1,E1] at h;have n1:=h.cell 0;have o0:=ae (mM y h.ah);have D5:=ae (D3.out.setCell ⟨nc,0,W⟩ (Y .i64 (id:Int)))
   have Q:fZ T O p=if x0.af.kd=1 then (if 16<=O.length then 9 else 0) else 8:=by
    rw [c0.out,if_neg (by decide),y]
    cases x0 with
    | file f=>have:=HT.out.files _ _ y;show _=if f.kd=1 then _ else _;rw [if_pos this]
    | dir S0=>rfl
   have HC:=ae Q;clear C h4 h y HY c0 Q D3
   go_wp2_with fail
   generalize w3.setCell ⟨nc,0,W⟩ (Y .i64 (id:Int))=w4 at *;refine o0.out.mono ?_;rintro e w5 hq;rcases hq with ⟨e0,z,rfl,K0,L0,N0,R0,d5,h⟩|⟨e0,rfl,d5,h⟩
   .have h6:=h.to (by unfold aH;ac_rfl:_=ew t m O*(vA x b v T k*(aH nc (id:Int)*(aB pc p*(cq t fc*(eJ u g*F))))))
    have h7:ag w5 (mp m (lK O)*(pt t.f (gO t (.map (V m)))*(vA x b v T k*(aH nc (id:Int)*(aB pc p*(cq t fc*(eJ u g*F))))))):=h6.to (by unfold ew;ac_rfl);have q0:=h7.P1 (P:=U) underlying64 3;have r0:(lK O).length=O.length:=by unfold lK;exact M1 _
    rw [r0] at q0;have c1:w5.cell? ⟨t.f,1,W⟩=V (.map (V m)):=h7.ah.cell 1;have cf:w5.cell? ⟨fc,0,W⟩=V (ay t.f):=(h7.to (by unfold cq;ac_rfl:_=pt fc (X #[ay t.f] 25 (0,0))*(mp m (lK O)*(pt t.f (gO t (.map (V m)))*(vA x b v T k*(aH nc (id:Int)*(aB pc p*(eJ u g*F)))))))).cell 0;have H6:=ae h6;have D6:=ae (D5.out.trans d5);have Q:fZ T O p=if 16<=O.length then 9 else 0:=by rw [HC.out,if_pos e0]
    have b0:=ae Q;obtain ⟨Z,p0⟩:∃ Z,O.length=Z:=⟨_,rfl⟩
    rw [p0] at q0 b0;clear h h6 h7 o0 n1 K0 L0 N0 R0 d5 D5 HC Q p0 r0 e0
    by_cases h0:16<=Z
    .have D0:(16:Int)<=(Z:Int):=by omega
     have F0:=ae fun w=>dF w 9 (by decide)
     go_wp2_with fail
     refine (F0.out _).mono ?_;rintro e w7 ⟨rfl,rfl⟩;exact ⟨rfl,d0.out 9 (by decide) (by rw [b0.out,if_pos h0]) _ _ D6.out (H6.out.to (by ac_rfl:_=eJ u g*(vA x b v T k*(aB pc p*(aH nc (id:Int)*(cq t fc*(ew t m O*F))))))).right⟩
    .have D0:(Z:Int)<16:=by omega
     have G0:=ae (k0.out _ _ ⟨D6.out,.inl ⟨by rw [b0.out,if_neg h0],rfl,(H6.out.to (by ac_rfl:_=eJ u g*(vA x b v T k*((aB pc p*(aH nc (id:Int)*cq t fc))*(ew t m O*F))))).right⟩⟩);clear h0 b0
     go_wp2_with fail
     go_end0
     exact G0.out
   .exact ⟨rfl,d0.out 8 (by decide) (by rw [HC.out,if_neg e0]) _ _ (D5.out.trans d5) (h.to (by unfold aH;ac_rfl:_=eJ u g*(vA x b v T k*(aB pc p*(aH nc (id:Int)*(cq t fc*(ew t m O*F))))))).right⟩
  .exact ⟨rfl,d0.out _ H (by rw [c0.out,if_pos H]) 0 _ D3.out (C.to (by ac_rfl:_=eJ u g*(vA x b v T k*(aB pc p*(aH nc 0*(cq t fc*(ew t m O*F))))))).right⟩
end
end Go.Proofs.Cl
namespace Go.SL
open Go.RowKit
theorem JJ {u:Type} (M:List (Int × u)) (x:Int) (h:(aG M x).isSome=E):(del M x).length+1<=M.length:=by
 have i:∃ p ∈ M,(!(p.1 == x))=false:=by
  unfold aG at h;rw [O1,List.find?_isSome] at h;obtain ⟨p,g,e⟩:=h;exact ⟨p,g,by simpa using e⟩
 obtain ⟨p,g,e⟩:=i;unfold del
 have:(M.filter fun p => !(p.1 == x)).length<M.length:=by
  rw [List.length_filter_lt_length_iff_exists];exact ⟨p,g,by rw [e];decide⟩
 omega
theorem vG {e:Type}:∀ (m:Nat) (M:List (Int × e)),(∀ j:Nat,j<m->(aG M (j:Int)).isSome=E)->m<=M.length
 | 0,_,_=>Nat.zero_le _
 | m+1,M,h=>by
  have g:=JJ M (m:Int) (h m (by omega));have i:=vG m (del M (m:Int)) fun j u=>by rw [sK,if_neg (by omega)];exact h j (by omega)
  omega
end Go.SL
namespace Go.Proofs.Cl
open Go.RowKit Go.SL Go.Proofs.Nn Go.Proofs.Ba Go.Proofs.Su Go.Proofs.Fs
attribute [local go_sem] Oper.semAt_some
section
variable {t:Pl} {q:Dk t.n} {s s':Ds} {T:Tr} {k m:Nat} {O:kg} {w:N} {F:ai} {p:List UInt8}
def _root_.Go.SL.bq (O:List (Int × (Nat × Nat))) (fd:Int) (o:Nat × Nat):List (Int × (Nat × Nat)):=Go.SL.fm O fd o
theorem Du (O:kg) (fd:Int) (o:Nat × Nat):Go.SL.fm (lK O) fd (Gg o)=lK (bq O fd o):=by
 unfold bq Go.SL.fm;rw [zK,O1];unfold lK
 split
 .rw [List.map_map,List.map_map]
  apply List.map_congr_left;intro p _;simp only [Function.comp]
  split <;> rfl
 .rw [List.map_append];rfl
def ti (t:Pl) (q:Dk t.n) (m:Nat) (s:Ds) (T:Tr) (k:Nat) (O:kg) (p:List UInt8) (F:ai) (w:N) (e:Ending) (w':N):Prop:=
 ∃ s',aj w w'/\s.Rd s'/\((fZ T O p≠0/\e = L (G #[Y .i64 0,Y .i64 (fZ T O p)])/\ag w' (dH t s' m O*F)) \/
  (fZ T O p=0/\∃ fd:Nat,(∀ j:Nat,j<fd->(aG O (j:Int)).isSome=E)/\aG O (fd:Int)=W/\e = L (G #[Y .i64 (fd:Int),Y .i64 0])/\ag w' (dH t s' m (bq O fd ((bX T p).2,0))*F)))
def Qe (t:Pl) (m:Nat) (O:kg) (Z:ai) (w0:N) (u:K) (wr:N):Prop:=
 ∃ fd:Nat,u = Y .i64 (fd:Int)/\(∀ j:Nat,j<fd->(aG O (j:Int)).isSome=E)/\aj w0 wr/\ag wr (ew t m O*Z)
theorem mf (hf:mF t q s T k) (hB:s.B<=1000000) (hO:O.length<=1000) (h:ag w (dH t s m O*F)) :
  Calls prog 11 #[ay t.f,.string (str p)] w (ti t q m s T k O p F w):=by
 refine aJ fun Q HQ=>?_;have hA:=(((h.alloc (.cells #[ay t.f] 25 (0,0))).alloc (.cells #[.string (str p)] 9 (0,0))).alloc (.cells #[.int .i64 0] 3 (0,0)))
 simp only [K1] at hA;have dA:=ae ((((aj.refl w).alloc (.cells #[ay t.f] 25 (0,0))).alloc (.cells #[.string (str p)] 9 (0,0))).alloc (.cells #[.int .i64 0] 3 (0,0)))
 have hd:=ae fun (pc nc fc:Nat) (w':World) (h':ag w' (dH t s m O*((aB pc p*(aH nc 0*cq t fc))*F)))=>
  iW hf hB 30 #[ay pc,ay nc,ay fc] (aB pc p*(aH nc 0*cq t fc)) (fZ T O p) (aB pc p*(aH nc ((bX T p).2:Nat)*cq t fc)) (aB pc p*(Jl nc*cq t fc)) (enters func30 (by kernel_rfl) rfl)
   (fun x v b w1 H hw=>JF (x:=x) (b:=b) (v:=v) (k:=k) (pc:=pc) (nc:=nc) (fc:=fc) (F:=H) (p:=p) hf.ty hw) h'
 have HA:=ae hA;have hc0:=ae (vG (M:=O));have HO:=ae hO;clear h hA hB hf hO;unfold ti at HQ;generalize fZ T O p=c at *;generalize (bX T p).2=id at *
 go_enter func11,ntmps11
 go_wp2_with fail
 generalize ((w.alloc (.cells #[ay t.f] 25 (0,0))).alloc (.cells #[.string (str p)] 9 (0,0))).alloc (.cells #[.int .i64 0] 3 (0,0))=w1 at *;generalize w.heap.size=fc at *;refine (hd.out (fc+1) (fc+1+1) fc _ (HA.out.to (by unfold aB aH cq;ac_rfl))).mono ?_;rintro e w2 ⟨s',rfl,d2,hr,h2⟩;have D2:=ae (dA.out.trans d2);clear hd dA d2 HA
 by_cases hc:c=0
 .subst hc
  rw [if_pos rfl] at h2;have h3:ag w2 (ew t m O*(kP t s'*((aB (fc+1) p*(aH (fc+1+1) (id:Nat)*cq t fc))*F))):=h2.to (by unfold dH ew;ac_rfl);generalize hZ:kP t s'*((aB (fc+1) p*(aH (fc+1+1) (id:Nat)*cq t fc))*F)=Z at h3;have HZ:=ae hZ.symm;have H3:=ae h3
  have jN:∀ wr,ag wr (ew t m O*Z)->wr.cell? ⟨fc,0,none⟩=some (ay t.f)/\wr.cell? ⟨fc+1+1,0,none⟩=some (.int .i64 (id:Int))/\wr.cell? ⟨t.f,1,none⟩=some (.map (some m)):=fun wr hw=>by
   have hw0:=hw;rw [HZ.out] at hw
   exact ⟨(hw.to (by unfold cq;ac_rfl:_=pt fc (.cells #[ay t.f] 25 (0,0))*(ew t m O*(kP t s'*((aB (fc+1) p*aH (fc+1+1) (id:Nat))*F))))).cell 0,
    (hw.to (by unfold aH;ac_rfl:_=pt (fc+1+1) (.cells #[.int .i64 (id:Int)] 3 (0,0))*(ew t m O*(kP t s'*((aB (fc+1) p*cq t fc)*F))))).cell 0,
    (hw0.to (by unfold ew;ac_rfl:_=pt t.f (gO t (.map (some m)))*(mp m (lK O)*Z))).cell 1⟩
  have HC:=ae jN;have HQ0:=ae fun (fd:Nat) (w':World) (d:aj w w') (ha:∀ j:Nat,j<fd->(aG O (j:Int)).isSome=true) (hn:aG O (fd:Int)=none) (hs:ag w' (dH t s' m (bq O (fd:Int) (id,0))*F))=>HQ.out _ _ ⟨s',d,hr,.inr ⟨rfl,fd,ha,hn,rfl,hs⟩⟩;clear h2 h3 hZ jN HQ
  go_wp2_with fail
  go_loopw [8] (fun u wr=>Qe t m O Z w u wr) (fun u _=>O.length+1-(intOf u).toNat)
  case atStart=>exact ⟨0,rfl,fun j hj=>absurd hj (Nat.not_lt_zero _),D2.out,H3.out⟩
  case round=>
   obtain ⟨fd,rfl,hall,hside,hsat⟩:=hrel;have hfl:=hc0.out fd hall;have hfo:fd<=1000:=by have:=HO.out;omega
   obtain ⟨e1,e2,e3⟩:=HC.out wr hsat;have hh:=ae (lA (fd:=(fd:Int)) hsat);have HS:=ae hsat;have HAll:=ae hall;have D:=ae hside;have HFL:=ae hfl;have hfi:(fd:Int)<=1000:=by omega
   clear hsat hall hside hfl hfo e2 e3
   cases his:(aG O (fd:Int)).isSome with
   | true=>
    rw [his] at hh;have HI:=ae his;clear his
    go_wp2_with fail
    refine hh.out.mono ?_;rintro e w3 ⟨rfl,d3,h3⟩;have D3:=ae (D.out.trans d3);have H4:=ae h3;clear hh d3 h3 e1
    go_wp2_with fail
    go_roundw
    case rel=>exact ⟨fd+1,by go_num,fun j hj=>by
     rcases Nat.lt_succ_iff_lt_or_eq.1 hj with h|rfl
     .exact HAll.out j h
     .exact HI.out,D3.out,H4.out⟩
    case measure=>have:=HFL.out;simp [intOf];omega
   | false=>
    rw [his] at hh;have HI:=ae his;clear his
    go_wp2_with fail
    refine hh.out.mono ?_;rintro e w3 ⟨rfl,d3,h3⟩;obtain ⟨f1,f2,f3⟩:=HC.out w3 h3;obtain ⟨w4,hup,h4,d4,ce⟩:=ag.mapUpdate (P:=prog) underlying64 underlying3 (w:=w3.drew) (h3.drew.to (by unfold ew;ac_rfl:_=mp m (lK O)*(pt t.f (gO t (.map (some m)))*Z))) (fd:Int) (Gg (id,0));rw [Du] at h4
    have hno:aG O (fd:Int)=none:=by
     have:=HI.out
     cases hk:aG O (fd:Int) with
     | none=>rfl
     | some o=>rw [hk] at this;cases this
    have hfin:=ae (HQ0.out fd w4 ((D.out.trans d3).drew.trans d4) HAll.out hno (by rw [HZ.out] at h4;exact (h4.to (by unfold dH;ac_rfl:_=(aB (fc+1) p*(aH (fc+1+1) (id:Nat)*cq t fc))*(dH t s' m (bq O (fd:Int) (id,0))*F))).right));have g3:w4.cell? ⟨t.f,1,none⟩=some (.map (some m)):=(ce.1 _).trans f3;have g2:w4.cell? ⟨fc+1+1,0,none⟩=some (.int .i64 (id:Int)):=(ce.1 _).trans f2;have g1:w4.cell? ⟨fc,0,none⟩=some (ay t.f):=(ce.1 _).trans f1;clear hh d3 h3 h4 d4 HS HAll D HFL HI hno e1 HC H3 D2 HO hc0 HQ0 ce;simp only [Gg,Int.ofNat_zero] at hup
    go_wp2_with fail
    go_region_held3 (fun w'=>w'.cell? ⟨fc,0,none⟩=some (ay t.f)/\w'.cell? ⟨fc+1+1,0,none⟩=some (.int .i64 (id:Int))/\w'.cell? ⟨t.f,1,none⟩=some (.map (some m))) (go_keep) (fail)
    go_wp2_with fail
    exact hfin.out
 .have hfin:=ae (HQ.out _ _ ⟨s',D2.out,hr,.inl ⟨hc,rfl,by rw [if_neg hc] at h2;exact (h2.to (by ac_rfl:_=(aB (fc+1) p*(Jl (fc+1+1)*cq t fc))*(dH t s' m O*F))).right⟩⟩)
  clear h2 HQ hr
  go_wp2_with fail
  exact hfin.out
end
end Go.Proofs.Cl
namespace Go.SL
def cP (e at':Nat) (o wh:Int):Int:=(if wh=0 then 0 else if wh=1 then (at':Int) else (e:Int))+o
def ez (e at':Nat) (o wh:Int):Int:=if (-122880<=o/\o<=122880)/\(wh=0\/wh=1\/wh=2)/\(0<=cP e at' o wh/\cP e at' o wh<=122880) then 0 else 1
end Go.SL
namespace Go.Proofs.Cl
open Go.RowKit Go.SL Go.Proofs.Nn Go.Proofs.Ba Go.Proofs.Su Go.Proofs.Fs
attribute [local go_sem] Oper.semAt_some
section
variable {n:Nat} {x:Fx n} {b v oc qc pc tc id at' k:Nat} {T:Tr} {w:N} {F:ai} {o wh z:Int}
def cC (a:Nat) (z:Int):ai:=pt a (X #[Y .i64 z] 2 (0,0))
def LY (a:Nat):ai:=ex fun z=>cC a z
theorem MP {a:Nat} {z:Int} (h:ag w (cC a z*F)):ag w (LY a*F):=ag.aw.2 ⟨z,h⟩
def cJ (a:Nat) (p:Nat × Nat):ai:=pt a (X #[Y .i64 (p.1:Int),Y .i64 (p.2:Int)] 78 (0,0))
def CJ {n:Nat} (x:Fx n) (b v oc qc pc tc id at' k g:Nat) (T:Tr) (F:ai) (o wh:Int) (w e:N):Prop:=
 ∃ z,(wh=0\/wh=1\/wh=2)/\cP g at' o wh=z+o/\0<=z/\z<=122880/\aj w e/\ag e (vA x b v T k*(cC oc o*(aH qc wh*(cJ pc (id,at')*(cC tc z*F)))))
theorem GP {f:AF} (y:T id=V (.file f)) (ha:at'<=122880) (hs:f.sz<=122880) (hO:-9223372036854775808<=o/\o<=9223372036854775807) (h:ag w (vA x b v T k*(cC oc o*(aH qc wh*(cJ pc (id,at')*(cC tc 0*F)))))) :
  Calls U 43 #[ay v,ay oc,ay qc,ay pc,ay tc] w (Gd (ez f.sz at' o wh) (vA x b v T k*(cC oc o*(aH qc wh*(cJ pc (id,at')*(cC tc (cP f.sz at' o wh)*F))))) (vA x b v T k*(cC oc o*(aH qc wh*(cJ pc (id,at')*(LY tc*F))))) w):=by
 refine aJ fun m0 i=>?_;have o0:w.cell? ⟨oc,0,W⟩=V (Y .i64 o):=h.ah.cell 0;have w0:w.cell? ⟨qc,0,W⟩=V (Y .i64 wh):=h.aq.cell 0;have p0:w.cell? ⟨pc,0,W⟩=V (Y .i64 (id:Int)):=h.aD.cell 0;have p1:w.cell? ⟨pc,1,W⟩=V (Y .i64 (at':Int)):=h.aD.cell 1;have H:=ae h;have hn:=ae (jc y h)
 have g:Hid (ez f.sz at' o wh=1->∀ (z:Int) (w':N),aj w w'->ag w' (vA x b v T k*(cC oc o*(aH qc wh*(cJ pc (id,at')*(cC tc z*F)))))->m0 (.panicked (me 1)) w'):=fun he z w' d r0=>
  i.out _ _ ⟨d,.inr ⟨by rw [he];decide,by rw [he],(MP (r0.to (by ac_rfl:_=cC tc z*(vA x b v T k*(cC oc o*(aH qc wh*(cJ pc (id,at')*F))))))).to (by ac_rfl)⟩⟩
 have i0:=ae nf;have c0:=ae oT;have f0:=ae fun w=>dF w 1 (by decide);clear h y
 by_cases hr:-122880<=o/\o<=122880
 .have hC:ez f.sz at' o wh=if (wh=0\/wh=1\/wh=2)/\(0<=cP f.sz at' o wh/\cP f.sz at' o wh<=122880) then 0 else 1:=by unfold ez;simp only [hr,true_and,and_self]
  have M:=ae hC;obtain ⟨r1,r2⟩:=hr;clear hC hO
  go_enter func43,ntmps43
  go_wp2_with fail
  refine (i0.out _).mono ?_;rintro e w2 ⟨rfl,rfl⟩;have n0:(at':Int)<=122880:=by omega
  have s0:(f.sz:Int)<=122880:=by omega
  clear ha hs
  go_upto_block 0 with (fail)
  go_cut [] from 13 to 27 (fun wx=>CJ x b v oc qc pc tc id at' k f.sz T F o wh w wx)
  case first=>
   have t0:w.cell? ⟨tc,0,W⟩=V (Y .i64 0):=(H.out.to (by unfold cC;ac_rfl:_=pt tc (X #[Y .i64 0] 2 (0,0))*(vA x b v T k*(cC oc o*(aH qc wh*(cJ pc (id,at')*F)))))).cell 0;have y:=ae (H.out.to (by unfold cC;ac_rfl:_=pt tc (X #[Y .i64 0] 2 (0,0))*(vA x b v T k*(cC oc o*(aH qc wh*(cJ pc (id,at')*F))))));have g0:=y.out.frozen 0
   by_cases h0:wh=0
   .subst h0
    have HF:=ae (show CJ x b v oc qc pc tc id at' k f.sz T F o 0 w w from ⟨0,.inl rfl,by unfold cP;rw [if_pos rfl],by decide,by decide,aj.refl w,H.out⟩);clear i g M hn y H
    go_wp2_with fail
    go_meet
    exact HF.out
   by_cases h1:wh=1
   .subst h1
    have h4:=y.out.setCell 0 (Y .i64 (at':Int));simp only [A1,E1] at h4;have HF:=ae (show CJ x b v oc qc pc tc id at' k f.sz T F o 1 w (w.setCell ⟨tc,0,W⟩ (Y .i64 (at':Int))) from ⟨at',.inr (.inl rfl),by unfold cP;rw [if_neg (by decide),if_pos rfl],by omega,n0,(aj.refl w).setCell _ _,h4.to (by unfold cC;ac_rfl)⟩);clear i g M hn y H h4
    go_wp2_with fail
    go_meet
    exact HF.out
   by_cases h2:wh=2
   .subst h2
    have HT:=ae (fun (w':N) (x0:ag w' (vA x b v T k*(cC oc o*(aH qc 2*(cJ pc (id,at')*(cC tc 0*F))))))=>x0.to (by unfold cC;ac_rfl:_=pt tc (X #[Y .i64 0] 2 (0,0))*(vA x b v T k*(cC oc o*(aH qc 2*(cJ pc (id,at')*F))))));clear i g M y H
    go_wp2_with fail
    refine hn.out.mono ?_;rintro e w3 ⟨D0,rfl,e0,F0,G0,l0,d3,h3⟩;have n3:=(mz e0).1;obtain ⟨-,-,d0⟩:=uz e0 w3;rw [l0] at d0;have u:=HT.out w3 h3;have L0:w3.cell? ⟨tc,0,W⟩=V (Y .i64 0):=u.cell 0;have H0:=u.frozen 0;have h4:=u.setCell 0 (Y .i64 (f.sz:Int));simp only [A1,E1] at h4;have HF:=ae (show CJ x b v oc qc pc tc id at' k f.sz T F o 2 w (w3.setCell ⟨tc,0,W⟩ (Y .i64 (f.sz:Int))) from ⟨f.sz,.inr (.inr rfl),by unfold cP;rw [if_neg (by decide),if_neg (by decide)],by omega,s0,d3.setCell _ _,h4.to (by unfold cC;ac_rfl)⟩);generalize ints D0.l=yl at *;have K0:(Instr.field 73 (.agg yl) 2).run U w3 = .ok (Y .i64 ((f.sz:Nat):Int)) w3:=d0;clear h3 h4 u HT hn e0 F0 G0 l0 d3 n3 d0;generalize (f.sz:Int)=sz at *
    go_wp2_with fail
    go_meet
    exact HF.out
   .have C:=ae (g.out (by rw [M.out,if_neg];rintro ⟨h,-⟩;omega) 0 w (aj.refl w) H.out)
    have b0:(wh == 0)=false:=by simp [h0]
    have b1:(wh == 1)=false:=by simp [h1]
    have b2:(wh == 2)=false:=by simp [h2]
    clear i g M hn y H
    go_wp2_with fail
    refine (f0.out _).mono ?_;rintro e w2 ⟨rfl,rfl⟩;exact ⟨rfl,C.out⟩
  case rest=>
   obtain ⟨z,k0,hz,z1,z2,d3,h3⟩:=hcut;have h4:=h3.to (by unfold cC;ac_rfl:_=pt tc (X #[Y .i64 z] 2 (0,0))*(vA x b v T k*(pt oc (X #[Y .i64 o] 2 (0,0))*(aH qc wh*(cJ pc (id,at')*F)))));have t0:wc.cell? ⟨tc,0,W⟩=V (Y .i64 z):=h4.cell 0;have g0:=h4.frozen 0;have o0:wc.cell? ⟨oc,0,W⟩=V (Y .i64 o):=h4.aq.cell 0;have u:=h4.setCell 0 (Y .i64 (z+o));simp only [A1,E1] at u;have t1:=u.cell 0;have Q:=ae (d3.setCell ⟨tc,0,W⟩ (Y .i64 (z+o)));have S:=ae (u.to (by unfold cC;ac_rfl:_=vA x b v T k*(cC oc o*(aH qc wh*(cJ pc (id,at')*(cC tc (z+o)*F))))));have HZ:=ae hz;have Z:=ae (show ez f.sz at' o wh=if 0<=z+o/\z+o<=122880 then 0 else 1 by rw [M.out,hz];simp only [k0,true_and]);clear h3 h4 u hz M d3 hn f0 H k0;have u0:(wc.setCell ⟨tc,0,W⟩ (Y .i64 (z+o))).cell? ⟨tc,0,W⟩=V (Y .i64 (z+o)):=t1;clear t1
   by_cases r3:0<=z+o
   .by_cases r4:z+o<=122880
    .have q0:=ae (i.out (L (G #[])) _ ⟨Q.out,.inl ⟨by rw [Z.out,if_pos ⟨r3,r4⟩],rfl,by rw [HZ.out];exact S.out⟩⟩)
     clear i g Z HZ S Q
     go_wp2_with fail
     refine (i0.out _).mono ?_;rintro e w2 ⟨rfl,rfl⟩
     go_wp2_with fail
     go_end0
     exact q0.out
    .have C:=ae (g.out (by rw [Z.out,if_neg fun h=>r4 h.2]) _ _ Q.out S.out)
     clear i g Z HZ S Q
     go_wp2_with fail
     refine (c0.out _).mono ?_;rintro e w2 ⟨rfl,rfl⟩;exact ⟨rfl,C.out⟩
   .have C:=ae (g.out (by rw [Z.out,if_neg fun h=>r3 h.1]) _ _ Q.out S.out)
    clear i g Z HZ S Q
    go_wp2_with fail
    refine (c0.out _).mono ?_;rintro e w2 ⟨rfl,rfl⟩;exact ⟨rfl,C.out⟩
 .have hC:ez f.sz at' o wh=1:=by unfold ez;rw [if_neg];intro h;exact hr h.1
  have C:=ae (g.out hC 0 w (aj.refl w) H.out)
  by_cases r1:-122880<=o
  .have r2:¬ o<=122880:=fun h=>hr ⟨r1,h⟩
   clear hC g H hn hr
   go_enter func43,ntmps43
   go_wp2_with fail
   refine (c0.out _).mono ?_;rintro e w2 ⟨rfl,rfl⟩;exact ⟨rfl,C.out⟩
  .clear hC g H hn hr
   go_enter func43,ntmps43
   go_wp2_with fail
   refine (c0.out _).mono ?_;rintro e w2 ⟨rfl,rfl⟩;exact ⟨rfl,C.out⟩
end
section
variable {t:Pl} {q:Dk t.n} {s s':Ds} {T:Tr} {k m:Nat} {O:kg} {w:N} {F:ai} {fd o wh:Int}
theorem BN {u:Nat × Nat} (e:aG O fd=V u) (h:ag w (ew t m O*F)):(Instr.lookup 64 (.map (V m)) (Y .i64 fd) E).run U w = .ok (G #[.agg #[Y .i64 (u.1:Int),Y .i64 (u.2:Int)],.bool E]) w:=by
 have:=wN h fd;rw [e] at this;exact this
theorem nr (h:ag w (ew t m O*F)):w.cell? ⟨t.f,1,W⟩=V (.map (V m)):=(h.to (by unfold ew;ac_rfl:_=pt t.f (gO t (.map (V m)))*(mp m (lK O)*F))).cell 1
theorem CF (h:ag w (ew t m O*F)) (fd:Int) (u:Nat × Nat):∃ w',(Instr.mapUpdate 64 (.map (V m)) (Y .i64 fd) (.agg #[Y .i64 (u.1:Int),Y .i64 (u.2:Int)])).run U w = .ok () w'/\ag w' (ew t m (bq O fd u)*F)/\aj w w'/\mT w w':=by
 obtain ⟨y,i,h4,g,e⟩:=ag.mapUpdate (P:=U) underlying64 underlying3 (h.to (by unfold ew;ac_rfl:_=mp m (lK O)*(pt t.f (gO t (.map (V m)))*F))) fd (Gg u);rw [Du] at h4;exact ⟨y,i,h4.to (by unfold ew;ac_rfl),g,e⟩
def Nc (t:Pl) (s:Ds) (m:Nat) (O:kg) (fd:Int) (id g at':Nat) (o wh:Int) (F:ai) (w:N) (e:Ending) (w':N):Prop:=
 ∃ s',aj w w'/\s.Rd s'/\((ez g at' o wh≠0/\e = L (G #[Y .i64 0,Y .i64 (ez g at' o wh)])/\ag w' (dH t s' m O*F)) \/
  (ez g at' o wh=0/\e = L (G #[Y .i64 (cP g at' o wh),Y .i64 0])/\ag w' (dH t s' m (bq O fd (id,(cP g at' o wh).toNat))*F)))
theorem IK {f:AF} {id at':Nat} (hf:mF t q s T k) (hB:s.B<=1000000) (hy:aG O fd=V (id,at')) (hT:T id=V (.file f)) (ha:at'<=122880) (hO:-9223372036854775808<=o/\o<=9223372036854775807) (e0:ag w (dH t s m O*F)) :
  Calls U 14 #[ay t.f,Y .i64 fd,Y .i64 o,Y .i64 wh] w (Nc t s m O fd id f.sz at' o wh F w):=by
 refine aJ fun l0 h=>?_;have H:f.sz<=122880:=(hf.at_.has.wf (mC hT)).1.sz;have h1:ag w (ew t m O*(kP t s*F)):=e0.to (by unfold dH ew;ac_rfl);have hA:=(((h1.alloc (X #[Y .i64 o] 2 (0,0))).alloc (X #[Y .i64 wh] 3 (0,0))))
 simp only [K1] at hA;have dA:=(((aj.refl w).alloc (X #[Y .i64 o] 2 (0,0))).alloc (X #[Y .i64 wh] 3 (0,0)))
 generalize k0:(w.alloc (X #[Y .i64 o] 2 (0,0))).alloc (X #[Y .i64 wh] 3 (0,0))=M at *;have y:ag M (ew t m O*(cC w.heap.size o*(aH (w.heap.size+1) wh*(kP t s*F)))):=hA.to (by unfold cC aH;ac_rfl);have hl:=BN hy y;have c1:=nr y;have b0:=((y.alloc (X #[Y .i64 (id:Int),Y .i64 (at':Int)] 78 (0,0))).alloc (X #[Y .i64 0] 2 (0,0)))
 simp only [K1] at b0;have dB:=ae ((dA.alloc (X #[Y .i64 (id:Int),Y .i64 (at':Int)] 78 (0,0))).alloc (X #[Y .i64 0] 2 (0,0)))
 have hd:=ae fun (oc qc pc tc:Nat) (w':N) (h':ag w' (dH t s m O*((cC oc o*(aH qc wh*(cJ pc (id,at')*cC tc 0)))*F)))=>
  iW hf hB 43 #[ay oc,ay qc,ay pc,ay tc] (cC oc o*(aH qc wh*(cJ pc (id,at')*cC tc 0))) (ez f.sz at' o wh) (cC oc o*(aH qc wh*(cJ pc (id,at')*cC tc (cP f.sz at' o wh)))) (cC oc o*(aH qc wh*(cJ pc (id,at')*LY tc))) (enters func43 (by kernel_rfl) rfl)
   (fun x v b M g0 i=>(GP (x:=x) (b:=b) (v:=v) (k:=k) (oc:=oc) (qc:=qc) (pc:=pc) (tc:=tc) (F:=ew t m O*g0) hT ha H hO (i.to (by ac_rfl))).mono fun h0 w' hq=>by simpa only [ax] using hq) h'
 have HB:=ae b0
 have f0:ez f.sz at' o wh=0->∃ z:Nat,cP f.sz at' o wh=(z:Int):=fun e=>by
  unfold ez at e
  by_cases hh:(-122880<=o/\o<=122880)/\(wh=0\/wh=1\/wh=2)/\(0<=cP f.sz at' o wh/\cP f.sz at' o wh<=122880)
  .exact ⟨(cP f.sz at' o wh).toNat,by omega⟩
  .rw [if_neg hh] at e;cases e
 have Q:=ae f0;unfold Nc at h;clear e0 h1 hA y dA b0 H hf hB hy hT hO ha f0;generalize ez f.sz at' o wh=c at *;generalize cP f.sz at' o wh=zz at *
 go_enter func14,ntmps14
 go_wp2_with fail
 generalize (M.alloc (X #[Y .i64 (id:Int),Y .i64 (at':Int)] 78 (0,0))).alloc (X #[Y .i64 0] 2 (0,0))=w2 at *;generalize M.heap.size=pc at *;generalize w.heap.size=oc at *;refine (hd.out oc (oc+1) pc (pc+1) _ (HB.out.to (by unfold dH ew cC cJ;ac_rfl))).mono ?_;rintro h0 w3 ⟨s',rfl,d3,C,g⟩;have u:=ae (dB.out.trans d3);clear hd dB d3 HB k0 hl c1
 by_cases e:c=0
 .subst e
  obtain ⟨z,rfl⟩:=Q.out rfl;rw [if_pos rfl] at g;have d0:=ae fun (w':N) (d:aj w w') (H:ag w' (dH t s' m (bq O fd (id,z))*F))=>h.out _ _ ⟨s',d,C,.inr ⟨rfl,rfl,by rw [R1];exact H⟩⟩;have h4:=g.to (by unfold dH ew cJ;ac_rfl:_=pt pc (X #[Y .i64 (id:Int),Y .i64 (at':Int)] 78 (0,0))*(ew t m O*(cC (pc+1) (z:Int)*(cC oc o*(aH (oc+1) wh*(kP t s'*F))))));have t0:w3.cell? ⟨pc+1,0,W⟩=V (Y .i64 (z:Int)):=h4.aq.cell 0;have p1:w3.cell? ⟨pc,1,W⟩=V (Y .i64 (at':Int)):=h4.cell 1;have g1:=h4.frozen 1;have S:=h4.setCell 1 (Y .i64 (z:Int));simp only [A1,E1,N1] at S;have D5:=ae (u.out.setCell ⟨pc,1,W⟩ (Y .i64 (z:Int)));have H5:=ae S;clear g h4 S h u Q C
  go_wp2_with fail
  generalize w3.setCell ⟨pc,1,W⟩ (Y .i64 (z:Int))=w4 at *
  have jN:∀ (O:kg) (wr:N),ag wr (ew t m O*(pt pc (X #[Y .i64 (id:Int),Y .i64 (z:Int)] 78 (0,0))*(cC (pc+1) (z:Int)*(cC oc o*(aH (oc+1) wh*(kP t s'*F))))))->wr.cell? ⟨t.f,1,W⟩=V (.map (V m))/\wr.cell? ⟨pc,0,W⟩=V (Y .i64 (id:Int))/\wr.cell? ⟨pc,1,W⟩=V (Y .i64 (z:Int)):=fun O wr i=>
   ⟨nr i,i.ah.cell 0,i.ah.cell 1⟩
  have Z:=H5.out.to (by ac_rfl:_=ew t m O*(pt pc (X #[Y .i64 (id:Int),Y .i64 (z:Int)] 78 (0,0))*(cC (pc+1) (z:Int)*(cC oc o*(aH (oc+1) wh*(kP t s'*F))))));obtain ⟨e1,e2,e3⟩:=jN _ _ Z;obtain ⟨w5,i0,h7,d7,ce⟩:=CF Z.drew fd (id,z);obtain ⟨f1,f2,f3⟩:=jN _ _ h7;have c0:=ae (d0.out w5 (D5.out.drew.trans d7) ((h7.to (by unfold dH ew;ac_rfl:_=(pt pc (X #[Y .i64 (id:Int),Y .i64 (z:Int)] 78 (0,0))*(cC (pc+1) (z:Int)*(cC oc o*aH (oc+1) wh)))*(dH t s' m (bq O fd (id,z))*F))).right));dsimp only at i0;clear jN Z h7 d7 ce D5 H5 d0 t0 p1 g1
  go_region_held3 (fun w'=>w'.cell? ⟨t.f,1,W⟩=V (.map (V m))/\w'.cell? ⟨pc,0,W⟩=V (Y .i64 (id:Int))/\w'.cell? ⟨pc,1,W⟩=V (Y .i64 (z:Int))) (go_keep) (fail)
  go_wp2_with fail
  exact c0.out
 .rw [if_neg e] at g
  have c0:=ae (h.out _ _ ⟨s',u.out,C,.inl ⟨e,rfl,(g.to (by ac_rfl:_=(cC oc o*(aH (oc+1) wh*(cJ pc (id,at')*LY (pc+1))))*(dH t s' m O*F))).right⟩⟩);clear g h C u Q
  go_wp2_with fail
  exact c0.out
end
def _root_.Go.SL.iP (c:Int):Int:=if 0<=c/\c<=4096 then 0 else 1
def dj (a:Nat) (v:K):ai:=pt a (X #[v] 37 (0,0))
def uC (a:Nat) (l:List UInt8):ai:=ex fun u=>bs 5 u l*dj a u
theorem oE {w:N} {a:Nat} {l:List UInt8} {F:ai}:ag w (uC a l*F)↔∃ u,ag w (bs 5 u l*(dj a u*F)):=by
 unfold uC;rw [ag.aw];exact exists_congr fun u=>by rw [ax]
section
variable {n:Nat} {x:Fx n} {b v nc pc rc id at' k:Nat} {T:Tr} {w:N} {F:ai} {c:Int}
theorem DX {f:AF} (hT:T id=V (.file f)) (h:ag w (vA x b v T k*(aH nc c*(cJ pc (id,at')*(dj rc (R W 0 0)*F))))) :
  Calls U 45 #[ay v,ay nc,ay pc,ay rc] w (Gd (iP c) (vA x b v T k*(aH nc c*(cJ pc (id,at')*(uC rc (f.sub at' c.toNat)*F)))) (vA x b v T k*(aH nc c*(cJ pc (id,at')*(dj rc (R W 0 0)*F)))) w):=by
 refine aJ fun h0 g=>?_;have n0:w.cell? ⟨nc,0,W⟩=V (Y .i64 c):=h.ah.cell 0;have p0:w.cell? ⟨pc,0,W⟩=V (Y .i64 (id:Int)):=h.aq.cell 0;have p1:w.cell? ⟨pc,1,W⟩=V (Y .i64 (at':Int)):=h.aq.cell 1;have H:=ae h;have f0:=ae nf;have c0:=ae oT
 by_cases u:0<=c/\c<=4096
 .have i:iP c=0:=if_pos u
  rw [i] at g;obtain ⟨r1,r2⟩:=u;obtain ⟨m,rfl⟩:∃ m:Nat,c=(m:Int):=⟨c.toNat,by omega⟩
  rw [R1] at g;have hb:=ae (tD hT at' m h);clear h i hT
  go_enter func45,ntmps45
  go_wp2_with fail
  refine (f0.out _).mono ?_;rintro e y ⟨rfl,rfl⟩
  go_wp2_with fail
  refine hb.out.mono ?_;rintro e y ⟨d0,rfl,S,Z⟩;have C:=Z.to (by unfold dj;ac_rfl:_=pt rc (X #[R W 0 0] 37 (0,0))*(bs 5 d0 (f.sub at' m)*(vA x b v T k*(aH nc (m:Int)*(cJ pc (id,at')*F)))));have t0:y.cell? ⟨rc,0,W⟩=V (R W 0 0):=C.cell 0;have g0:=C.frozen 0;have h4:=C.setCell 0 d0;simp only [A1,E1] at h4;obtain ⟨M,Q,rfl⟩:=aC h4.ah;generalize f.sub at' m=l at *;have h5:ag (y.setCell ⟨rc,0,W⟩ (R M l.length Q)) (uC rc l*(vA x b v T k*(aH nc (m:Int)*(cJ pc (id,at')*F)))):=oE.2 ⟨_,h4.to (by unfold dj;ac_rfl:_=bs 5 (R M l.length Q) l*(dj rc (R M l.length Q)*(vA x b v T k*(aH nc (m:Int)*(cJ pc (id,at')*F)))))⟩;have e0:=ae (g.out _ _ ⟨S.setCell ⟨rc,0,W⟩ (R M l.length Q),.inl ⟨rfl,rfl,h5.to (by ac_rfl)⟩⟩);clear Z C h4 h5 g hb S H
  go_wp2_with fail
  go_end0
  exact e0.out
 .have i:iP c=1:=if_neg u
  rw [i] at g;have b0:=ae (g.out _ _ ⟨aj.refl w,.inr ⟨by decide,rfl,h⟩⟩)
  by_cases r1:0<=c
  .have r2:¬ c<=4096:=fun h=>u ⟨r1,h⟩
   clear i g H h u
   go_enter func45,ntmps45
   go_wp2_with fail
   refine (c0.out _).mono ?_;rintro e y ⟨rfl,rfl⟩;exact ⟨rfl,b0.out⟩
  .clear i g H h u
   go_enter func45,ntmps45
   go_wp2_with fail
   refine (c0.out _).mono ?_;rintro e y ⟨rfl,rfl⟩;exact ⟨rfl,b0.out⟩
end
section
variable {t:Pl} {q:Dk t.n} {s s':Ds} {T:Tr} {k m:Nat} {O:kg} {w:N} {F:ai} {fd c:Int}
def jO (t:Pl) (s:Ds) (m:Nat) (O:kg) (fd:Int) (id at':Nat) (l:List UInt8) (c:Int) (F:ai) (w:N) (e:Ending) (w':N):Prop:=
 ∃ s',aj w w'/\s.Rd s'/\((iP c≠0/\e = L (G #[R W 0 0,Y .i64 (iP c)])/\ag w' (dH t s' m O*F)) \/
  (iP c=0/\∃ u,e = L (G #[u,Y .i64 0])/\ag w' (bs 5 u l*(dH t s' m (bq O fd (id,at'+l.length))*F))))
theorem GU {f:AF} {id at':Nat} (hf:mF t q s T k) (hB:s.B<=1000000) (hy:aG O fd=V (id,at')) (hT:T id=V (.file f)) (ha:at'<=122880) (g0:ag w (dH t s m O*F)) :
  Calls U 15 #[ay t.f,Y .i64 fd,Y .i64 c] w (jO t s m O fd id at' (f.sub at' c.toNat) c F w):=by
 refine aJ fun q0 C=>?_
 have i0:iP c=0->(f.sub at' c.toNat).length<=4096:=fun i=>by
  unfold iP at i
  by_cases hh:0<=c/\c<=4096
  .unfold AF.sub;rw [M1,List.length_range];omega
  .rw [if_neg hh] at i;cases i
 have c0:=ae i0;have h1:ag w (ew t m O*(kP t s*F)):=g0.to (by unfold dH ew;ac_rfl);have hA:=h1.alloc (X #[Y .i64 c] 3 (0,0));have dA:=(aj.refl w).alloc (X #[Y .i64 c] 3 (0,0));generalize o0:w.alloc (X #[Y .i64 c] 3 (0,0))=w1 at *;have Z:ag w1 (ew t m O*(aH w.heap.size c*(kP t s*F))):=hA.to (by unfold aH;ac_rfl);have hl:=BN hy Z;have c1:=nr Z;have d0:=((Z.alloc (X #[Y .i64 (id:Int),Y .i64 (at':Int)] 78 (0,0))).alloc (X #[R W 0 0] 37 (0,0)))
 simp only [K1] at d0;have dB:=ae ((dA.alloc (X #[Y .i64 (id:Int),Y .i64 (at':Int)] 78 (0,0))).alloc (X #[R W 0 0] 37 (0,0)))
 have hd:=ae fun (nc pc rc:Nat) (w':N) (h':ag w' (dH t s m O*((aH nc c*(cJ pc (id,at')*dj rc (R W 0 0)))*F)))=>
  iW hf hB 45 #[ay nc,ay pc,ay rc] (aH nc c*(cJ pc (id,at')*dj rc (R W 0 0))) (iP c) (aH nc c*(cJ pc (id,at')*uC rc (f.sub at' c.toNat))) (aH nc c*(cJ pc (id,at')*dj rc (R W 0 0))) (enters func45 (by kernel_rfl) rfl)
   (fun x v b w1 k0 y=>(DX (x:=x) (b:=b) (v:=v) (k:=k) (nc:=nc) (pc:=pc) (rc:=rc) (F:=ew t m O*k0) (c:=c) hT (y.to (by ac_rfl))).mono fun l0 w' hq=>by simpa only [ax] using hq) h'
 have HB:=ae d0;unfold jO at C;clear g0 h1 hA Z dA d0 hf hB hy hT i0;generalize iP c=p0 at *;generalize f.sub at' c.toNat=l at *;have s0:(at':Int)<=122880:=by omega
 clear ha
 go_enter func15,ntmps15
 go_wp2_with fail
 generalize (w1.alloc (X #[Y .i64 (id:Int),Y .i64 (at':Int)] 78 (0,0))).alloc (X #[R W 0 0] 37 (0,0))=w2 at *;generalize w1.heap.size=pc at *;generalize w.heap.size=nc at *;refine (hd.out nc pc (pc+1) _ (HB.out.to (by unfold dH ew dj cJ;ac_rfl))).mono ?_;rintro l0 w3 ⟨s',rfl,d3,hr,u⟩;have H:=ae (dB.out.trans d3);clear hd dB d3 HB o0 hl c1
 by_cases i:p0=0
 .subst i
  have h0:=c0.out rfl;rw [if_pos rfl] at u;obtain ⟨D0,S⟩:=(oE (a:=pc+1)).1 (u.to (by ac_rfl:_=uC (pc+1) l*(dH t s' m O*(aH nc c*(cJ pc (id,at')*F)))));obtain ⟨e,g,rfl⟩:=aC S;have b0:=ae fun (w':N) (d:aj w w') (hs:ag w' (bs 5 (R e l.length g) l*(dH t s' m (bq O fd (id,at'+l.length))*F)))=>C.out _ _ ⟨s',d,hr,.inr ⟨rfl,_,rfl,hs⟩⟩;obtain ⟨z,hz⟩:∃ z,l.length=z:=⟨_,rfl⟩
  rw [hz] at S h0 b0;have h4:=S.to (by unfold dH ew cJ dj;ac_rfl:_=pt pc (X #[Y .i64 (id:Int),Y .i64 (at':Int)] 78 (0,0))*(pt (pc+1) (X #[R e z g] 37 (0,0))*(ew t m O*(bs 5 (R e z g) l*(aH nc c*(kP t s'*F))))));have t0:w3.cell? ⟨pc+1,0,W⟩=V (R e z g):=h4.ah.cell 0;have p1:w3.cell? ⟨pc,1,W⟩=V (Y .i64 (at':Int)):=h4.cell 1;have g1:=h4.frozen 1;have h5:=h4.setCell 1 (Y .i64 ((at'+z:Nat):Int));simp only [A1,E1,N1] at h5;have M:=ae (H.out.setCell ⟨pc,1,W⟩ (Y .i64 ((at'+z:Nat):Int)));have Q:=ae h5;have x0:(z:Int)<=4096:=by omega
  have f0:((at'+z:Nat):Int)=(at':Int)+(z:Int):=by omega
  rw [f0] at Q M;have u0:0<=(z:Int):=by omega
  have r0:0<=(at':Int):=by omega
  clear u S h4 h5 C H hr c0 hz h0;generalize m0:at'+z=h at *
  go_wp2_with fail
  rw [<- f0] at Q M ⊢;generalize w3.setCell ⟨pc,1,W⟩ (Y .i64 (h:Int))=w4 at *
  have jN:∀ (O:kg) (wr:N),ag wr (ew t m O*(pt pc (X #[Y .i64 (id:Int),Y .i64 (h:Int)] 78 (0,0))*(pt (pc+1) (X #[R e z g] 37 (0,0))*(bs 5 (R e z g) l*(aH nc c*(kP t s'*F))))))->wr.cell? ⟨t.f,1,W⟩=V (.map (V m))/\wr.cell? ⟨pc,0,W⟩=V (Y .i64 (id:Int))/\wr.cell? ⟨pc,1,W⟩=V (Y .i64 (h:Int))/\wr.cell? ⟨pc+1,0,W⟩=V (R e z g):=fun O wr y=>
   ⟨nr y,y.ah.cell 0,y.ah.cell 1,y.aq.cell 0⟩
  have h6:=Q.out.to (by ac_rfl:_=ew t m O*(pt pc (X #[Y .i64 (id:Int),Y .i64 (h:Int)] 78 (0,0))*(pt (pc+1) (X #[R e z g] 37 (0,0))*(bs 5 (R e z g) l*(aH nc c*(kP t s'*F))))));obtain ⟨e1,e2,e3,e4⟩:=jN _ _ h6;obtain ⟨w5,n0,h7,d7,ce⟩:=CF h6.drew fd (id,h);obtain ⟨f1,f2,f3,f4⟩:=jN _ _ h7;have e0:=ae (b0.out w5 (M.out.drew.trans d7) ((h7.to (by unfold dH ew;ac_rfl:_=(pt pc (X #[Y .i64 (id:Int),Y .i64 (h:Int)] 78 (0,0))*(pt (pc+1) (X #[R e z g] 37 (0,0))*aH nc c))*(bs 5 (R e z g) l*(dH t s' m (bq O fd (id,h))*F)))).right));dsimp only at n0;clear jN h6 h7 d7 ce M Q b0 t0 p1 g1 f0 m0
  go_region_held3 (fun w'=>w'.cell? ⟨t.f,1,W⟩=V (.map (V m))/\w'.cell? ⟨pc,0,W⟩=V (Y .i64 (id:Int))/\w'.cell? ⟨pc,1,W⟩=V (Y .i64 (h:Int))) (go_keep) (fail)
  go_wp2_with fail
  exact e0.out
 .rw [if_neg i] at u
  have e0:=ae (C.out _ _ ⟨s',H.out,hr,.inl ⟨i,rfl,(u.to (by ac_rfl:_=(aH nc c*(cJ pc (id,at')*dj (pc+1) (R W 0 0)))*(dH t s' m O*F))).right⟩⟩);clear u C hr H c0
  go_wp2_with fail
  exact e0.out
end
end Go.Proofs.Cl
namespace Go.SL
theorem Tidy.file {n id:Nat} {T:Tr} {f f':AF} (h:Tidy n T) (y:T id=V (.file f)) (M:f'.kd=f.kd) (Q:f'.lk=f.lk):Tidy n (eU T id (V (.file f'))):=by
 have S:=h.lt y
 have Z:id≠1:=by
  rintro rfl;obtain ⟨C,H⟩:=h.root;rw [H] at y;cases y
 refine ⟨?_,fun i C u=>?_,fun i g u=>?_,fun i=>?_,fun i u=>?_⟩
 .obtain ⟨C,H⟩:=h.root
  exact ⟨C,by unfold eU;rw [if_neg (Ne.symm Z)];exact H⟩
 .unfold eU at u
  split at u
  .cases u
  .exact h.rf _ _ u
 .unfold eU at u
  split at u
  .cases u;rw [M];exact h.files _ _ y
  .exact h.files _ _ u
 .have:=oH S (T:=T) (V (.file f')) i
  rw [y] at this;have e:refs n (eU T id (V (.file f'))) i=refs n T i:=by simpa [eP] using this
  rw [e,h.ref];unfold eU
  split
  .rename_i e;subst e;rw [y];exact Q.symm
  .rfl
 .unfold eU
  rw [if_neg (by omega)];exact h.out _ u
def gN (k at':Nat) (f:AF) (l:List UInt8):Int:=
 if 4096<l.length then 1 else if 122880<at'+l.length then 9 else if l=[] then 0 else if k+cm f.pr<cm (f.wr at' l).pr then 7 else 0
def fT (T:Tr) (k id at':Nat) (f:AF) (l:List UInt8) (c:Int) (e:Tr) (g:Nat):Prop:=
 c=gN k at' f l/\(c=0->(l=[]/\e=T/\g=k)\/(l≠[]/\e=eU T id (V (.file (f.wr at' l)))/\g=k+cm f.pr-cm (f.wr at' l).pr))
end Go.SL
namespace Go.Proofs.Cl
open Go.RowKit Go.SL Go.Proofs.Nn Go.Proofs.Ba Go.Proofs.Su Go.Proofs.Fs
attribute [local go_sem] Oper.semAt_some
section
variable {n:Nat} {x:Fx n} {b v nc pc id at' k:Nat} {T:Tr} {w:N} {F D:ai} {l:List UInt8} {va:Option Addr} {vc:Nat}
theorem FE {f:AF} (ht:Tidy n T) (c0:gN k at' f l=0) (Z:T id=V (.file f)) (C:at'<=122880) (g0:l.length<=1000000000) (H:l.length<=vc) (hD:∀ f0 P,ag f0 (D*P)->Rd f0 (R va l.length vc) l) (h:ag w (vA x b v T k*((dj nc (R va l.length vc)*cJ pc (id,at'))*(D*F)))) :
  Calls U 40 #[ay v,ay nc,ay pc] w (Rk x b v (fT T k id at' f l) ((dj nc (R va l.length vc)*cJ pc (id,at'))*(D*F)) w):=by
 refine aJ fun l0 y=>?_;have e0:=ae fun (c:Int) (hc:c≠0) (he:c=gN k at' f l)=>y.out (.panicked (me c)) w ⟨c,T,k,0,⟨he,fun h=>absurd h hc⟩,fun h=>absurd h hc,.inr ⟨hc,rfl⟩,aj.refl w,by decide,(ag.C4 (x:=x) 0 (pR h |>.to (aE _ _ _))).to (by unfold vA;ac_rfl)⟩;have g:=h.to (by unfold vA cJ dj;ac_rfl:_=eA x b (gJ T) k*(D*(pt v (cl b n)*(pt nc (X #[R va l.length vc] 37 (0,0))*(pt pc (X #[Y .i64 (id:Int),Y .i64 (at':Int)] 78 (0,0))*F)))));have n0:w.cell? ⟨nc,0,W⟩=V (R va l.length vc):=g.aD.cell 0;have p0:w.cell? ⟨pc,0,W⟩=V (Y .i64 (id:Int)):=g.aI.cell 0;have p1:w.cell? ⟨pc,1,W⟩=V (Y .i64 (at':Int)):=g.aI.cell 1;have h0:=ae nf;have q0:=ae oT;have hC:gN k at' f l=if 4096<l.length then 1 else if 122880<at'+l.length then 9 else if l=[] then 0 else if k+cm f.pr<cm (f.wr at' l).pr then 7 else 0:=rfl
 have u:=ae hC;have S:=ae ht;have HA:=ae C;have HL:=ae g0;have o0:(l.length:Int)<=1000000000:=by omega
 have m0:(at':Int)<=122880:=by omega
 clear hC ht C g0
 by_cases r1:(l.length:Int)<=4096
 .by_cases r2:(at':Int)+(l.length:Int)<=122880
  .by_cases r3:(l.length:Int)=0
   .have i:l=[]:=List.length_eq_zero_iff.1 (by omega)
    have b0:=ae (y.out (L (G #[])) w ⟨0,T,k,0,⟨by rw [u.out,if_neg (by omega),if_neg (by omega),if_pos i],fun _=>.inl ⟨i,rfl,rfl⟩⟩,fun _=>S.out,.inl ⟨rfl,rfl⟩,aj.refl w,by decide,(ag.C4 (x:=x) 0 (pR h |>.to (aE _ _ _))).to (by unfold vA;ac_rfl)⟩);have i0:=ae H;clear e0 u h g S HA HL y Z H i;generalize l.length=ln at *
    go_enter func40,ntmps40
    go_wp2_with fail
    refine (h0.out _).mono ?_;rintro e w2 ⟨rfl,rfl⟩
    go_wp2_with fail
    go_end0
    exact b0.out
   .have i:l≠[]:=fun e=>r3 (by rw [e];rfl)
    have H1:=ae g;have M:w.cell? ⟨v,0,W⟩=V (ay b)/\w.cell? ⟨v,1,W⟩=V (Y .i64 (n:Int))/\w.cell? ⟨pc,0,W⟩=V (Y .i64 (id:Int))/\w.cell? ⟨pc,1,W⟩=V (Y .i64 (at':Int))/\w.cell? ⟨nc,0,W⟩=V (R va l.length vc):=⟨g.aq.cell 0,g.aq.cell 1,p0,p1,n0⟩
    by_cases hk:k+cm f.pr<cm (f.wr at' l).pr
    .exact absurd ((by rw [u.out,if_neg (by omega),if_neg (by omega),if_neg i,if_pos hk]:gN k at' f l=7).symm.trans c0) (by decide)
    .have d0:=ae fun (w':N) (d:aj w w') (hs:ag w' (vA (x.more (l.length/480+5)) b v (eU T id (V (.file (f.wr at' l)))) (k+cm f.pr-cm (f.wr at' l).pr)*((dj nc (R va l.length vc)*cJ pc (id,at'))*(D*F))))=>
      y.out (L (G #[])) w' ⟨0,_,_,l.length/480+5,⟨by rw [u.out,if_neg (by omega),if_neg (by omega),if_neg i,if_neg hk],fun _=>.inr ⟨i,rfl,rfl⟩⟩,fun _=>S.out.file (f':=f.wr at' l) Z rfl rfl,.inl ⟨rfl,rfl⟩,d,by omega,hs⟩
     have C:=ae fun w' h'=>DI (x:=x) (b:=b) (k:=k) (w:=w') (F:=pt v (cl b n)*(pt nc (X #[R va l.length vc] 37 (0,0))*(pt pc (X #[Y .i64 (id:Int),Y .i64 (at':Int)] 78 (0,0))*F))) (mC Z) at' hD H (by omega) (by omega) (by omega) h';have Hk:=ae fun w=>dx w;have K0:=ae M;have i0:=ae H;clear e0 u h g S HA HL y Z H i hk M hD;generalize l.length=ln at *
     go_enter func40,ntmps40
     go_wp2_with fail
     refine (h0.out _).mono ?_;rintro e w2 ⟨rfl,rfl⟩
     go_wp2_with fail
     have M:=K0.out
     go_region_held3 (fun w'=>w'.cell? ⟨v,0,W⟩=V (ay b)/\w'.cell? ⟨v,1,W⟩=V (Y .i64 (n:Int))/\w'.cell? ⟨pc,0,W⟩=V (Y .i64 (id:Int))/\w'.cell? ⟨pc,1,W⟩=V (Y .i64 (at':Int))/\w'.cell? ⟨nc,0,W⟩=V (R va ln vc))
      (first|exact M|exact k1|go_keep)
      (first
       | (go_at_call 42;refine (C.out _ H1.out.drew).mono ?_;rintro e Q ⟨rfl,d4,h4⟩;have k1:Q.cell? ⟨v,0,W⟩=V (ay b)/\Q.cell? ⟨v,1,W⟩=V (Y .i64 (n:Int))/\Q.cell? ⟨pc,0,W⟩=V (Y .i64 (id:Int))/\Q.cell? ⟨pc,1,W⟩=V (Y .i64 (at':Int))/\Q.cell? ⟨nc,0,W⟩=V (R va ln vc):=⟨h4.aq.cell 0,h4.aq.cell 1,h4.aI.cell 0,h4.aI.cell 1,h4.aD.cell 0⟩)
       | (go_at_call 34;refine (Hk.out _).mono ?_;rintro e w5 ⟨rfl,rfl⟩))
     rename_i k0;clear k0 M k1 K0 C H1;rw [show eU (gJ T) id (V (f.wr at' l))=gJ (eU T id (V (.file (f.wr at' l)))) from wS T id (.file (f.wr at' l))] at h4;have b0:=ae (d0.out _ ((aj.refl w).drew.trans d4) (h4.to (by unfold vA cJ dj;ac_rfl)));clear h4 d4 d0
     go_wp2_with fail
     go_end0
     exact b0.out
  .exact absurd ((by rw [u.out,if_neg (by omega),if_pos (by omega)]:gN k at' f l=9).symm.trans c0) (by decide)
 .exact absurd ((by rw [u.out,if_pos (by omega)]:gN k at' f l=1).symm.trans c0) (by decide)
end
section
variable {t:Pl} {q:Dk t.n} {s s':Ds} {T:Tr} {k m:Nat} {O:kg} {w:N} {F D:ai} {fd z:Int} {l:List UInt8} {va:Option Addr} {vc:Nat}
def gp (t:Pl) (q:Dk t.n) (m:Nat) (s:Ds) (O:kg) (fd:Int) (o:Nat × Nat) (i:Int->Tr->Nat->Prop) (F:ai) (w:N) (e:Ending) (w':N):Prop:=
 ∃ c g h s',i c g h/\e = L (Y .i64 c)/\aj w w'/\((c≠0/\s.Rd s'/\ag w' (dH t s' m O*F))\/(c=0/\mF t q s' g h/\s.Go t.n E s'/\ag w' (dH t s' m (bq O fd o)*F)))
theorem F9 {f:AF} {id at':Nat} (hf:mF t q s T k) (hB:s.B<=1000000) (r0:gN k at' f l=0) (hy:aG O fd=V (id,at')) (hT:T id=V (.file f)) (ha:at'<=122880) (k0:l.length<=1000000000) (i0:l.length<=vc) (hD:∀ g0 P,ag g0 (D*P)->Rd g0 (R va l.length vc) l) (h:ag w (dH t s m O*(D*F))) :
  Calls U 13 #[ay t.f,Y .i64 fd,R va l.length vc] w (gp t q m s O fd (id,at'+l.length) (fT T k id at' f l) (D*F) w):=by
 refine aJ fun x0 u=>?_;have h1:ag w (ew t m O*(kP t s*(D*F))):=h.to (by unfold dH ew;ac_rfl);have hA:=h1.alloc (X #[R va l.length vc] 37 (0,0));have dA:=(aj.refl w).alloc (X #[R va l.length vc] 37 (0,0));generalize u0:w.alloc (X #[R va l.length vc] 37 (0,0))=w1 at *;have b0:ag w1 (ew t m O*(dj w.heap.size (R va l.length vc)*(kP t s*(D*F)))):=hA.to (by unfold dj;ac_rfl);have hl:=BN hy b0;have c1:=nr b0;have h0:=b0.alloc (X #[Y .i64 (id:Int),Y .i64 (at':Int)] 78 (0,0));have dB:=ae (dA.alloc (X #[Y .i64 (id:Int),Y .i64 (at':Int)] 78 (0,0)))
 have hd:=ae fun (nc pc:Nat) (w':N) (h':ag w' (dH t s m O*(((dj nc (R va l.length vc)*cJ pc (id,at'))*D)*F)))=>
  tB hf hB 40 #[ay nc,ay pc] ((dj nc (R va l.length vc)*cJ pc (id,at'))*D) (fT T k id at' f l) (enters func40 (by kernel_rfl) rfl)
   (fun x v b w1 n0 M=>(FE (x:=x) (b:=b) (v:=v) (k:=k) (nc:=nc) (pc:=pc) (F:=ew t m O*n0) hf.ty r0 hT ha k0 i0 hD (M.to (by ac_rfl))).mono fun o0 w' hq=>by simpa only [ax] using hq) h'
 have HB:=ae h0;have p0:fT T k id at' f l 0 T k\/True:=.inr trivial
 have m0:∀ y Q,fT T k id at' f l 0 y Q->l.length<=4096:=fun y Q g=>by
  have:=g.1;unfold gN at this
  by_cases h4:4096<l.length
  .rw [if_pos h4] at this;cases this
  .omega
 have c0:=ae m0;have G0:(at':Int)<=122880:=by omega
 unfold gp at u;clear h h1 hA b0 dA h0 hf hB hy hT m0 ha k0 hD p0 i0;generalize fT T k id at' f l=D0 at *
 go_enter func13,ntmps13
 go_wp2_with fail
 generalize w1.alloc (X #[Y .i64 (id:Int),Y .i64 (at':Int)] 78 (0,0))=w2 at *;generalize w1.heap.size=pc at *;generalize w.heap.size=nc at *;refine (hd.out nc pc _ (HB.out.to (by unfold dH ew cJ;ac_rfl))).mono ?_;rintro o0 w3 ⟨c,y,Q,s',H,rfl,d3,g,C⟩;have S:=ae (dB.out.trans d3);clear hd dB d3 HB u0 hl c1
 by_cases hc:c=0
 .subst hc
  have l0:=c0.out _ _ H;have i:=g.elim (fun h=>absurd rfl h.1) (fun h=>h.2);have d0:=ae fun (w':N) (d:aj w w') (hs:ag w' (dH t s' m (bq O fd (id,at'+l.length))*(D*F)))=>u.out _ w' ⟨0,y,Q,s',H,rfl,d,.inr ⟨rfl,i.1,i.2,hs⟩⟩;obtain ⟨z,hz⟩:∃ z,l.length=z:=⟨_,rfl⟩
  rw [hz] at C l0 d0 ⊢;have h4:=C.to (by unfold dH ew cJ dj;ac_rfl:_=pt pc (X #[Y .i64 (id:Int),Y .i64 (at':Int)] 78 (0,0))*(pt nc (X #[R va z vc] 37 (0,0))*(ew t m O*(D*(kP t s'*F)))));have t0:w3.cell? ⟨nc,0,W⟩=V (R va z vc):=h4.ah.cell 0;have p1:w3.cell? ⟨pc,1,W⟩=V (Y .i64 (at':Int)):=h4.cell 1;have g1:=h4.frozen 1;have h5:=h4.setCell 1 (Y .i64 ((at'+z:Nat):Int));simp only [A1,E1,N1] at h5;have Z:=ae (S.out.setCell ⟨pc,1,W⟩ (Y .i64 ((at'+z:Nat):Int)));have H5:=ae h5;have K0:(z:Int)<=4096:=by omega
  have f0:((at'+z:Nat):Int)=(at':Int)+(z:Int):=by omega
  rw [f0] at H5 Z;have H0:0<=(z:Int):=by omega
  have F0:0<=(at':Int):=by omega
  clear C h4 h5 u S g i H c0 hz l0;generalize q0:at'+z=e at *
  go_wp2_with fail
  rw [<- f0] at H5 Z ⊢;generalize w3.setCell ⟨pc,1,W⟩ (Y .i64 (e:Int))=w4 at *
  have jN:∀ (O:kg) (wr:N),ag wr (ew t m O*(pt pc (X #[Y .i64 (id:Int),Y .i64 (e:Int)] 78 (0,0))*(pt nc (X #[R va z vc] 37 (0,0))*(D*(kP t s'*F)))))->wr.cell? ⟨t.f,1,W⟩=V (.map (V m))/\wr.cell? ⟨pc,0,W⟩=V (Y .i64 (id:Int))/\wr.cell? ⟨pc,1,W⟩=V (Y .i64 (e:Int)):=fun O wr M=>
   ⟨nr M,M.ah.cell 0,M.ah.cell 1⟩
  have h6:=H5.out.to (by ac_rfl:_=ew t m O*(pt pc (X #[Y .i64 (id:Int),Y .i64 (e:Int)] 78 (0,0))*(pt nc (X #[R va z vc] 37 (0,0))*(D*(kP t s'*F)))));obtain ⟨e1,e2,e3⟩:=jN _ _ h6;obtain ⟨w5,s0,h7,d7,ce⟩:=CF h6.drew fd (id,e);obtain ⟨f1,f2,f3⟩:=jN _ _ h7;have e0:=ae (d0.out w5 (Z.out.drew.trans d7) ((h7.to (by unfold dH ew;ac_rfl:_=(pt pc (X #[Y .i64 (id:Int),Y .i64 (e:Int)] 78 (0,0))*pt nc (X #[R va z vc] 37 (0,0)))*(dH t s' m (bq O fd (id,e))*(D*F)))).right));dsimp only at s0;clear jN h6 h7 d7 ce Z H5 d0 t0 p1 g1 f0 q0
  go_region_held3 (fun w'=>w'.cell? ⟨t.f,1,W⟩=V (.map (V m))/\w'.cell? ⟨pc,0,W⟩=V (Y .i64 (id:Int))/\w'.cell? ⟨pc,1,W⟩=V (Y .i64 (e:Int))) (go_keep) (fail)
  go_wp2_with fail
  exact e0.out
 .have i:=g.elim (fun h=>h.2) (fun h=>absurd h.1 hc)
  have e0:=ae (u.out _ _ ⟨c,y,Q,s',H,rfl,S.out,.inl ⟨hc,i,(C.to (by ac_rfl:_=(dj nc (R va l.length vc)*cJ pc (id,at'))*(dH t s' m O*(D*F)))).right⟩⟩);clear C u g i H S c0
  go_wp2_with fail
  exact e0.out
end
end Go.Proofs.Cl
namespace Go.SL
def gG (T:Tr) (p:List UInt8) (a c:Int):Int:=if 0<=a/\0<=c/\c<=4096 then (if (bX T p).1≠0 then (bX T p).1 else match T (bX T p).2 with
 | some (.file _)=>0
 | _=>8) else 1
def mB (T:Tr) (p:List UInt8) (a c:Int):List UInt8:=match T (bX T p).2 with
 | some (.file f)=>f.sub a.toNat c.toNat
 | _=>[]
end Go.SL
namespace Go.Proofs.Cl
open Go.RowKit Go.SL Go.Proofs.Nn Go.Proofs.Ba Go.Proofs.Su Go.Proofs.Fs
attribute [local go_sem] Oper.semAt_some
section
variable {n:Nat} {x:Fx n} {b v pc ac nc rc k:Nat} {T:Tr} {w:N} {F:ai} {p:List UInt8} {a c:Int}
theorem JI (ht:Tidy n T) (c0:gG T p a c=0) (k0:ag w (vA x b v T k*(aB pc p*(aH ac a*(aH nc c*(dj rc (R W 0 0)*F)))))) :
  Calls U 54 #[ay v,ay pc,ay ac,ay nc,ay rc] w (Gd (gG T p a c) (vA x b v T k*(aB pc p*(aH ac a*(aH nc c*(uC rc (mB T p a c)*F))))) (vA x b v T k*(aB pc p*(aH ac a*(aH nc c*(dj rc (R W 0 0)*F))))) w):=by
 refine aJ fun x0 Z=>?_;have cp:w.cell? ⟨pc,0,W⟩=V (I (str p)):=k0.ah.cell 0;have l0:=ae k0;have HT:=ae ht
 have s0:Hid (∀ e,e≠0->e=gG T p a c->∀ (w':N),aj w w'->ag w' (vA x b v T k*(aB pc p*(aH ac a*(aH nc c*(dj rc (R W 0 0)*F)))))->x0 (.panicked (me e)) w'):=fun e S he w' d y=>
  Z.out _ _ ⟨d,.inr ⟨by rw [<- he];exact S,by rw [he],y⟩⟩
 have o0:=ae nf;have F0:=ae oT;clear k0
 cases y:aX p with
 | none=>
  exact absurd ((by unfold gG;rw [oU y];split <;> rfl:(1:Int)=gG T p a c).trans c0) (by decide)
 | some h=>
  obtain ⟨G0,hl⟩:=dq y;have q0:=e7 (T:=T) y;have hk:=ae (dP (w:=w) y);have i:=fun h0=>ht.walk h ht.root.choose_spec h0;have HL:=ae hl;have i0:=ae q0;have HY:=ae i;clear ht y hl G0 q0 i
  by_cases hr:0<=a/\0<=c/\c<=4096
  .have M:=ae (show gG T p a c=if (aT T 1 h).1≠0 then (aT T 1 h).1 else match T (aT T 1 h).2 with|some (.file _)=>0|_=>8 by unfold gG;rw [if_pos hr,i0.out])
   have b0:=ae (show mB T p a c=match T (aT T 1 h).2 with|some (.file f)=>f.sub a.toNat c.toNat|_=>[] by unfold mB;rw [i0.out]);obtain ⟨r1,r2,r3⟩:=hr
   go_enter func54,ntmps54
   go_wp2_with fail
   refine hk.out.mono ?_;rintro e w2 ⟨f0,rfl,d2,h2⟩;have g:=(h2.under l0.out)
   have a0:w2.cell? ⟨ac,0,W⟩=V (Y .i64 a):=g.aD.cell 0;have n0:w2.cell? ⟨nc,0,W⟩=V (Y .i64 c):=g.aI.cell 0;have hw:=ae (fL HT.out HL.out iD g.ah);generalize aT T 1 h=pw at *;obtain ⟨wc,id⟩:=pw;dsimp only at hw HY M b0;clear cp hk h2 g HL i0
   go_wp2_with fail
   refine (o0.out _).mono ?_;rintro e R0 ⟨rfl,rfl⟩;clear o0 F0
   go_wp2_with fail
   refine hw.out.mono ?_;rintro e w3 ⟨he,d3,g⟩;clear hw;have D3:=ae (d2.trans d3);clear d2 d3;rcases he with ⟨rfl,rfl⟩|⟨S,rfl⟩
   .obtain ⟨r0,i⟩:=HY.out rfl
    have m0:=ae (mM i g);clear g HY a0 n0
    go_wp2_with fail
    refine m0.out.mono ?_;rintro e w5 hq;rcases hq with ⟨d0,z,rfl,H0,K0,L0,N0,d5,u⟩|⟨d0,rfl,d5,u⟩
    .cases r0 with
     | dir u0=>exact absurd d0 (by show ¬ (2:Int)=1;decide)
     | file f=>
      rw [i] at M b0;have e0:gG T p a c=0:=M.out;have p0:mB T p a c=f.sub a.toNat c.toNat:=b0.out;rw [e0,p0] at Z;obtain ⟨C,rfl⟩:∃ m:Nat,a=(m:Int):=⟨a.toNat,by omega⟩
      obtain ⟨H,rfl⟩:∃ m:Nat,c=(m:Int):=⟨c.toNat,by omega⟩
      simp only [R1] at Z;have hb:=ae (tD i C H u);have Q:=u.to (by ac_rfl:_=aH ac (C:Int)*(aH nc (H:Int)*(vA x b v T k*(eJ f0 h*(aB pc p*(dj rc (R W 0 0)*F))))));have a0:w5.cell? ⟨ac,0,W⟩=V (Y .i64 (C:Int)):=Q.cell 0;have n0:w5.cell? ⟨nc,0,W⟩=V (Y .i64 (H:Int)):=Q.ah.cell 0;have D5:=ae (D3.out.trans d5);clear i M b0 e0 p0 s0 u Q m0 H0 K0 L0 N0 d5 D3 d0 l0;generalize f.sub C H=l at *
      go_wp2_with fail
      refine hb.out.mono ?_;rintro e w6 ⟨u2,rfl,d6,Q⟩;have g:=Q.to (by unfold dj;ac_rfl:_=pt rc (X #[R W 0 0] 37 (0,0))*(bs 5 u2 l*(vA x b v T k*(aB pc p*(aH ac (C:Int)*(aH nc (H:Int)*(eJ f0 h*F)))))));have t0:w6.cell? ⟨rc,0,W⟩=V (R W 0 0):=g.cell 0;have g0:=g.frozen 0;have h4:=g.setCell 0 u2;simp only [A1,E1] at h4;obtain ⟨ua,uc,rfl⟩:=aC h4.ah;have u:ag (w6.setCell ⟨rc,0,W⟩ (R ua l.length uc)) (uC rc l*(vA x b v T k*(aB pc p*(aH ac (C:Int)*(aH nc (H:Int)*(eJ f0 h*F)))))):=oE.2 ⟨_,h4.to (by unfold dj;ac_rfl)⟩;have D0:=ae (Z.out _ _ ⟨(D5.out.trans d6).setCell ⟨rc,0,W⟩ (R ua l.length uc),.inl ⟨rfl,rfl,(u.to (by ac_rfl:_=eJ f0 h*(vA x b v T k*(aB pc p*(aH ac (C:Int)*(aH nc (H:Int)*(uC rc l*F))))))).right⟩⟩);clear g h4 u Q Z hb d6 D5
      go_wp2_with fail
      go_end0
      exact D0.out
    .have e0:(8:Int)=gG T p a c:=by
      rw [M.out,if_neg (by decide),i]
      cases r0 with
      | dir u0=>rfl
      | file f=>exact absurd (HT.out.files _ _ i) d0
     exact absurd (e0.trans c0) (by decide)
   .exact absurd ((by rw [M.out,if_pos S]:gG T p a c=_).symm.trans c0) S
  .have S:(1:Int)=gG T p a c:=by unfold gG;rw [if_neg hr]
   exact absurd (S.trans c0) (by decide)
end
section
variable {t:Pl} {q:Dk t.n} {s s':Ds} {T:Tr} {k m:Nat} {O:kg} {w:N} {F:ai} {p:List UInt8} {a c:Int}
def yj (t:Pl) (m:Nat) (s:Ds) (O:kg) (c:Int) (l:List UInt8) (F:ai) (w:N) (e:Ending) (w':N):Prop:=
 ∃ s',aj w w'/\s.Rd s'/\((c≠0/\e = L (G #[R W 0 0,Y .i64 c])/\ag w' (dH t s' m O*F)) \/
  (c=0/\∃ u,e = L (G #[u,Y .i64 0])/\ag w' (bs 5 u l*(dH t s' m O*F))))
theorem Kh (H:mF t q s T k) (hB:s.B<=1000000) (c0:gG T p a c=0) (b0:ag w (dH t s m O*F)) :
  Calls U 21 #[ay t.f,I (str p),Y .i64 a,Y .i64 c] w (yj t m s O (gG T p a c) (mB T p a c) F w):=by
 refine aJ fun f0 g=>?_;have y:=((((b0.alloc (X #[I (str p)] 9 (0,0))).alloc (X #[Y .i64 a] 3 (0,0))).alloc (X #[Y .i64 c] 3 (0,0))).alloc (X #[R W 0 0] 37 (0,0)))
 simp only [K1] at y;have dA:=ae (((((aj.refl w).alloc (X #[I (str p)] 9 (0,0))).alloc (X #[Y .i64 a] 3 (0,0))).alloc (X #[Y .i64 c] 3 (0,0))).alloc (X #[R W 0 0] 37 (0,0)))
 have hd:=ae fun (pc ac nc rc:Nat) (w':N) (h':ag w' (dH t s m O*((aB pc p*(aH ac a*(aH nc c*dj rc (R W 0 0))))*F)))=>
  iW H hB 54 #[ay pc,ay ac,ay nc,ay rc] (aB pc p*(aH ac a*(aH nc c*dj rc (R W 0 0)))) (gG T p a c) (aB pc p*(aH ac a*(aH nc c*uC rc (mB T p a c)))) (aB pc p*(aH ac a*(aH nc c*dj rc (R W 0 0)))) (enters func54 (by kernel_rfl) rfl)
   (fun x v b w1 d0 hw=>(JI (x:=x) (b:=b) (v:=v) (k:=k) (pc:=pc) (ac:=ac) (nc:=nc) (rc:=rc) (F:=ew t m O*d0) (p:=p) H.ty c0 (hw.to (by ac_rfl))).mono fun e0 w' hq=>by simpa only [ax] using hq) h'
 have Z:=ae y;clear c0;unfold yj at g;clear b0 y hB H;generalize gG T p a c=cc at *;generalize mB T p a c=l at *
 go_enter func21,ntmps21
 go_wp2_with fail
 generalize (((w.alloc (X #[I (str p)] 9 (0,0))).alloc (X #[Y .i64 a] 3 (0,0))).alloc (X #[Y .i64 c] 3 (0,0))).alloc (X #[R W 0 0] 37 (0,0))=w1 at *;generalize w.heap.size=pc at *;refine (hd.out pc (pc+1) (pc+1+1) (pc+1+1+1) _ (Z.out.to (by unfold aB aH dj;ac_rfl))).mono ?_;rintro e0 w2 ⟨s',rfl,d2,u,e⟩;have h:=ae (dA.out.trans d2);clear hd dA Z d2
 by_cases C:cc=0
 .subst C
  rw [if_pos rfl] at e;obtain ⟨g0,i⟩:=(oE (a:=pc+1+1+1)).1 (e.to (by ac_rfl:_=uC (pc+1+1+1) l*(dH t s' m O*(aB pc p*(aH (pc+1) a*(aH (pc+1+1) c*F))))));obtain ⟨Q,S,rfl⟩:=aC i;have t0:w2.cell? ⟨pc+1+1+1,0,W⟩=V (R Q l.length S):=i.ah.cell 0;have M:=ae (g.out _ _ ⟨s',h.out,u,.inr ⟨rfl,_,rfl,(i.to (by ac_rfl:_=(dj (pc+1+1+1) (R Q l.length S)*(aB pc p*(aH (pc+1) a*aH (pc+1+1) c)))*(bs 5 (R Q l.length S) l*(dH t s' m O*F)))).right⟩⟩);clear e i g u h
  go_wp2_with fail
  exact M.out
 .rw [if_neg C] at e
  have M:=ae (g.out _ _ ⟨s',h.out,u,.inl ⟨C,rfl,(e.to (by ac_rfl:_=(aB pc p*(aH (pc+1) a*(aH (pc+1+1) c*dj (pc+1+1+1) (R W 0 0))))*(dH t s' m O*F))).right⟩⟩);clear e g u h
  go_wp2_with fail
  exact M.out
end
end Go.Proofs.Cl

/- Steps. -/
import Derived.Test.YtacliaemfegopaaGreatDoorKP39
import Derived.Test.YtacliaemfegopaaGreatDoorKP30
set_option linter.unusedVariables false
set_option linter.unusedSimpArgs false
set_option maxRecDepth 100000
set_option maxHeartbeats 40000000
open Go.Proofs Go.SL
namespace Go.Cl
open Go.RowKit Go.SL Go.Nn Go.Ba Go.Su Go.Fs
theorem wY (s j k : Nat) (w : World) (h : w.cell? ⟨s, 0, none⟩ = some (ax j)) : (method (k + 1) 61 (ax s) "Read").run Tryz.prog w = .ok (314, ax j) w := by
 have e : (method (k + 1) 61 (ax s) "Read").run Tryz.prog w = (do let v ← loadVar 123 ⟨s, 0, none⟩; pure (314, v) : Sem (FuncId × Value)).run Tryz.prog w := by kernel_rfl
 rw [e];simp [go_sem,h]
theorem B7 (args:Array Value) (w:World):(callFunc 314 args).run Tryz.prog w = .ok (.enter 314 args) w:=by kernel_rfl
structure Pl where
 f:Nat
 s:Nat
 j:Nat
 d:Nat
 n:Nat
 P:Nat
def xG (t:Pl) (Sd:Hp):Cx (Jr × ay):=⟨61,ax t.s,314,ax t.j,fun w=>w.cell? ⟨t.s,0,none⟩=some (ax t.j),OB,Ms t.s t.j t.d t.n t.P Sd⟩
section
variable {w w':World} {s j d n P:Nat} {Sd:Hp} {x:Jr × ay} {F:ah}
theorem mu (h:Sat w (Ms s j d n P Sd x*F)):(x.1.Ok∧x.2.Ok)∧Sat w (ei s j d n P x.1*(aK Sd d x.2*(aj Sd*F))):=by
 obtain ⟨h1,h2⟩:=Sat.ak.1 (h.to (aw _ _ _));exact ⟨h1,h2.to (by ac_rfl)⟩
theorem yD (h1:x.1.Ok) (h2:x.2.Ok) (h:Sat w (ei s j d n P x.1*(aK Sd d x.2*(aj Sd*F)))):Sat w (Ms s j d n P Sd x*F):=
 (Sat.ak.2 ⟨⟨h1,h2⟩,h.to (by ac_rfl:_=(ei s j d n P x.1*(aK Sd d x.2*aj Sd))*F)⟩:Sat w (fact _*_)).to (aw _ _ _).symm
theorem p9 {J:Jr} (h:Sat w (ei s j d n P J*F)):w.cell? ⟨s,0,none⟩=some (ax j):=by
 have h2:Sat w (pt s (.cells #[ax j,.int .i64 (n:Int),.int .i64 (P:Int)] 125 (0,0))*(nN j d J*F)):=h.to (by unfold ei;ac_rfl);exact h2.cell 0
end
theorem GH (t:Pl) (Sd:Hp):(xG t Sd).Ok:=by
 refine ⟨fun x F w h=>?_,fun k w h=>wY t.s t.j k w h,fun args w=>B7 args w,fun x id F w h=>?_,fun x id _=>?_⟩
 ·exact p9 (mu (F:=F) h).2
 ·obtain ⟨J,D⟩:=x
  obtain ⟨⟨h1,h2⟩,h3⟩:=mu (F:=F) h;have h1:=h1;have h2:=h2;have:=EJ w Sd t.j t.d J D id (pt t.s (.cells #[ax t.j,.int .i64 (t.n:Int),.int .i64 (t.P:Int)] 125 (0,0))*F) (h3.to (by unfold ei;ac_rfl)) h1 h2;refine this.mono ?_;rintro e w' ⟨dv,rfl,h4,d4⟩;obtain ⟨o1,o2⟩:=Ib h1 h2 id;refine ⟨dv,rfl,?_,d4⟩;have h5:Sat w' (ei t.s t.j t.d t.n t.P (J.read D id).2.1*(aK Sd t.d (J.read D id).2.2*(aj Sd*(nM 5 (J.read D id).1 dv*F)))):=h4.to (by unfold ei;ac_rfl);exact (yD (x:=((J.read D id).2.1,(J.read D id).2.2)) o1 o2 h5).to (by ac_rfl:_=nM 5 (J.read D id).1 dv*(Ms t.s t.j t.d t.n t.P Sd ((J.read D id).2.1,(J.read D id).2.2)*F))
 ·show (Jr.read x.1 x.2 id).1.2.length≤1000000
  have:=oQ x.1 x.2 id;omega
abbrev uy:Hp:=fun _=>none
def gU (t:Pl) (mv:Value):Obj:=.cells #[ax t.s,mv] 66 (0,0)
theorem uI {P:Program} {w:World} {t kt e:TypeId} (ht:P.underlying t=some (.map kt e)) (ty:TypeId) :
  (Builtin.len_ #[t] ty #[.map none]).run P w = .ok (.int .i64 0) w:=by
 simp [Builtin.len_,run_underlying ht,goInt]
theorem qR {w:World} {S:Hp} {b:Nat} {rd:Value} {err:Int} {W D:CB} {F:ah} (h:Sat w (az 176 5 S b rd err W D*(aj S*F))):(W.map Prod.fst).Nodup:=by
 obtain ⟨x,hx⟩:=h.dH;obtain ⟨Z,z1,z2,_⟩:=(hx.to (by ac_rfl:_=aJ 5 S x.wv x.ws W*(aj S*(pt b (.cells (x.cells rd err) 176 (0,0))*(aJ 5 S x.tv x.ts D*(eP x.av*F)))))).kr;have e:(W.map Prod.fst).Perm (Z.map Prod.fst):=by grind
 exact e.nodup_iff.2 z2
theorem MF (w:World) (S:Hp) (b:Nat) (rd:Value) (err:Int) (W D:CB) (F:ah)
  (h:Sat w (az 176 5 S b rd err W D*(aj S*F))) :
  Calls Tryz.prog 73 #[.pointer (some ⟨b,0,none⟩)] w fun e w'=>e = .returned (.int .i64 W.length)∧w=w':=by
 obtain ⟨x,hx⟩:=h.dH;have hc2:w.cell? ⟨b,2,none⟩=some x.wv:=hx.cell 2
 have hln:(Builtin.len_ #[172] 3 #[x.wv]).run Tryz.prog w = .ok (.int .i64 W.length) w:=by
  obtain ⟨Z,z1,z2,z3,hrd,_⟩:=(hx.to (by ac_rfl:_=aJ 5 S x.wv x.ws W*(aj S*(pt b (.cells (x.cells rd err) 176 (0,0))*(aJ 5 S x.tv x.ts D*(eP x.av*F)))))).kr;have hlen:W.length=Z.length:=by have:=z1.length_eq;simpa using this.symm
  rcases hrd with ⟨hv,hz⟩|⟨m,o,hv,hb,hm⟩
  ·have:Z=[]:=by simpa using hz
   rw [hlen,hv,this,uI Tryz.underlying172];rfl
  ·rw [hlen,hv,Ag hb hm Tryz.underlying172];simp
 go_enter Tryz.func73,Tryz.ntmps73
 go_wp2
 go_ret
 exact ⟨rfl,rfl⟩
theorem yh {P:Program} {fn:Func} {R:Ending→World→Prop} {t t':Array Value} (he:∀ w,(results fn t).run P w=(results fn t').run P w):∀ (ds:List Deferred) (u:FrameMode) (w:World),Leaves P fn t R ds u w→Leaves P fn t' R ds u w:=by
 intro ds
 induction ds with
 | nil=>
  intro u w h
  cases u with
  | run=>exact h
  | returning=>
   obtain ⟨v,hr,hR⟩:=h;exact ⟨v,(he w).symm.trans hr,hR⟩
  | panicking c=>exact h
 | cons d ds ih=>
  intro u w h;obtain ⟨hrun,fv,cap,f,args,htar,hinv,hcall⟩:=h;refine ⟨hrun,fv,cap,f,args,htar,hinv,hcall.mono fun e u' w' hq=>?_⟩
  cases e with
  | returned v=>exact ih _ _ hq
  | panicked c=>exact ih _ _ hq
  | outgrown=>exact hq
theorem Lf {R:Ending→World→Prop} {c:List PanicEntry} {a:Act} {w:World} {k:Nat} {v:Value} (hk:k≠4) (h:bodyPostD Tryz.prog Tryz.f29 R (.panic c) (a.put (some k) v) w):bodyPostD Tryz.prog Tryz.f29 R (.panic c) a w:=by
 refine yh (fun w=>?_) _ _ _ h;simp [results,Tryz.results29,Act.put,Array.getElem?_setIfInBounds,hk]
theorem AN {ops:Array Oper} {md:Region.Mode} {S:World→Prop} {K1:Exit→Act→World→Prop} (i:Nat) {oi:Oper} {v:Value} {fuel:Nat} {listed:Array Bool} {a:Act} {w:World} {q:Prop} (h:q)
  (hi:ops[i]?=some oi:=by rfl) (hs:Region.noSelect ops=true:=by kernel_rfl) (hf:Region.free md ops listed i=true:=by kernel_rfl) (hr:(Region.ready md ops listed).contains i=true:=by kernel_rfl)
  (hQ:∀ c a w,K1 (.panic c) (a.put oi.dst v) w→K1 (.panic c) a w:=by exact fun _ _ _ h=>Lf (by decide) h) (hw:Region.wanted oi (yielded ops a.tmps)=true:=by kernel_rfl)
  (hv:∀ w,S w→(execOp a.eval oi).run Tryz.prog w = .ok (.value v) w:=by intro w hSw;(try dsimp only at hSw);go_simp;try with_reducible rfl) (hS:S w:=by assumption)
  (hk:q→wpAnyH Tryz.prog md ops K1 S fuel (listed.setIfInBounds i true) (a.put oi.dst v) w:=by intro hx;(try simp only [Go.SL.tz,Go.Act.put]);exact hx):wpAnyH Tryz.prog md ops K1 S (fuel+1) listed a w:=
 wpAnyH_take hi hs hf hr hQ (.inl ⟨hw,hv⟩) hS (hk h)
theorem FA {n:Int} {Z:List Wr} (h:Batch n (bP Z)):Fm n Z:=by
 have hl:(bP Z).length=Z.length:=by unfold bP;rw [List.length_map]
 refine ⟨by rw [← hl];exact h.n0,by rw [← hl];exact h.n1,fun k hk=>?_⟩;have hk':k<(bP Z).length:=by omega
 have hmem:=List.getElem_mem hk';have e1:(Z.getD k Wr.nil).1=(bP Z)[k].1:=by rw [List.getD,List.getElem?_eq_getElem hk];simp [bP]
 have e2:(Z.getD k Wr.nil).2.2=(bP Z)[k].2:=by rw [List.getD,List.getElem?_eq_getElem hk];simp [bP]
 have hid:=h.id _ hmem;refine ⟨by rw [e1];exact hid.1,by rw [e1];exact hid.2,by rw [e2];exact h.b480 _ hmem,?_⟩;rw [e1];intro hx;obtain ⟨z,hz,hz2⟩:=List.mem_map.1 hx;rw [List.mem_take_iff_getElem] at hz;obtain ⟨i,hi,rfl⟩:=hz;have e3:(Z[i]'(by omega)).1=((bP Z)[i]'(by omega)).1:=by simp [bP]
 have hnd:=h.nd;rw [List.Nodup,List.pairwise_iff_getElem] at hnd;have:=hnd i k (by rw [List.length_map];omega) (by rw [List.length_map];exact hk') (by omega);apply this;rw [List.getElem_map,List.getElem_map,← hz2,e3]
def QM (t:Pl) (J:Jr) (D:ay) (H:ah) (w:World) (e:Ending) (w':World):Prop:=
 ∃ S,e = .returned (.int .i64 0)∧ai w w'∧Sat w' (ei t.s t.j t.d t.n t.P J*(aK S t.d D*(aj S*H)))
theorem yH (t:Pl) (w:World) (S S2:Hp) (v:Value) (L:CB) (J J2:Jr) (D D2:ay) (has:Has) (H:ah) (hI:fg J D has) (hb:Batch J.n L) (hjc:eu J D true L=(0,J2,D2))
  (h:Sat w (gi 188 5 S2 v L*(ei t.s t.j t.d t.n t.P J*(aK S t.d D*(aj S*(aj S2*H)))))) :
  Calls Tryz.prog 74 #[ax t.j,v] w (QM t J2 D2 H w):=by
 obtain ⟨Z,hZ,hV,h1⟩:=h.kW;have hZl:Z.length=L.length:=by rw [← hZ,List.length_map]
 obtain ⟨h2,e1,e2⟩:=Sat.zi (h1.to (by ac_rfl:_=aj S*(aj S2*(aK S t.d D*(ei t.s t.j t.d t.n t.P J*(sl 188 2 v L.length (oj Z)*H))))));have h3:=(h2.to (by ac_rfl:_=aK S t.d D*(aj (join S S2)*(ei t.s t.j t.d t.n t.P J*(sl 188 2 v L.length (oj Z)*H))))).fh (vY e1)
 have h4:Sat w (nN t.j t.d J*(aK (join S S2) t.d D*(aj (join S S2)*(sl 188 2 v Z.length (bB Z)*(pt t.s (.cells #[ax t.j,.int .i64 (t.n:Int),.int .i64 (t.P:Int)] 125 (0,0))*H))))):=by
  rw [hZl];exact h3.to (by unfold ei;show _*(_*(_*(sl _ 2 v _ (oj Z)*H)))=_*(_*(_*(sl _ 2 v _ (oj Z)*_)));ac_rfl)
 have hp:bP Z=L:=hZ
 have hr:Reads (join S S2) v Z (sl 188 2 v Z.length (bB Z)*(pt t.s (.cells #[ax t.j,.int .i64 (t.n:Int),.int .i64 (t.P:Int)] 125 (0,0))*H)):=by
  intro S' X w' hE hs;refine ⟨vq (hs.to (by ac_rfl:_=sl 188 2 v Z.length (bB Z)*(X*(aj S'*(pt t.s (.cells #[ax t.j,.int .i64 (t.n:Int),.int .i64 (t.P:Int)] 125 (0,0))*H))))),fun z hz=>?_⟩;exact ((hV z hz).mono (e2.trans hE)).rd hs.ag
 have:=y4 w (join S S2) t.j t.d J D _ v Z h4 hI.ok hI.nums hI.dok (by rw [hZl];have:=hb.n1;omega) hr true ⟨fun _=>FA (by rw [hp];exact hb),fun _=>rfl⟩;rw [hp,hjc] at this;refine this.mono ?_;rintro e w' ⟨S3,-,rfl,h5,d5⟩;refine ⟨S3,rfl,d5,?_⟩;exact (h5.to (by unfold ei;ac_rfl:_=sl 188 2 v Z.length (bB Z)*(ei t.s t.j t.d t.n t.P J2*(aK S3 t.d D2*(aj S3*H))))).right
def Qi (n P:Nat) (w:World) (e:Ending) (w':World):Prop:=e = .returned (.agg #[.int .i64 (n:Int),.int .i64 (P:Int)])∧Sat w' (whole w)∧ai w w'
def Rb (t:Pl) (S:Hp) (mv:Value) (v b:Nat) (Pj:Int→gW (Jr × ay)→ah→Prop) (H:ah) (w1:World) (e:Ending) (w':World):Prop:=
 ∃ c S' M G',Pj c M G'∧((c=0∧e = .returned (.tuple #[]))∨(c≠0∧e = .panicked (mf c)))∧ai w1 w' ∧
  Sat w' (pt t.f (gU t mv)*(pt v (bV b t.n)*(cC (xG t S) S' b M*(aj S'*(G'*H)))))
def Oy (t:Pl) (S:Hp) (mv:Value) (J:Jr) (D:ay) (jf:FuncId) (caps:Array Value) (G:ah) (Pj:Int→gW (Jr × ay)→ah→Prop):Prop:=
 ∀ (v b:Nat) (w1:World) (H:ah),Sat w1 (pt t.f (gU t mv)*(pt v (bV b t.n)*(cC (xG t S) uy b ⟨0,[],[],(J,D)⟩*(aj uy*(G*H)))))→Calls Tryz.prog jf (#[ax v]++caps) w1 (Rb t S mv v b Pj H w1)
def Rr (t:Pl) (Pj:Int→gW (Jr × ay)→ah→Prop):Prop:=
 ∀ c M G',Pj c M G'→c=0→(M.W.map Prod.fst).Nodup→M.W≠[]→∃ has J' D',fg M.s.1 M.s.2 has∧M.s.1.n=(t.n:Int)∧Batch (t.n:Int) (gH M.W)∧eu M.s.1 M.s.2 true (gH M.W)=(0,J',D')
def RE (t:Pl) (mv:Value) (Pj:Int→gW (Jr × ay)→ah→Prop) (F:ah) (w:World) (e:Ending) (w':World):Prop:=
 ∃ c M G' S' J' D',Pj c M G'∧(M.W.map Prod.fst).Nodup∧e = .returned (.int .i64 c)∧ai w w' ∧
  Sat w' (pt t.f (gU t mv)*(ei t.s t.j t.d t.n t.P J'*(aK S' t.d D'*(aj S'*(G'*F))))) ∧
  (c=0→M.W≠[]→eu M.s.1 M.s.2 true (gH M.W)=(0,J',D'))∧((c≠0∨M.W=[])→M.s=(J',D'))
theorem Bs (t:Pl) (w:World) (S:Hp) (J:Jr) (D:ay) (mv:Value) (jf:FuncId) (caps:Array Value) (G F:ah) (Pj:Int→gW (Jr × ay)→ah→Prop) (hJ:J.Ok) (hD:D.Ok)
  (hcf:∀ (args:Array Value) (w:World),(callFunc jf args).run Tryz.prog w = .ok (.enter jf args) w) (hj:Oy t S mv J D jf caps G Pj) (hm:Rr t Pj)
  (h:Sat w (pt t.f (gU t mv)*(ei t.s t.j t.d t.n t.P J*(aK S t.d D*(aj S*(G*F)))))) :
  Calls Tryz.prog 29 #[ax t.f,.func (.func jf) #[] caps] w (RE t mv Pj F w):=by
 refine aI fun Q HQ=>?_;have Hj:=ae hj;have Hm:=ae hm;have HJ:=ae hJ;have HD:=ae hD;have cf:w.cell? ⟨t.f,0,none⟩=some (ax t.s):=h.cell 0;have hlt:t.f<w.heap.size:=h.lt;clear hj hm hJ hD
 go_enter_defers Tryz.func29,Tryz.ntmps29
 have H1:=h.alloc (.cells #[.int .i64 0] 28 (0,0));have D1:=(ai.refl w).alloc (.cells #[.int .i64 0] 28 (0,0))
 go_wp2_with fail
 generalize w.alloc (.cells #[.int .i64 0] 28 (0,0))=w3 at *;generalize w.heap.size=eb at *;obtain ⟨BIG,hBIG⟩:∃ X,X=pt eb (.cells #[.int .i64 0] 28 (0,0))*(pt t.f (gU t mv)*(ei t.s t.j t.d t.n t.P J*(aK S t.d D*(aj S*(G*F))))):=⟨_,rfl⟩
 have hF:∀ w' X,Sat w' (X*BIG)→w'.cell? ⟨t.f,0,none⟩=some (ax t.s):=fun w' X hx=>by
  rw [hBIG] at hx;exact hx.aq.cell 0
 have hG:∀ w' X,Sat w' (X*BIG)→Calls Tryz.prog 72 #[ax t.s] w' (Qi t.n t.P w'):=fun w' X hx=>by
  rw [hBIG] at hx;exact Iu w' t.s t.j t.d t.n t.P J _ (hx.to (by ac_rfl:_=ei t.s t.j t.d t.n t.P J*(X*(pt eb (.cells #[.int .i64 0] 28 (0,0))*(pt t.f (gU t mv)*(aK S t.d D*(aj S*(G*F))))))))
 rw [← hBIG] at H1;have c0:=hF w3 emp (H1.to (cU _).symm);have HF:=ae hF;have HG:=ae hG;have hfld:∀ w,(Instr.field 119 (.agg #[.int .i64 (t.n:Int),.int .i64 (t.P:Int)]) 0).run Tryz.prog w = .ok (.int .i64 (t.n:Int)) w:=fun w=>by kernel_rfl
 have H3:=ae H1;have D3:=ae D1;have HB:=ae hBIG;clear H1 D1 hF hG hBIG cf h hlt
 go_cut [5] from 17 to 33 (fun u5 wx=>∃ v b,u5=ax v∧Sat wx (pt v (bV b t.n)*(az 176 5 uy b (.iface 61 (ax t.s)) 0 [] []*BIG))∧ai w wx)
 case first=>
  refine wp_region_held_drew (S:=(fun w'=>w'.cell? ⟨t.f,0,none⟩=some (ax t.s))) (by kernel_rfl) ?_ (fun hHeld=>?_)
  ·first|exact c0|exact c1|exact c2|exact bH _ _ _ _ c1|exact bH _ _ _ _ c2
  refine AN 0 ?_;refine AN 1 ?_;refine AN 2 ?_;refine AN 3 ?_;refine AN 4 ?_;refine AN 5 ?_;refine AN 7 ?_;refine AN 8 ?_;refine AN 9 ?_;refine AN 10 ?_;refine AN 11 ?_;refine wpAnyH_ready (rs:=[6]) (by kernel_rfl) (by simp) ?_;refine AllReadyH.cons rfl (fun K hK=>?_) AllReadyH.nil
  go_simp
  go_wp2_with (go_at_call 71;go_loud ((with_reducible refine (Ba.xO _ 61 (ax t.s)).mono ?_);rintro e w4 ⟨b,rfl,h4,d4⟩;have hn:=(h4 uy).under H3.out.drew;have c1:w4.cell? ⟨t.f,0,none⟩=some (ax t.s):=HF.out w4 _ hn))
  refine hK.out _ _ ?_ (fun hHeld=>?_)
  ·first|exact c0|exact c1|exact c2|exact bH _ _ _ _ c1|exact bH _ _ _ _ c2
  clear hK K;refine wpAnyH_ready (rs:=[12]) (by kernel_rfl) (by simp) ?_;refine AllReadyH.cons rfl (fun K hK=>?_) AllReadyH.nil
  go_simp
  go_wp2_with (go_at_call 72;go_loud ((with_reducible refine (HG.out w4 _ hn).mono ?_);rintro e w5 ⟨rfl,h5,d5⟩;have hg:=((h5.to (cU _).symm).under hn).right;have c2:w5.cell? ⟨t.f,0,none⟩=some (ax t.s):=HF.out w5 _ hg))
  refine hK.out _ _ ?_ (fun hHeld=>?_)
  ·first|exact c0|exact c1|exact c2|exact bH _ _ _ _ c1|exact bH _ _ _ _ c2
  clear hK K;refine AN 13 ?_;refine AN 14 ?_;refine AN 15 ?_;refine wpAnyH_ready (rs:=[16]) (by kernel_rfl) (by simp) ?_;refine AllReadyH.cons rfl (fun K hK=>?_) AllReadyH.nil
  go_simp
  refine hK.out _ _ ?_ (fun hHeld=>?_)
  ·first|exact c0|exact c1|exact c2|exact bH _ _ _ _ c1|exact bH _ _ _ _ c2
  clear hK K;refine AN 17 ?_;refine wpAnyH_done (by kernel_rfl) ?_ _
  go_wp2_with fail
  go_meet
  exact ⟨_,b,rfl,(hg.alloc (bV b t.n)).to (by ac_rfl),((D3.out.drew.trans d4).trans d5).alloc _⟩
 case rest=>
  clear c0 HF HG H3 D3;obtain ⟨v,b,rfl,hsat,hside⟩:=hcut;rw [HB.out] at hsat
  have hj0:Sat wc (pt t.f (gU t mv)*(pt v (bV b t.n)*(cC (xG t S) uy b ⟨0,[],[],(J,D)⟩*(aj uy*(G*(pt eb (.cells #[.int .i64 0] 28 (0,0))*F)))))):=by
   have h6:Sat wc (fact (J.Ok∧D.Ok)*_):=Sat.ak.2 ⟨⟨HJ.out,HD.out⟩,Sat.xB hsat⟩;have e:cC (xG t S) uy b ⟨0,[],[],(J,D)⟩=az 176 5 uy b (.iface 61 (ax t.s)) 0 [] []*(fact (J.Ok∧D.Ok)*(ei t.s t.j t.d t.n t.P J*(aK S t.d D*aj S))):=rfl;rw [e];exact h6.to (by show fact _*(aj uy*_)=_;ac_rfl)
  have hjb:=ae (Hj.out v b wc _ hj0);have Hside:=ae hside
  go_wp2_with fail
  refine hjb.out.mono ?_;clear hjb;rintro e w4 ⟨c,S',M,G',hP,he,d4,h4⟩;have HP:=ae hP;have D4:=ae (Hside.out.trans d4);clear hP d4 Hside;rcases he with ⟨rfl,rfl⟩|⟨hc,rfl⟩
  ·obtain ⟨err,W,Dd,J',D'⟩:=M
   have hb4:Sat w4 (az 176 5 S' b (.iface 61 (ax t.s)) err W Dd*(aj S'*(Ms t.s t.j t.d t.n t.P S (J',D')*(pt t.f (gU t mv)*(pt v (bV b t.n)*(G'*(pt eb (.cells #[.int .i64 0] 28 (0,0))*F))))))):=h4.to (by unfold cC xG Cx.rd;ac_rfl);have hnd:=qR hb4;have hln:=ae (MF w4 S' b _ err W Dd _ hb4);have c1:w4.cell? ⟨v,0,none⟩=some (ax b):=h4.ag.cell 0;obtain ⟨⟨hJ',hD'⟩,h5⟩:=mu (hb4.to (by ac_rfl:_=Ms t.s t.j t.d t.n t.P S (J',D')*(az 176 5 S' b (.iface 61 (ax t.s)) err W Dd*(aj S'*(pt t.f (gU t mv)*(pt v (bV b t.n)*(G'*(pt eb (.cells #[.int .i64 0] 28 (0,0))*F))))))));dsimp only at h5 hJ' hD';have H5:=ae h5;have Hnd:=ae hnd;clear h4 hb4 h5 hnd
   by_cases hw:W=[]
   ·subst hw
    have Hj2:=ae hJ';have Hd2:=ae hD';clear Hm hJ' hD' hcf;have h6:=H5.out.to (by ac_rfl:_=pt eb (.cells #[.int .i64 0] 28 (0,0))*((az 176 5 S' b (.iface 61 (ax t.s)) err [] Dd*(aj S'*pt v (bV b t.n)))*(pt t.f (gU t mv)*(ei t.s t.j t.d t.n t.P J'*(aK S t.d D'*(aj S*(G'*F)))))));have z0:=h6.cell 0;have f0:w4.frozen? ⟨eb,0,none⟩=false:=h6.frozen 0;have h7:=h6.setCell 0 (.int .i64 0);have Hz7:=ae (h7.cell 0);have H7:=ae h7.right.right;have D7:=ae (D4.out.setCell ⟨eb,0,none⟩ (.int .i64 0));clear h6 h7 H5
    go_wp2_with fail
    refine hln.out.mono ?_;rintro e w5 ⟨rfl,rfl⟩;clear hln
    go_wp2_with fail
    refine vR rfl Hz7.out (HQ.out _ _ ⟨0,⟨err,[],Dd,J',D'⟩,G',S,J',D',HP.out,Hnd.out,rfl,D7.out,H7.out,fun _ h=>absurd rfl h,fun _=>rfl⟩)
   ·obtain ⟨has,J2,D2,hI,hjn,hbt,hjc⟩:=Hm.out 0 _ _ HP.out rfl Hnd.out hw
    dsimp only at hI hjn hbt hjc;have hlen:(0:Int)<(W.length:Int):=by have:=List.length_pos_iff.2 hw;omega
    have HI:=ae hI;have Hbt:=ae hbt;have Hjc:=ae hjc;have Hjn:=ae hjn;have Hw:=ae hw;have hX:=H5.out.to (by ac_rfl:_=az 176 5 S' b (.iface 61 (ax t.s)) err W Dd*(aj S'*(ei t.s t.j t.d t.n t.P J'*(aK S t.d D'*(aj S*(pt t.f (gU t mv)*(pt v (bV b t.n)*(G'*(pt eb (.cells #[.int .i64 0] 28 (0,0))*F)))))))));have hW24:W.length≤1000000:=by have:=Hbt.out.n1;rw [wN] at this;omega
    have hls:=fun w' h=>JH w' S' b (.iface 61 (ax t.s)) err W Dd (ei t.s t.j t.d t.n t.P J'*(aK S t.d D'*(aj S*(pt t.f (gU t mv)*(pt v (bV b t.n)*(G'*(pt eb (.cells #[.int .i64 0] 28 (0,0))*F))))))) hW24 h;have k0:w4.cell? ⟨t.f,0,none⟩=some (ax t.s)∧w4.cell? ⟨t.s,0,none⟩=some (ax t.j)∧w4.cell? ⟨v,0,none⟩=some (ax b):=⟨(hX.dj).cell 0,p9 (hX.aq),c1⟩
    have HX:=ae hX;have Hls:=ae hls;have hkeep:∀ (w':World) (X:ah) (J3:Jr) ,Sat w' (pt t.f (gU t mv)*(ei t.s t.j t.d t.n t.P J3*(pt v (bV b t.n)*X)))→w'.cell? ⟨t.f,0,none⟩=some (ax t.s)∧w'.cell? ⟨t.s,0,none⟩=some (ax t.j)∧w'.cell? ⟨v,0,none⟩=some (ax b):=fun w' X J3 h=>⟨h.cell 0,p9 h.ag,h.aq.cell 0⟩
    have Hkeep:=ae hkeep;have hcm:=fun w' S2 vL h=>yH t w' S S2 vL (gH W) J' J2 D' D2 has (az 176 5 S2 b (.iface 61 (ax t.s)) err W Dd*(pt t.f (gU t mv)*(pt v (bV b t.n)*(G'*(pt eb (.cells #[.int .i64 0] 28 (0,0))*F))))) HI.out (by rw [Hjn.out];exact Hbt.out) Hjc.out h;have Hcm:=ae hcm;have Hck:=ae fun w=>du w
    go_wp2_with fail
    refine hln.out.mono ?_;rintro e w5 ⟨rfl,rfl⟩;clear hln
    go_wp2_with fail
    go_region_held3 (fun w'=>w'.cell? ⟨t.f,0,none⟩=some (ax t.s)∧w'.cell? ⟨t.s,0,none⟩=some (ax t.j)∧w'.cell? ⟨v,0,none⟩=some (ax b))
     (first|exact k0|exact k1|exact k2|exact k3|go_keep)
     (first
      | (go_at_call 75;refine (Hls.out _ HX.out.drew).mono ?_;rintro e w6 ⟨S2,vL,hE2,rfl,hL,dL⟩;have k1:=Hkeep.out w6 _ J' (hL.to (by ac_rfl:_=pt t.f (gU t mv)*(ei t.s t.j t.d t.n t.P J'*(pt v (bV b t.n)*(gi 188 5 S2 vL (gH W)*(az 176 5 S2 b (.iface 61 (ax t.s)) err W Dd*(aj S2*(aK S t.d D'*(aj S*(G'*(pt eb (.cells #[.int .i64 0] 28 (0,0))*F))))))))))))
      | (go_at_call 74;refine (Hcm.out _ S2 vL (hL.to (by ac_rfl))).mono ?_;rintro e w7 ⟨S3,rfl,d7,h7⟩;have k2:=Hkeep.out w7 _ J2 (h7.to (by ac_rfl:_=pt t.f (gU t mv)*(ei t.s t.j t.d t.n t.P J2*(pt v (bV b t.n)*(aK S3 t.d D2*(aj S3*(az 176 5 S2 b (.iface 61 (ax t.s)) err W Dd*(G'*(pt eb (.cells #[.int .i64 0] 28 (0,0))*F))))))))))
      | (go_at_call 34;refine (Hck.out _).mono ?_;rintro e w8 ⟨rfl,rfl⟩))
    rename_i hHeld;have h8:=h7.to (by ac_rfl:_=pt eb (.cells #[.int .i64 0] 28 (0,0))*((az 176 5 S2 b (.iface 61 (ax t.s)) err W Dd*pt v (bV b t.n))*(pt t.f (gU t mv)*(ei t.s t.j t.d t.n t.P J2*(aK S3 t.d D2*(aj S3*(G'*F)))))));have z0:=h8.cell 0;have f0:w7.frozen? ⟨eb,0,none⟩=false:=h8.frozen 0;have h9:=h8.setCell 0 (.int .i64 0);have Hz9:=ae (h9.cell 0);have H9:=ae h9.right.right;have D9:=ae (((D4.out.drew.trans dL).trans d7).setCell ⟨eb,0,none⟩ (.int .i64 0));clear h7 h8 h9 dL d7
    go_wp2_with fail
    refine vR rfl Hz9.out (HQ.out _ _ ⟨0,⟨err,W,Dd,J',D'⟩,G',S3,J2,D2,HP.out,Hnd.out,rfl,D9.out,H9.out,fun _ _=>Hjc.out,fun h=>?_⟩);rcases h with h|h
    ·exact absurd rfl h
    ·exact absurd h Hw.out
  ·have hd:(c:Int)≠0:=hc
   have h5:Sat w4 (pt eb (.cells #[.int .i64 0] 28 (0,0))*(pt t.f (gU t mv)*(pt v (bV b t.n)*(cC (xG t S) S' b M*(aj S'*(G'*F)))))):=h4.to (by ac_rfl);obtain ⟨err,W,Dd,J',D'⟩:=M;have hb4:Sat w4 (az 176 5 S' b (.iface 61 (ax t.s)) err W Dd*(aj S'*(Ms t.s t.j t.d t.n t.P S (J',D')*(pt t.f (gU t mv)*(pt v (bV b t.n)*(G'*(pt eb (.cells #[.int .i64 0] 28 (0,0))*F))))))):=h4.to (by unfold cC xG Cx.rd;ac_rfl);have hnd:=qR hb4;refine DR hc rfl h5 fun w' h6 d6=>HQ.out _ _ ⟨c,⟨err,W,Dd,J',D'⟩,G',S,J',D',HP.out,hnd,rfl,D4.out.trans d6,?_,fun h=>absurd h hc,fun _=>rfl⟩;have h7:Sat w' (Ms t.s t.j t.d t.n t.P S (J',D')*((az 176 5 S' b (.iface 61 (ax t.s)) err W Dd*(aj S'*pt v (bV b t.n)))*(pt t.f (gU t mv)*(G'*F)))):=h6.to (by unfold cC xG Cx.rd;ac_rfl);obtain ⟨-,h8⟩:=mu h7;exact (h8.to (by ac_rfl:_=(az 176 5 S' b (.iface 61 (ax t.s)) err W Dd*(aj S'*pt v (bV b t.n)))*(pt t.f (gU t mv)*(ei t.s t.j t.d t.n t.P J'*(aK S t.d D'*(aj S*(G'*F))))))).right
structure Ds where
 J:Jr
 D:ay
 has:Has
 B:Nat
structure Ds.Rd (s s':Ds):Prop where
 J:s'.J=s.J
 D:∃ r,s'.D={ s.D with cr:=r }
 has:s'.has=s.has
 B:s'.B=s.B
def Ds.Cm (n:Nat) (s s':Ds):Prop:=∃ r L,Batch (n:Int) L∧eu s.J { s.D with cr:=r } true L=(0,s'.J,s'.D)∧s'.has=lH s.has L∧s'.B=s.B+1
structure M9 {n:Nat} (q:Dk n) (s:Ds) (A:Nat→Option AF) (k:Nat):Prop where
 q:q.Q s.B s.J s.D s.has
 has:Go.SL.Has n ⟨iK s.has,iK s.has 0⟩ A k
theorem M9.rd {n:Nat} {q:Dk n} {s s':Ds} {A:Nat→Option AF} {k:Nat} (h:M9 q s A k) (r:s.Rd s'):M9 q s' A k:=by
 obtain ⟨J',D',has',B'⟩:=s';obtain ⟨r1,⟨r,r2⟩,r3,r4⟩:=r;dsimp only at r1 r2 r3 r4;subst r1;subst r2;subst r3;subst r4;exact ⟨q.cr h.q r,h.has⟩
def lA (t:Pl) (s:Ds):ah:=ex fun S=>ei t.s t.j t.d t.n t.P s.J*(aK S t.d s.D*aj S)
section
variable {t:Pl} {s:Ds} {w:World} {F:ah}
theorem wD (h:Sat w (lA t s*F)):∃ S,Sat w (ei t.s t.j t.d t.n t.P s.J*(aK S t.d s.D*(aj S*F))):=by
 obtain ⟨S,h1⟩:=Sat.au.1 h;exact ⟨S,h1.to (by ac_rfl)⟩
theorem kY {S:Hp} (h:Sat w (ei t.s t.j t.d t.n t.P s.J*(aK S t.d s.D*(aj S*F)))):Sat w (lA t s*F):=
 Sat.au.2 ⟨S,h.to (by ac_rfl)⟩
end
def Q4 (t:Pl) (mv:Value) (x:Fx t.n) (v b:Nat) (P:Int→Nat→(Nat→Option AF)→Nat→ah→Prop) (H:ah) (w1:World) (e:Ending) (w':World):Prop:=
 ∃ c A' k' G' m,P c m A' k' G'∧((c=0∧e = .returned (.tuple #[]))∨(c≠0∧e = .panicked (mf c)))∧ai w1 w'∧m≤24 ∧
  Sat w' (pt t.f (gU t mv)*(pt v (bV b t.n)*(et (x.more m) b A' k'*(G'*H))))
def QS (t:Pl) (mv:Value) (q:Dk t.n) (s:Ds) (P:Int→Nat→(Nat→Option AF)→Nat→ah→Prop) (F:ah) (w:World) (e:Ending) (w':World):Prop:=
 ∃ c m A' k' G' s',P c m A' k' G'∧e = .returned (.int .i64 c)∧ai w w'∧Sat w' (pt t.f (gU t mv)*(lA t s'*(G'*F))) ∧
  (m=0→s.Rd s')∧((c≠0∧s.Rd s')∨(c=0∧M9 q s' A' k'∧(s.Rd s'∨s.Cm t.n s')))
theorem Nq (t:Pl) (q:Dk t.n) (h4:4≤t.n) (hn:t.n≤3840) (w:World) (s:Ds) (A:Nat→Option AF) (k:Nat) (mv:Value) (jf:FuncId) (caps:Array Value) (G F:ah) (P:Int→Nat→(Nat→Option AF)→Nat→ah→Prop)
  (ha:M9 q s A k) (hB:s.B≤1000000) (hcf:∀ (args:Array Value) (w:World),(callFunc jf args).run Tryz.prog w = .ok (.enter jf args) w)
  (hj:∀ (x:Fx t.n) (v b:Nat) (w1:World) (H:ah),x.C=0→Sat w1 (pt t.f (gU t mv)*(pt v (bV b t.n)*(et x b A k*(G*H))))→Calls Tryz.prog jf (#[ax v]++caps) w1 (Q4 t mv x v b P H w1))
  (h:Sat w (pt t.f (gU t mv)*(lA t s*(G*F)))) :
  Calls Tryz.prog 29 #[ax t.f,.func (.func jf) #[] caps] w (QS t mv q s P F w):=by
 obtain ⟨J,D,has,B⟩:=s;obtain ⟨S,h1⟩:=wD (h.to (by ac_rfl:_=lA t ⟨J,D,has,B⟩*(pt t.f (gU t mv)*(G*F))));have hq:q.Q B J D has:=ha.q;have hh:Go.SL.Has t.n ⟨iK has,iK has 0⟩ A k:=ha.has;have hB:B≤1000000:=hB
 let x:Fx t.n:=⟨Jr × ay,xG t S,iK has,IJ J D,GH t S,vF hq,h4,hn,fun _=>emp,fun _ _ _ _ h=>h,0⟩
 have hcm:∀ (M:gW (Jr × ay)) A' k',pS t.n (iK has) (IJ J D) M A' k'→M.W.length≤24→(M.W.map Prod.fst).Nodup→M.W≠[] →
   ∃ r J' D',M.s=(J,{ D with cr:=r })∧q.Q B J { D with cr:=r } has∧Batch (t.n:Int) (gH M.W)∧eu J { D with cr:=r } true (gH M.W)=(0,J',D')∧q.Q (B+1) J' D' (lH has (gH M.W)):=by
  intro M A' k' hA hl hnd hne;obtain ⟨e1,r,e2⟩:=hA.good.inv;have hb:=vx hA hnd hl (List.length_pos_iff.2 hne);obtain ⟨J',D',e3,e4⟩:=q.wT (q.cr hq r) hB hb;exact ⟨r,J',D',Prod.ext e1 e2,q.cr hq r,hb,e3,e4⟩
 refine (Bs t w S J D mv jf caps G F (fun c M G'=>∃ m A' k',P c m A' k' G'∧pS t.n (iK has) (IJ J D) M A' k'∧M.W.length≤m∧m≤24) (q.inv hq).ok (q.inv hq).dok hcf ?_ ?_ (h1.to (by ac_rfl))).mono ?_
 ·intro v b w1 H hw
  have hw2:Sat w1 (Ou x b ⟨0,[],[],(J,D)⟩*(pt t.f (gU t mv)*(pt v (bV b t.n)*(G*H)))):=
   Sat.wj (x:=x) (S:=uy) (S':=uy) (fun _ _ h=>h) (hw.to (by show _=cC (xG t S) uy b ⟨0,[],[],(J,D)⟩*(aj uy*(emp*(pt t.f (gU t mv)*(pt v (bV b t.n)*(G*H)))));rw [cU];ac_rfl))
  have hw3:=Sat.th (x:=x) (A:=A) (k:=k) ⟨FM hh,Nat.zero_le _⟩ hw2;refine (hj x v b w1 H rfl (hw3.to (by ac_rfl))).mono ?_;rintro e w2 ⟨c,A',k',G',m,hP,he,d,hm,hs⟩;obtain ⟨M,hM,h2⟩:=Sat.rG (x:=x.more m) (hs.to (by ac_rfl:_=et (x.more m) b A' k'*(pt t.f (gU t mv)*(pt v (bV b t.n)*(G'*H)))));obtain ⟨S',h3⟩:=Sat.ta (x:=x.more m) h2;refine ⟨c,S',M,G',⟨m,A',k',hP,hM.1,Nat.le_trans hM.2 (by show 0+m≤m;omega),hm⟩,he,d,?_⟩;have h4:Sat w2 (cC (xG t S) S' b M*(aj S'*(emp*(pt t.f (gU t mv)*(pt v (bV b t.n)*(G'*H)))))):=h3;rw [cU] at h4;exact h4.to (by ac_rfl)
 ·rintro c M G' ⟨m,A',k',-,hA,hl,hm⟩-hnd hne
  obtain ⟨r,J',D',e1,e2,e3,e4,-⟩:=hcm M A' k' hA (by omega) hnd hne;refine ⟨has,J',D',?_,?_,e3,?_⟩
  ·rw [e1];exact q.inv e2
  ·rw [e1];exact q.jn e2
  ·rw [e1];exact e4
 ·rintro e w' ⟨c,M,G',S',J',D',⟨m,A',k',hP,hA,hl,hm⟩,hnd,rfl,d,hs,hc1,hc2⟩
  obtain ⟨e1,r,e2⟩:=hA.good.inv
  have hrd:(c≠0∨M.W=[])→Ds.Rd ⟨J,D,has,B⟩ ⟨J',D',has,B⟩:=fun h=>by
   have e:=hc2 h;rw [e] at e1 e2;exact ⟨e1,⟨r,e2⟩,rfl,rfl⟩
  have hm0:m=0→M.W=[]:=fun h=>List.eq_nil_of_length_eq_zero (by omega)
  by_cases h0:c=0
  ·by_cases hw:M.W=[]
   ·refine ⟨c,m,A',k',G',⟨J',D',has,B⟩,hP,rfl,d,(kY (s:=⟨J',D',has,B⟩) (hs.to (by ac_rfl))).to (by ac_rfl:lA t ⟨J',D',has,B⟩*(pt t.f (gU t mv)*(G'*F))=_),fun _=>hrd (.inr hw),.inr ⟨h0,?_,.inl (hrd (.inr hw))⟩⟩
    exact M9.rd (s:=⟨J,D,has,B⟩) ⟨hq,rE hA hw⟩ (hrd (.inr hw))
   ·obtain ⟨r',J2,D2,f1,f2,f3,f4,f5⟩:=hcm M A' k' hA (by omega) hnd hw
    have g:=hc1 h0 hw;rw [f1] at g;have g:eu J { D with cr:=r' } true (gH M.W)=(0,J',D'):=g;rw [g] at f4;simp only [Prod.mk.injEq,true_and] at f4;obtain ⟨rfl,rfl⟩:=f4
    exact ⟨c,m,A',k',G',⟨J',D',lH has (gH M.W),B+1⟩,hP,rfl,d,(kY (s:=⟨J',D',lH has (gH M.W),B+1⟩) (hs.to (by ac_rfl))).to (by ac_rfl:lA t ⟨J',D',lH has (gH M.W),B+1⟩*(pt t.f (gU t mv)*(G'*F))=_),
     fun h=>absurd (hm0 h) hw,.inr ⟨h0,⟨f5,tT hA hnd⟩,.inr ⟨r',gH M.W,f3,g,rfl,rfl⟩⟩⟩
  ·exact ⟨c,m,A',k',G',⟨J',D',has,B⟩,hP,rfl,d,(kY (s:=⟨J',D',has,B⟩) (hs.to (by ac_rfl))).to (by ac_rfl:lA t ⟨J',D',has,B⟩*(pt t.f (gU t mv)*(G'*F))=_),fun _=>hrd (.inl h0),.inl ⟨h0,hrd (.inl h0)⟩⟩
end Go.Cl
namespace Go.Cl
open Go.RowKit Go.SL Go.Nn Go.Ba Go.Su Go.Fs
attribute [local go_sem] Oper.semAt_some
abbrev kg:=List (Int × (Nat × Nat))
def nu (O:kg):KV:=O.map fun o=>(o.1,.agg #[.int .i64 (o.2.1:Int),.int .i64 (o.2.2:Int)])
def dM (t:Pl) (s:Ds) (m:Nat) (O:kg):ah:=pt t.f (gU t (.map (some m)))*(lA t s*mp m (nu O))
structure nr (t:Pl) (q:Dk t.n) (s:Ds) (T:Tr) (k:Nat):Prop where
 at_:M9 q s (gG T) k
 ty:Tidy t.n T
 h4:4≤t.n
 hn:t.n≤3840
def Ds.Go (n:Nat) (wr:Bool) (s s':Ds):Prop:=s.Rd s'∨(wr=true∧s.Cm n s')
def Rw (t:Pl) (q:Dk t.n) (m:Nat) (wr:Bool) (s:Ds) (T':Tr) (k':Nat) (O':kg) (v:Value) (F:ah) (w:World) (e:Ending) (w':World):Prop:=
 ∃ s',e = .returned v∧ai w w'∧s.Go t.n wr s'∧nr t q s' T' k'∧Sat w' (dM t s' m O'*F)
section
variable {t:Pl} {q:Dk t.n} {s s':Ds} {T:Tr} {k m:Nat} {O:kg} {w:World} {F:ah} {p:List UInt8}
theorem nr.rd (h:nr t q s T k) (r:s.Rd s'):nr t q s' T k:=⟨h.at_.rd r,h.ty,h.h4,h.hn⟩
def ew (t:Pl) (m:Nat) (O:kg):ah:=pt t.f (gU t (.map (some m)))*mp m (nu O)
theorem iP (hf:nr t q s T k) (hB:s.B≤1000000) (jf:FuncId) (caps:Array Value) (G:ah) (c:Int) (X Y:ah)
  (hcf:∀ (args:Array Value) (w:World),(callFunc jf args).run Tryz.prog w = .ok (.enter jf args) w)
  (hj:∀ (x:Fx t.n) (v b:Nat) (w1:World) (H:ah),Sat w1 (vA x b v T k*(G*(ew t m O*H)))→Calls Tryz.prog jf (#[ax v]++caps) w1 (FT c (vA x b v T k*(X*(ew t m O*H))) (vA x b v T k*(Y*(ew t m O*H))) w1))
  (h:Sat w (dM t s m O*(G*F))) :
  Calls Tryz.prog 29 #[ax t.f,.func (.func jf) #[] caps] w fun e w'=>
   ∃ s',e = .returned (.int .i64 c)∧ai w w'∧s.Rd s'∧Sat w' (dM t s' m O*((if c=0 then X else Y)*F)):=by
 have h1:Sat w (pt t.f (gU t (.map (some m)))*(lA t s*((G*mp m (nu O))*F))):=h.to (by unfold dM;ac_rfl);refine (Nq t q hf.h4 hf.hn w s (gG T) k (.map (some m)) jf caps (G*mp m (nu O)) F (fun c' m' A' k' G'=>c'=c∧m'=0∧G'=(if c=0 then X else Y)*mp m (nu O)) hf.at_ hB hcf ?_ h1).mono ?_
 ·intro x v b w1 H hC hw
  have h2:Sat w1 (vA x b v T k*(G*(ew t m O*H))):=hw.to (by unfold vA ew;ac_rfl);refine (hj x v b w1 _ h2).mono ?_;rintro e w' ⟨d,⟨rfl,rfl,h3⟩|⟨hc,rfl,h3⟩⟩
  ·exact ⟨0,gG T,k,_,0,⟨rfl,rfl,rfl⟩,.inl ⟨rfl,rfl⟩,d,by decide,(Sat.CN (x:=x) 0 (h3.to (by unfold vA ew;ac_rfl:_=et x b (gG T) k*(pt t.f (gU t (.map (some m)))*(pt v (bV b t.n)*((X*mp m (nu O))*H)))))).to (by rw [if_pos rfl];ac_rfl)⟩
  ·exact ⟨c,gG T,k,_,0,⟨rfl,rfl,rfl⟩,.inr ⟨hc,rfl⟩,d,by decide,(Sat.CN (x:=x) 0 (h3.to (by unfold vA ew;ac_rfl:_=et x b (gG T) k*(pt t.f (gU t (.map (some m)))*(pt v (bV b t.n)*((Y*mp m (nu O))*H)))))).to (by rw [if_neg hc];ac_rfl)⟩
 ·rintro e w' ⟨c',m',A',k',G',s',⟨rfl,rfl,rfl⟩,rfl,d,hs,hr,-⟩
  exact ⟨s',rfl,d,hr rfl,hs.to (by unfold dM;ac_rfl)⟩
def QF (z:Int × Int × Int):Value:=.agg #[.int .i64 z.1,.int .i64 z.2.1,.int .i64 z.2.2]
theorem pM {w:World} {tmps:Array Value} {rc:Nat} {z:Int × Int × Int} {e:Value} {F:ah} (h4:tmps[4]?=some (ax rc)) (h5:tmps[5]?=some e) (h:Sat w (eN rc z*F)) :
  (results Tryz.f20 tmps).run Tryz.prog w = .ok (.tuple #[QF z,e]) w:=by
 have c0:=Sat.cell h 0;have c1:=Sat.cell h 1;have c2:=Sat.cell h 2;have hp:tmps.getD 4 undef=ax rc:=by simp [h4]
 have hp5:tmps.getD 5 undef=e:=by simp [h5]
 simp at c0 c1 c2;simp [results,Tryz.results20,h4,h5,asAddr,ax,go_sem,c0,c1,c2,QF]
theorem IM (hf:nr t q s T k) (hB:s.B≤1000000) (h:Sat w (dM t s m O*F)) :
  Calls Tryz.prog 20 #[ax t.f,.string (str p)] w
   (Rw t q m false s T k O (.tuple #[QF (if (bW T p).1=0 then sE (T (bW T p).2) else (0,0,0)),.int .i64 (bW T p).1]) F w):=by
 refine aI fun Q HQ=>?_;have hA:=(((h.alloc (.cells #[.string (str p)] 9 (0,0))).alloc (.cells #[.int .i64 0,.int .i64 0,.int .i64 0] 48 (0,0))).alloc (.cells #[.int .i64 0,.int .i64 0,.int .i64 0] 48 (0,0)))
 simp only [World.size_alloc] at hA;have dA:=ae ((((ai.refl w).alloc (.cells #[.string (str p)] 9 (0,0))).alloc (.cells #[.int .i64 0,.int .i64 0,.int .i64 0] 48 (0,0))).alloc (.cells #[.int .i64 0,.int .i64 0,.int .i64 0] 48 (0,0)))
 have hd:=ae fun (pc sc:Nat) (F':ah) (w':World) (h':Sat w' (dM t s m O*((aA pc p*eN sc (0,0,0))*F')))=>
  iP hf hB 53 #[ax pc,ax sc] (aA pc p*eN sc (0,0,0)) (bW T p).1 (aA pc p*eN sc (sE (T (bW T p).2))) (aA pc p*eN sc (0,0,0)) (enters Tryz.func53 (by kernel_rfl) rfl)
   (fun x v b w1 H hw=>(Gw (x:=x) (b:=b) (v:=v) (k:=k) (pc:=pc) (sc:=sc) (F:=ew t m O*H) (p:=p) hf.ty (hw.to (by ac_rfl))).mono fun e w' hq=>by simpa only [aw] using hq) h'
 have HF:=ae hf;have HA:=ae hA;clear h hA hB hf;generalize bW T p=pw at *;obtain ⟨c,id⟩:=pw;dsimp only at hd HQ
 go_enter Tryz.func20,Tryz.ntmps20
 go_wp2_with fail
 generalize ((w.alloc (.cells #[.string (str p)] 9 (0,0))).alloc (.cells #[.int .i64 0,.int .i64 0,.int .i64 0] 48 (0,0))).alloc (.cells #[.int .i64 0,.int .i64 0,.int .i64 0] 48 (0,0))=w1 at *;generalize w.heap.size+1+1=sc at *;generalize w.heap.size+1=rc at *;generalize w.heap.size=pc at *;refine (hd.out pc sc (eN rc (0,0,0)*F) _ (HA.out.to (by unfold aA eN;ac_rfl))).mono ?_;rintro e w2 ⟨s',rfl,d2,hr,h2⟩;have D2:=ae (dA.out.trans d2);have HR:=ae hr;clear hd dA HA d2 hr
 by_cases h0:c=0
 ·subst h0
  rw [if_pos rfl] at h2 HQ;generalize sE (T id)=z at *;obtain ⟨z1,z2,z3⟩:=z;have h3:=h2.to (by unfold eN;ac_rfl:_=pt rc (.cells #[.int .i64 0,.int .i64 0,.int .i64 0] 48 (0,0))*(pt sc (.cells #[.int .i64 z1,.int .i64 z2,.int .i64 z3] 48 (0,0))*(aA pc p*(dM t s' m O*F))));have s0:w2.cell? ⟨sc,0,none⟩=some (.int .i64 z1):=h3.ag.cell 0;have s1:w2.cell? ⟨sc,1,none⟩=some (.int .i64 z2):=h3.ag.cell 1;have s2:w2.cell? ⟨sc,2,none⟩=some (.int .i64 z3):=h3.ag.cell 2;have r0:w2.cell? ⟨rc,0,none⟩=some (.int .i64 0):=h3.cell 0;have r1:w2.cell? ⟨rc,1,none⟩=some (.int .i64 0):=h3.cell 1;have r2:w2.cell? ⟨rc,2,none⟩=some (.int .i64 0):=h3.cell 2;have f0:=h3.frozen 0;have f1:=h3.frozen 1;have f2:=h3.frozen 2;have H4:=ae (((h3.setCell 0 (.int .i64 z1)).setCell 1 (.int .i64 z2)).setCell 2 (.int .i64 z3));have D4:=ae (((D2.out.setCell ⟨rc,0,none⟩ (.int .i64 z1)).setCell ⟨rc,1,none⟩ (.int .i64 z2)).setCell ⟨rc,2,none⟩ (.int .i64 z3));clear h2 h3 D2
  go_wp2_with fail
  have h5:=H4.out;simp only [List.setIfInBounds_toArray,List.set_cons_zero,List.set_cons_succ] at h5;exact bodyPost_ret (pM (z:=(z1,z2,z3)) rfl rfl h5) rfl (HQ.out _ _ ⟨s',rfl,D4.out,.inl HR.out,HF.out.rd HR.out,h5.right.right.right⟩)
 ·rw [if_neg h0] at h2 HQ
  have h3:=h2.to (by unfold eN;ac_rfl:_=pt rc (.cells #[.int .i64 0,.int .i64 0,.int .i64 0] 48 (0,0))*((aA pc p*eN sc (0,0,0))*(dM t s' m O*F)));have r0:w2.cell? ⟨rc,0,none⟩=some (.int .i64 0):=h3.cell 0;have r1:w2.cell? ⟨rc,1,none⟩=some (.int .i64 0):=h3.cell 1;have r2:w2.cell? ⟨rc,2,none⟩=some (.int .i64 0):=h3.cell 2;have f0:=h3.frozen 0;have f1:=h3.frozen 1;have f2:=h3.frozen 2;have H4:=ae (((h3.setCell 0 (.int .i64 0)).setCell 1 (.int .i64 0)).setCell 2 (.int .i64 0));have D4:=ae (((D2.out.setCell ⟨rc,0,none⟩ (.int .i64 0)).setCell ⟨rc,1,none⟩ (.int .i64 0)).setCell ⟨rc,2,none⟩ (.int .i64 0));clear h2 h3 D2
  go_wp2_with fail
  have h5:=H4.out;simp only [List.setIfInBounds_toArray,List.set_cons_zero,List.set_cons_succ] at h5;exact bodyPost_ret (pM (z:=(0,0,0)) rfl rfl h5) rfl (HQ.out _ _ ⟨s',rfl,D4.out,.inl HR.out,HF.out.rd HR.out,h5.right.right⟩)
end
def Pd (t:Pl) (q:Dk t.n) (m:Nat) (s:Ds) (O:kg) (R:Int→Tr→Nat→Prop) (F:ah) (w:World) (e:Ending) (w':World):Prop:=
 ∃ c T' k' s',R c T' k'∧e = .returned (.int .i64 c)∧ai w w'∧((c≠0∧s.Rd s')∨(c=0∧nr t q s' T' k'∧s.Go t.n true s'))∧Sat w' (dM t s' m O*F)
section
variable {t:Pl} {q:Dk t.n} {s s':Ds} {T:Tr} {k m:Nat} {O:kg} {w:World} {F:ah} {p:List UInt8}
theorem sY (hf:nr t q s T k) (hB:s.B≤1000000) (jf:FuncId) (caps:Array Value) (G:ah) (R:Int→Tr→Nat→Prop)
  (hcf:∀ (args:Array Value) (w:World),(callFunc jf args).run Tryz.prog w = .ok (.enter jf args) w)
  (hj:∀ (x:Fx t.n) (v b:Nat) (w1:World) (H:ah),Sat w1 (vA x b v T k*(G*(ew t m O*H)))→Calls Tryz.prog jf (#[ax v]++caps) w1 (QJ x b v R (G*(ew t m O*H)) w1))
  (h:Sat w (dM t s m O*(G*F))) :
  Calls Tryz.prog 29 #[ax t.f,.func (.func jf) #[] caps] w (Pd t q m s O R (G*F) w):=by
 have h1:Sat w (pt t.f (gU t (.map (some m)))*(lA t s*((G*mp m (nu O))*F))):=h.to (by unfold dM;ac_rfl);refine (Nq t q hf.h4 hf.hn w s (gG T) k (.map (some m)) jf caps (G*mp m (nu O)) F (fun c _ A' k' G'=>∃ T',R c T' k'∧(c=0→Tidy t.n T'∧A'=gG T')∧G'=G*mp m (nu O)) hf.at_ hB hcf ?_ h1).mono ?_
 ·intro x v b w1 H hC hw
  have h2:Sat w1 (vA x b v T k*(G*(ew t m O*H))):=hw.to (by unfold vA ew;ac_rfl);refine (hj x v b w1 _ h2).mono ?_;rintro e w' ⟨c,T',k',j,hR,hT,he,d,hj24,h3⟩;exact ⟨c,gG T',k',_,j,⟨T',hR,fun h=>⟨hT h,rfl⟩,rfl⟩,he,d,hj24,h3.to (by unfold vA ew;ac_rfl)⟩
 ·rintro e w' ⟨c,j,A',k',G',s',⟨T',hR,hT,rfl⟩,rfl,d,hs,-,hr⟩
  refine ⟨c,T',k',s',hR,rfl,d,?_,hs.to (by unfold dM;ac_rfl)⟩;rcases hr with hr|⟨h0,ha,hg⟩
  ·exact .inl hr
  ·obtain ⟨h1,rfl⟩:=hT h0
   exact .inr ⟨h0,⟨ha,h1,hf.h4,hf.hn⟩,hg.imp id fun h=>⟨rfl,h⟩⟩
theorem Ae {kd:Int} (hkd:kd=1∨kd=2) (hf:nr t q s T k) (hB:s.B≤1000000) (hgd:fQ T k p=0) (h:Sat w (dM t s m O*F)) :
  Calls Tryz.prog 27 #[ax t.f,.string (str p),.int .i64 kd] w (Pd t q m s O (lV t.n T k kd p) F w):=by
 refine aI fun Q HQ=>?_;have hA:=((h.alloc (.cells #[.string (str p)] 9 (0,0))).alloc (.cells #[.int .i64 kd] 3 (0,0)))
 rw [World.size_alloc] at hA;have dA:=ae (((ai.refl w).alloc (.cells #[.string (str p)] 9 (0,0))).alloc (.cells #[.int .i64 kd] 3 (0,0)))
 have hd:=ae fun (pc kc:Nat) (w':World) (h':Sat w' (dM t s m O*((aA pc p*aF kc kd)*F)))=>
  sY hf hB 66 #[ax pc,ax kc] (aA pc p*aF kc kd) (lV t.n T k kd p) (enters Tryz.func66 (by kernel_rfl) rfl)
   (fun x v b w1 H hw=>(IY (x:=x) (b:=b) (v:=v) (k:=k) (pc:=pc) (kc:=kc) (F:=ew t m O*H) (p:=p) hkd hf.hn hf.ty hgd (hw.to (by ac_rfl))).mono fun e w' hq=>by simpa only [aw] using hq) h'
 have HA:=ae hA;clear h hA hB hf
 go_enter Tryz.func27,Tryz.ntmps27
 go_wp2_with fail
 generalize (w.alloc (.cells #[.string (str p)] 9 (0,0))).alloc (.cells #[.int .i64 kd] 3 (0,0))=w1 at *;generalize w.heap.size+1=kc at *;generalize w.heap.size=pc at *;refine (hd.out pc kc _ (HA.out.to (by unfold aA aF;ac_rfl))).mono ?_;rintro e w2 ⟨c,T',k',s',hR,rfl,d2,hr,h2⟩;have hfin:=ae (HQ.out _ _ ⟨c,T',k',s',hR,rfl,dA.out.trans d2,hr,(h2.to (by ac_rfl:_=(aA pc p*aF kc kd)*(dM t s' m O*F))).right⟩);clear hd dA HA d2 hr hR h2
 go_wp2_with fail
 exact hfin.out
theorem B9 (hf:nr t q s T k) (hB:s.B≤1000000) (hgd:fQ T k p=0) (h:Sat w (dM t s m O*F)) :
  Calls Tryz.prog 9 #[ax t.f,.string (str p)] w (Pd t q m s O (lV t.n T k 1 p) F w):=by
 refine aI fun Q HQ=>?_;have hk:=ae (Ae (p:=p) (kd:=1) (.inl rfl) hf hB hgd h);clear h hf hB
 go_enter Tryz.func9,Tryz.ntmps9
 go_wp2_with fail
 refine hk.out.mono ?_;rintro e w2 ⟨c,T',k',s',hR,rfl,d2,hr,h2⟩;have hfin:=ae (HQ.out _ _ ⟨c,T',k',s',hR,rfl,d2,hr,h2⟩);clear hk d2 hr hR h2
 go_wp2_with fail
 exact hfin.out
theorem DO (hf:nr t q s T k) (hB:s.B≤1000000) (hgd:fQ T k p=0) (h:Sat w (dM t s m O*F)) :
  Calls Tryz.prog 16 #[ax t.f,.string (str p)] w (Pd t q m s O (lV t.n T k 2 p) F w):=by
 refine aI fun Q HQ=>?_;have hk:=ae (Ae (p:=p) (kd:=2) (.inr rfl) hf hB hgd h);clear h hf hB
 go_enter Tryz.func16,Tryz.ntmps16
 go_wp2_with fail
 refine hk.out.mono ?_;rintro e w2 ⟨c,T',k',s',hR,rfl,d2,hr,h2⟩;have hfin:=ae (HQ.out _ _ ⟨c,T',k',s',hR,rfl,d2,hr,h2⟩);clear hk d2 hr hR h2
 go_wp2_with fail
 exact hfin.out
end
def FQ (o:Nat × Nat):Value:=.agg #[.int .i64 (o.1:Int),.int .i64 (o.2:Int)]
theorem ym (O:kg) (fd:Int):aH (nu O) fd=(aH O fd).map FQ:=by
 induction O with
 | nil=>rfl
 | cons o O ih=>
  rw [nu,List.map_cons,iX,iX]
  by_cases h:o.1=fd
  ·rw [if_pos h,if_pos h];rfl
  ·rw [if_neg h,if_neg h];exact ih
section
variable {t:Pl} {q:Dk t.n} {s s':Ds} {T:Tr} {k m:Nat} {O:kg} {w:World} {F:ah} {p:List UInt8} {fd:Int}
theorem uY (h:Sat w (ew t m O*F)) (fd:Int):(Instr.lookup 64 (.map (some m)) (.int .i64 fd) true).run Tryz.prog w = .ok (.tuple #[(((aH O fd).map FQ).getD (FQ (0,0))),.bool (aH O fd).isSome]) w:=by
 have h1:Sat w (mp m (nu O)*(pt t.f (gU t (.map (some m)))*F)):=h.to (by unfold ew;ac_rfl);obtain ⟨o,ho,hb,-⟩:=h1.od;have:=gK (P:=Tryz.prog) (z:=FQ (0,0)) Tryz.underlying64 Tryz.underlying3 (by kernel_rfl) hb ho fd true;rw [ym] at this;rw [this,if_pos rfl,Option.isSome_map]
theorem mH (h:Sat w (ew t m O*F)):Calls Tryz.prog 28 #[ax t.f,.int .i64 fd] w fun e w'=>e = .returned (.bool (aH O fd).isSome)∧ai w w'∧Sat w' (ew t m O*F):=by
 refine aI fun Q HQ=>?_;have hl:=uY h fd
 obtain ⟨u,hu⟩:∃ u,((aH O fd).map FQ).getD (FQ (0,0))=FQ u:=by
  cases aH O fd with
  | none=>exact ⟨_,rfl⟩
  | some o=>exact ⟨o,rfl⟩
 rw [hu] at hl;have c1:w.cell? ⟨t.f,1,none⟩=some (.map (some m)):=(h.to (by unfold ew;ac_rfl:_=pt t.f (gU t (.map (some m)))*(mp m (nu O)*F))).cell 1;have hA:=(h.alloc (.cells #[.int .i64 (u.1:Int),.int .i64 (u.2:Int)] 78 (0,0))).right;have dA:=(ai.refl w).alloc (.cells #[.int .i64 (u.1:Int),.int .i64 (u.2:Int)] 78 (0,0));have hfin:=ae (HQ.out _ _ ⟨rfl,dA,hA⟩);unfold FQ at hl;clear h hu hA dA HQ;generalize (aH O fd).isSome=is at *
 go_enter Tryz.func28,Tryz.ntmps28
 go_wp2_with fail
 exact hfin.out
def gM (T:Tr) (O:kg) (p:List UInt8):Int:=if (bW T p).1≠0 then (bW T p).1 else match T (bW T p).2 with
 | some (.file _)=>if 16≤O.length then 9 else 0
 | _=>8
def bY (t:Pl) (a:Nat):ah:=pt a (.cells #[ax t.f] 25 (0,0))
def Ja (a:Nat):ah:=ex fun z=>aF a z
theorem LM {a:Nat} {z:Int} (h:Sat w (aF a z*F)):Sat w (Ja a*F):=Sat.au.2 ⟨z,h⟩
theorem Jv {x:Fx t.n} {b v pc nc fc:Nat} (ht:Tidy t.n T) (h:Sat w (vA x b v T k*((aA pc p*(aF nc 0*bY t fc))*(ew t m O*F)))) :
  Calls Tryz.prog 30 #[ax v,ax pc,ax nc,ax fc] w (FT (gM T O p) (vA x b v T k*((aA pc p*(aF nc ((bW T p).2:Nat)*bY t fc))*(ew t m O*F))) (vA x b v T k*((aA pc p*(Ja nc*bY t fc))*(ew t m O*F))) w):=by
 refine aI fun Q HQ=>?_;have h0:=h.to (by ac_rfl:_=vA x b v T k*(aA pc p*(aF nc 0*(bY t fc*(ew t m O*F)))));have cp:w.cell? ⟨pc,0,none⟩=some (.string (str p)):=h0.ag.cell 0;have H:=ae h0;have HT:=ae ht
 have Hbad:Hid (∀ c,c≠0→c=gM T O p→∀ (z:Int) (w':World),ai w w'→Sat w' (vA x b v T k*(aA pc p*(aF nc z*(bY t fc*(ew t m O*F)))))→Q (.panicked (mf c)) w'):=fun c hc he z w' d hs=>
  HQ.out _ _ ⟨d,.inr ⟨by rw [← he];exact hc,by rw [he],(LM (hs.to (by ac_rfl:_=aF nc z*(vA x b v T k*(aA pc p*(bY t fc*(ew t m O*F))))))).to (by ac_rfl)⟩⟩
 clear h h0
 cases hs:aV p with
 | none=>
  have hk:=ae (vr (w:=w) hs);have hc:(1:Int)=gM T O p:=by unfold gM;rw [pO hs];rfl
  clear ht hs
  go_enter Tryz.func30,Tryz.ntmps30
  go_wp2_with fail
  refine hk.out.mono ?_;rintro e w2 ⟨rfl,d2,h2⟩;exact ⟨rfl,Hbad.out 1 (by decide) hc 0 _ d2 (h2.dO H.out)⟩
 | some ps=>
  obtain ⟨hok,hl⟩:=di hs;have hpw:=eW (T:=T) hs;have hk:=ae (dK (w:=w) hs);have hy:=fun h0=>ht.walk ps ht.root.choose_spec h0;have HL:=ae hl;have HPW:=ae hpw;have HY:=ae hy;clear ht hs hl hok hpw hy
  go_enter Tryz.func30,Tryz.ntmps30
  go_wp2_with fail
  refine hk.out.mono ?_;rintro e w2 ⟨u,rfl,d2,h2⟩;have h3:=(h2.under H.out).ag;have hw:=ae (fI HT.out HL.out iz h3);have HQ2:=ae (show ∀ e w',FT (gM T O p) (vA x b v T k*((aA pc p*(aF nc ((aR T 1 ps).2:Nat)*bY t fc))*(ew t m O*F))) (vA x b v T k*((aA pc p*(Ja nc*bY t fc))*(ew t m O*F))) w e w'→Q e w' by rw [← HPW.out];exact fun e w'=>HQ.out e w');have hoc:gM T O p=if (aR T 1 ps).1≠0 then (aR T 1 ps).1 else match T (aR T 1 ps).2 with|some (.file _)=>if 16≤O.length then 9 else 0|_=>8:=by unfold gM;rw [HPW.out]
  have HOC:=ae hoc;clear hoc;generalize aR T 1 ps=pw at *;obtain ⟨c,id⟩:=pw;dsimp only at hw HY HQ2 HOC;clear cp hk h2 h3 HL HQ HPW
  go_wp2_with fail
  refine hw.out.mono ?_;rintro e w3 ⟨he,d3,h3⟩;clear hw;have D3:=ae (d2.trans d3);clear d2 d3;rcases he with ⟨rfl,rfl⟩|⟨hc,rfl⟩
  ·obtain ⟨y,hy⟩:=HY.out rfl
   have h4:=h3.to (by unfold aF;ac_rfl:_=pt nc (.cells #[.int .i64 0] 3 (0,0))*(vA x b v T k*(aA pc p*(bY t fc*(ew t m O*(eK u ps*F))))));have n0:w3.cell? ⟨nc,0,none⟩=some (.int .i64 0):=h4.cell 0;have f0:=h4.frozen 0;have h5:=h4.setCell 0 (.int .i64 (id:Int));simp only [List.setIfInBounds_toArray,List.set_cons_zero] at h5;have n1:=h5.cell 0;have hfl:=ae (mX hy h5.ag);have D5:=ae (D3.out.setCell ⟨nc,0,none⟩ (.int .i64 (id:Int)))
   have hcc:gM T O p=if y.af.kd=1 then (if 16≤O.length then 9 else 0) else 8:=by
    rw [HOC.out,if_neg (by decide),hy]
    cases y with
    | file f=>have:=HT.out.files _ _ hy;show _=if f.kd=1 then _ else _;rw [if_pos this]
    | dir L=>rfl
   have HC:=ae hcc;clear h3 h4 h5 hy HY HOC hcc D3
   go_wp2_with fail
   generalize w3.setCell ⟨nc,0,none⟩ (.int .i64 (id:Int))=w4 at *;refine hfl.out.mono ?_;rintro e w5 hq;rcases hq with ⟨hk1,z,rfl,y16,ykd,ylk,ysz,d5,h5⟩|⟨hk1,rfl,d5,h5⟩
   ·have h6:=h5.to (by unfold aF;ac_rfl:_=ew t m O*(vA x b v T k*(aF nc (id:Int)*(aA pc p*(bY t fc*(eK u ps*F))))))
    have h7:Sat w5 (mp m (nu O)*(pt t.f (gU t (.map (some m)))*(vA x b v T k*(aF nc (id:Int)*(aA pc p*(bY t fc*(eK u ps*F))))))):=h6.to (by unfold ew;ac_rfl);have hln:=h7.Qj (P:=Tryz.prog) Tryz.underlying64 3;have hlo:(nu O).length=O.length:=by unfold nu;exact List.length_map _
    rw [hlo] at hln;have c1:w5.cell? ⟨t.f,1,none⟩=some (.map (some m)):=h7.ag.cell 1;have cf:w5.cell? ⟨fc,0,none⟩=some (ax t.f):=(h7.to (by unfold bY;ac_rfl:_=pt fc (.cells #[ax t.f] 25 (0,0))*(mp m (nu O)*(pt t.f (gU t (.map (some m)))*(vA x b v T k*(aF nc (id:Int)*(aA pc p*(eK u ps*F)))))))).cell 0;have H6:=ae h6;have D6:=ae (D5.out.trans d5);have hcc:gM T O p=if 16≤O.length then 9 else 0:=by rw [HC.out,if_pos hk1]
    have HCC:=ae hcc;obtain ⟨ln,hlen⟩:∃ ln,O.length=ln:=⟨_,rfl⟩
    rw [hlen] at hln HCC;clear h5 h6 h7 hfl n1 y16 ykd ylk ysz d5 D5 HC hcc hlen hlo hk1
    by_cases h16:16≤ln
    ·have h16':(16:Int)≤(ln:Int):=by omega
     have hck:=ae fun w=>dy w 9 (by decide)
     go_wp2_with fail
     refine (hck.out _).mono ?_;rintro e w7 ⟨rfl,rfl⟩;exact ⟨rfl,Hbad.out 9 (by decide) (by rw [HCC.out,if_pos h16]) _ _ D6.out (H6.out.to (by ac_rfl:_=eK u ps*(vA x b v T k*(aA pc p*(aF nc (id:Int)*(bY t fc*(ew t m O*F))))))).right⟩
    ·have h16':(ln:Int)<16:=by omega
     have hfin:=ae (HQ2.out _ _ ⟨D6.out,.inl ⟨by rw [HCC.out,if_neg h16],rfl,(H6.out.to (by ac_rfl:_=eK u ps*(vA x b v T k*((aA pc p*(aF nc (id:Int)*bY t fc))*(ew t m O*F))))).right⟩⟩);clear h16 HCC
     go_wp2_with fail
     go_end0
     exact hfin.out
   ·exact ⟨rfl,Hbad.out 8 (by decide) (by rw [HC.out,if_neg hk1]) _ _ (D5.out.trans d5) (h5.to (by unfold aF;ac_rfl:_=eK u ps*(vA x b v T k*(aA pc p*(aF nc (id:Int)*(bY t fc*(ew t m O*F))))))).right⟩
  ·exact ⟨rfl,Hbad.out _ hc (by rw [HOC.out,if_pos hc]) 0 _ D3.out (h3.to (by ac_rfl:_=eK u ps*(vA x b v T k*(aA pc p*(aF nc 0*(bY t fc*(ew t m O*F))))))).right⟩
end
end Go.Cl
namespace Go.SL
open Go.RowKit
theorem Jq {α:Type} (M:List (Int × α)) (x:Int) (h:(aH M x).isSome=true):(del M x).length+1≤M.length:=by
 have h1:∃ p ∈ M,(!(p.1 == x))=false:=by
  unfold aH at h;rw [Option.isSome_map,List.find?_isSome] at h;obtain ⟨p,hp,h2⟩:=h;exact ⟨p,hp,by simpa using h2⟩
 obtain ⟨p,hp,h2⟩:=h1;unfold del
 have:(M.filter fun p => !(p.1 == x)).length<M.length:=by
  rw [List.length_filter_lt_length_iff_exists];exact ⟨p,hp,by rw [h2];decide⟩
 omega
theorem wu {α:Type}:∀ (m:Nat) (M:List (Int × α)),(∀ j:Nat,j<m→(aH M (j:Int)).isSome=true)→m≤M.length
 | 0,_,_=>Nat.zero_le _
 | m+1,M,h=>by
  have h1:=Jq M (m:Int) (h m (by omega));have h2:=wu m (del M (m:Int)) fun j hj=>by rw [zD,if_neg (by omega)];exact h j (by omega)
  omega
end Go.SL
namespace Go.Cl
open Go.RowKit Go.SL Go.Nn Go.Ba Go.Su Go.Fs
attribute [local go_sem] Oper.semAt_some
section
variable {t:Pl} {q:Dk t.n} {s s':Ds} {T:Tr} {k m:Nat} {O:kg} {w:World} {F:ah} {p:List UInt8}
def _root_.Go.SL.eG (O:List (Int × (Nat × Nat))) (fd:Int) (o:Nat × Nat):List (Int × (Nat × Nat)):=Go.SL.fw O fd o
theorem C7 (O:kg) (fd:Int) (o:Nat × Nat):Go.SL.fw (nu O) fd (FQ o)=nu (eG O fd o):=by
 unfold eG Go.SL.fw;rw [ym,Option.isSome_map];unfold nu
 split
 ·rw [List.map_map,List.map_map]
  apply List.map_congr_left;intro p _;simp only [Function.comp]
  split <;> rfl
 ·rw [List.map_append];rfl
def uw (t:Pl) (q:Dk t.n) (m:Nat) (s:Ds) (T:Tr) (k:Nat) (O:kg) (p:List UInt8) (F:ah) (w:World) (e:Ending) (w':World):Prop:=
 ∃ s',ai w w'∧s.Rd s'∧((gM T O p≠0∧e = .returned (.tuple #[.int .i64 0,.int .i64 (gM T O p)])∧Sat w' (dM t s' m O*F)) ∨
  (gM T O p=0∧∃ fd:Nat,(∀ j:Nat,j<fd→(aH O (j:Int)).isSome=true)∧aH O (fd:Int)=none∧e = .returned (.tuple #[.int .i64 (fd:Int),.int .i64 0])∧Sat w' (dM t s' m (eG O fd ((bW T p).2,0))*F)))
def Po (t:Pl) (m:Nat) (O:kg) (Z:ah) (w0:World) (u:Value) (wr:World):Prop:=
 ∃ fd:Nat,u = .int .i64 (fd:Int)∧(∀ j:Nat,j<fd→(aH O (j:Int)).isSome=true)∧ai w0 wr∧Sat wr (ew t m O*Z)
theorem mm (hf:nr t q s T k) (hB:s.B≤1000000) (hO:O.length≤1000) (h:Sat w (dM t s m O*F)) :
  Calls Tryz.prog 11 #[ax t.f,.string (str p)] w (uw t q m s T k O p F w):=by
 refine aI fun Q HQ=>?_;have hA:=(((h.alloc (.cells #[ax t.f] 25 (0,0))).alloc (.cells #[.string (str p)] 9 (0,0))).alloc (.cells #[.int .i64 0] 3 (0,0)))
 simp only [World.size_alloc] at hA;have dA:=ae ((((ai.refl w).alloc (.cells #[ax t.f] 25 (0,0))).alloc (.cells #[.string (str p)] 9 (0,0))).alloc (.cells #[.int .i64 0] 3 (0,0)))
 have hd:=ae fun (pc nc fc:Nat) (w':World) (h':Sat w' (dM t s m O*((aA pc p*(aF nc 0*bY t fc))*F)))=>
  iP hf hB 30 #[ax pc,ax nc,ax fc] (aA pc p*(aF nc 0*bY t fc)) (gM T O p) (aA pc p*(aF nc ((bW T p).2:Nat)*bY t fc)) (aA pc p*(Ja nc*bY t fc)) (enters Tryz.func30 (by kernel_rfl) rfl)
   (fun x v b w1 H hw=>Jv (x:=x) (b:=b) (v:=v) (k:=k) (pc:=pc) (nc:=nc) (fc:=fc) (F:=H) (p:=p) hf.ty hw) h'
 have HA:=ae hA;have hc0:=ae (wu (M:=O));have HO:=ae hO;clear h hA hB hf hO;unfold uw at HQ;generalize gM T O p=c at *;generalize (bW T p).2=id at *
 go_enter Tryz.func11,Tryz.ntmps11
 go_wp2_with fail
 generalize ((w.alloc (.cells #[ax t.f] 25 (0,0))).alloc (.cells #[.string (str p)] 9 (0,0))).alloc (.cells #[.int .i64 0] 3 (0,0))=w1 at *;generalize w.heap.size=fc at *;refine (hd.out (fc+1) (fc+1+1) fc _ (HA.out.to (by unfold aA aF bY;ac_rfl))).mono ?_;rintro e w2 ⟨s',rfl,d2,hr,h2⟩;have D2:=ae (dA.out.trans d2);clear hd dA d2 HA
 by_cases hc:c=0
 ·subst hc
  rw [if_pos rfl] at h2;have h3:Sat w2 (ew t m O*(lA t s'*((aA (fc+1) p*(aF (fc+1+1) (id:Nat)*bY t fc))*F))):=h2.to (by unfold dM ew;ac_rfl);generalize hZ:lA t s'*((aA (fc+1) p*(aF (fc+1+1) (id:Nat)*bY t fc))*F)=Z at h3;have HZ:=ae hZ.symm;have H3:=ae h3
  have hcf:∀ wr,Sat wr (ew t m O*Z)→wr.cell? ⟨fc,0,none⟩=some (ax t.f)∧wr.cell? ⟨fc+1+1,0,none⟩=some (.int .i64 (id:Int))∧wr.cell? ⟨t.f,1,none⟩=some (.map (some m)):=fun wr hw=>by
   have hw0:=hw;rw [HZ.out] at hw
   exact ⟨(hw.to (by unfold bY;ac_rfl:_=pt fc (.cells #[ax t.f] 25 (0,0))*(ew t m O*(lA t s'*((aA (fc+1) p*aF (fc+1+1) (id:Nat))*F))))).cell 0,
    (hw.to (by unfold aF;ac_rfl:_=pt (fc+1+1) (.cells #[.int .i64 (id:Int)] 3 (0,0))*(ew t m O*(lA t s'*((aA (fc+1) p*bY t fc)*F))))).cell 0,
    (hw0.to (by unfold ew;ac_rfl:_=pt t.f (gU t (.map (some m)))*(mp m (nu O)*Z))).cell 1⟩
  have HC:=ae hcf;have HQ0:=ae fun (fd:Nat) (w':World) (d:ai w w') (ha:∀ j:Nat,j<fd→(aH O (j:Int)).isSome=true) (hn:aH O (fd:Int)=none) (hs:Sat w' (dM t s' m (eG O (fd:Int) (id,0))*F))=>HQ.out _ _ ⟨s',d,hr,.inr ⟨rfl,fd,ha,hn,rfl,hs⟩⟩;clear h2 h3 hZ hcf HQ
  go_wp2_with fail
  go_loopw [8] (fun u wr=>Po t m O Z w u wr) (fun u _=>O.length+1-(Proofs.intOf u).toNat)
  case atStart=>exact ⟨0,rfl,fun j hj=>absurd hj (Nat.not_lt_zero _),D2.out,H3.out⟩
  case round=>
   obtain ⟨fd,rfl,hall,hside,hsat⟩:=hrel;have hfl:=hc0.out fd hall;have hfo:fd≤1000:=by have:=HO.out;omega
   obtain ⟨e1,e2,e3⟩:=HC.out wr hsat;have hh:=ae (mH (fd:=(fd:Int)) hsat);have HS:=ae hsat;have HAll:=ae hall;have D:=ae hside;have HFL:=ae hfl;have hfi:(fd:Int)≤1000:=by omega
   clear hsat hall hside hfl hfo e2 e3
   cases his:(aH O (fd:Int)).isSome with
   | true=>
    rw [his] at hh;have HI:=ae his;clear his
    go_wp2_with fail
    refine hh.out.mono ?_;rintro e w3 ⟨rfl,d3,h3⟩;have D3:=ae (D.out.trans d3);have H4:=ae h3;clear hh d3 h3 e1
    go_wp2_with fail
    go_roundw
    case rel=>exact ⟨fd+1,by go_num,fun j hj=>by
     rcases Nat.lt_succ_iff_lt_or_eq.1 hj with h|rfl
     ·exact HAll.out j h
     ·exact HI.out,D3.out,H4.out⟩
    case measure=>have:=HFL.out;simp [Proofs.intOf];omega
   | false=>
    rw [his] at hh;have HI:=ae his;clear his
    go_wp2_with fail
    refine hh.out.mono ?_;rintro e w3 ⟨rfl,d3,h3⟩;obtain ⟨f1,f2,f3⟩:=HC.out w3 h3;obtain ⟨w4,hup,h4,d4,ce⟩:=Sat.mapUpdate (P:=Tryz.prog) Tryz.underlying64 Tryz.underlying3 (w:=w3.drew) (h3.drew.to (by unfold ew;ac_rfl:_=mp m (nu O)*(pt t.f (gU t (.map (some m)))*Z))) (fd:Int) (FQ (id,0));rw [C7] at h4
    have hno:aH O (fd:Int)=none:=by
     have:=HI.out
     cases hk:aH O (fd:Int) with
     | none=>rfl
     | some o=>rw [hk] at this;cases this
    have hfin:=ae (HQ0.out fd w4 ((D.out.trans d3).drew.trans d4) HAll.out hno (by rw [HZ.out] at h4;exact (h4.to (by unfold dM;ac_rfl:_=(aA (fc+1) p*(aF (fc+1+1) (id:Nat)*bY t fc))*(dM t s' m (eG O (fd:Int) (id,0))*F))).right));have g3:w4.cell? ⟨t.f,1,none⟩=some (.map (some m)):=(ce.1 _).trans f3;have g2:w4.cell? ⟨fc+1+1,0,none⟩=some (.int .i64 (id:Int)):=(ce.1 _).trans f2;have g1:w4.cell? ⟨fc,0,none⟩=some (ax t.f):=(ce.1 _).trans f1;clear hh d3 h3 h4 d4 HS HAll D HFL HI hno e1 HC H3 D2 HO hc0 HQ0 ce;simp only [FQ,Int.ofNat_zero] at hup
    go_wp2_with fail
    go_region_held3 (fun w'=>w'.cell? ⟨fc,0,none⟩=some (ax t.f)∧w'.cell? ⟨fc+1+1,0,none⟩=some (.int .i64 (id:Int))∧w'.cell? ⟨t.f,1,none⟩=some (.map (some m))) (go_keep) (fail)
    go_wp2_with fail
    exact hfin.out
 ·have hfin:=ae (HQ.out _ _ ⟨s',D2.out,hr,.inl ⟨hc,rfl,by rw [if_neg hc] at h2;exact (h2.to (by ac_rfl:_=(aA (fc+1) p*(Ja (fc+1+1)*bY t fc))*(dM t s' m O*F))).right⟩⟩)
  clear h2 HQ hr
  go_wp2_with fail
  exact hfin.out
end
end Go.Cl
namespace Go.SL
def dP (sz at':Nat) (o wh:Int):Int:=(if wh=0 then 0 else if wh=1 then (at':Int) else (sz:Int))+o
def fU (sz at':Nat) (o wh:Int):Int:=if (-122880≤o∧o≤122880)∧(wh=0∨wh=1∨wh=2)∧(0≤dP sz at' o wh∧dP sz at' o wh≤122880) then 0 else 1
end Go.SL
namespace Go.Cl
open Go.RowKit Go.SL Go.Nn Go.Ba Go.Su Go.Fs
attribute [local go_sem] Oper.semAt_some
section
variable {n:Nat} {x:Fx n} {b v oc qc pc tc id at' k:Nat} {T:Tr} {w:World} {F:ah} {o wh z:Int}
def cu (a:Nat) (z:Int):ah:=pt a (.cells #[.int .i64 z] 2 (0,0))
def Mr (a:Nat):ah:=ex fun z=>cu a z
theorem Lz {a:Nat} {z:Int} (h:Sat w (cu a z*F)):Sat w (Mr a*F):=Sat.au.2 ⟨z,h⟩
def cH (a:Nat) (p:Nat × Nat):ah:=pt a (.cells #[.int .i64 (p.1:Int),.int .i64 (p.2:Int)] 78 (0,0))
def CK {n:Nat} (x:Fx n) (b v oc qc pc tc id at' k sz:Nat) (T:Tr) (F:ah) (o wh:Int) (w wx:World):Prop:=
 ∃ z,(wh=0∨wh=1∨wh=2)∧dP sz at' o wh=z+o∧0≤z∧z≤122880∧ai w wx∧Sat wx (vA x b v T k*(cu oc o*(aF qc wh*(cH pc (id,at')*(cu tc z*F)))))
theorem IW {f:AF} (hT:T id=some (.file f)) (ha:at'≤122880) (hs:f.sz≤122880) (hO:-9223372036854775808≤o∧o≤9223372036854775807) (h:Sat w (vA x b v T k*(cu oc o*(aF qc wh*(cH pc (id,at')*(cu tc 0*F)))))) :
  Calls Tryz.prog 43 #[ax v,ax oc,ax qc,ax pc,ax tc] w (FT (fU f.sz at' o wh) (vA x b v T k*(cu oc o*(aF qc wh*(cH pc (id,at')*(cu tc (dP f.sz at' o wh)*F))))) (vA x b v T k*(cu oc o*(aF qc wh*(cH pc (id,at')*(Mr tc*F))))) w):=by
 refine aI fun Q HQ=>?_;have o0:w.cell? ⟨oc,0,none⟩=some (.int .i64 o):=h.ag.cell 0;have w0:w.cell? ⟨qc,0,none⟩=some (.int .i64 wh):=h.aq.cell 0;have p0:w.cell? ⟨pc,0,none⟩=some (.int .i64 (id:Int)):=h.aC.cell 0;have p1:w.cell? ⟨pc,1,none⟩=some (.int .i64 (at':Int)):=h.aC.cell 1;have H:=ae h;have hn:=ae (iZ hT h)
 have Hbad:Hid (fU f.sz at' o wh=1→∀ (z:Int) (w':World),ai w w'→Sat w' (vA x b v T k*(cu oc o*(aF qc wh*(cH pc (id,at')*(cu tc z*F)))))→Q (.panicked (mf 1)) w'):=fun he z w' d hs'=>
  HQ.out _ _ ⟨d,.inr ⟨by rw [he];decide,by rw [he],(Lz (hs'.to (by ac_rfl:_=cu tc z*(vA x b v T k*(cu oc o*(aF qc wh*(cH pc (id,at')*F))))))).to (by ac_rfl)⟩⟩
 have hneed:=ae ns;have hno:=ae pG;have hck:=ae fun w=>dy w 1 (by decide);clear h hT
 by_cases hr:-122880≤o∧o≤122880
 ·have hC:fU f.sz at' o wh=if (wh=0∨wh=1∨wh=2)∧(0≤dP f.sz at' o wh∧dP f.sz at' o wh≤122880) then 0 else 1:=by unfold fU;simp only [hr,true_and,and_self]
  have HC:=ae hC;obtain ⟨r1,r2⟩:=hr;clear hC hO
  go_enter Tryz.func43,Tryz.ntmps43
  go_wp2_with fail
  refine (hneed.out _).mono ?_;rintro e w2 ⟨rfl,rfl⟩;have hai:(at':Int)≤122880:=by omega
  have hsi:(f.sz:Int)≤122880:=by omega
  clear ha hs
  go_upto_block 0 with (fail)
  go_cut [] from 13 to 27 (fun wx=>CK x b v oc qc pc tc id at' k f.sz T F o wh w wx)
  case first=>
   have t0:w.cell? ⟨tc,0,none⟩=some (.int .i64 0):=(H.out.to (by unfold cu;ac_rfl:_=pt tc (.cells #[.int .i64 0] 2 (0,0))*(vA x b v T k*(cu oc o*(aF qc wh*(cH pc (id,at')*F)))))).cell 0;have hT:=ae (H.out.to (by unfold cu;ac_rfl:_=pt tc (.cells #[.int .i64 0] 2 (0,0))*(vA x b v T k*(cu oc o*(aF qc wh*(cH pc (id,at')*F))))));have g0:=hT.out.frozen 0
   by_cases h0:wh=0
   ·subst h0
    have HF:=ae (show CK x b v oc qc pc tc id at' k f.sz T F o 0 w w from ⟨0,.inl rfl,by unfold dP;rw [if_pos rfl],by decide,by decide,ai.refl w,H.out⟩);clear HQ Hbad HC hn hT H
    go_wp2_with fail
    go_meet
    exact HF.out
   by_cases h1:wh=1
   ·subst h1
    have h4:=hT.out.setCell 0 (.int .i64 (at':Int));simp only [List.setIfInBounds_toArray,List.set_cons_zero] at h4;have HF:=ae (show CK x b v oc qc pc tc id at' k f.sz T F o 1 w (w.setCell ⟨tc,0,none⟩ (.int .i64 (at':Int))) from ⟨at',.inr (.inl rfl),by unfold dP;rw [if_neg (by decide),if_pos rfl],by omega,hai,(ai.refl w).setCell _ _,h4.to (by unfold cu;ac_rfl)⟩);clear HQ Hbad HC hn hT H h4
    go_wp2_with fail
    go_meet
    exact HF.out
   by_cases h2:wh=2
   ·subst h2
    have HT:=ae (fun (w':World) (hw':Sat w' (vA x b v T k*(cu oc o*(aF qc 2*(cH pc (id,at')*(cu tc 0*F))))))=>hw'.to (by unfold cu;ac_rfl:_=pt tc (.cells #[.int .i64 0] 2 (0,0))*(vA x b v T k*(cu oc o*(aF qc 2*(cH pc (id,at')*F))))));clear HQ Hbad HC hT H
    go_wp2_with fail
    refine hn.out.mono ?_;rintro e w3 ⟨y,rfl,y16,ykd,ylk,ysz,d3,h3⟩;have n3:=(lM y16).1;obtain ⟨-,-,hfd⟩:=sI y16 w3;rw [ysz] at hfd;have h5:=HT.out w3 h3;have t0':w3.cell? ⟨tc,0,none⟩=some (.int .i64 0):=h5.cell 0;have g0':=h5.frozen 0;have h4:=h5.setCell 0 (.int .i64 (f.sz:Int));simp only [List.setIfInBounds_toArray,List.set_cons_zero] at h4;have HF:=ae (show CK x b v oc qc pc tc id at' k f.sz T F o 2 w (w3.setCell ⟨tc,0,none⟩ (.int .i64 (f.sz:Int))) from ⟨f.sz,.inr (.inr rfl),by unfold dP;rw [if_neg (by decide),if_neg (by decide)],by omega,hsi,d3.setCell _ _,h4.to (by unfold cu;ac_rfl)⟩);generalize ints y.l=yl at *;have hfd':(Instr.field 73 (.agg yl) 2).run Tryz.prog w3 = .ok (.int .i64 ((f.sz:Nat):Int)) w3:=hfd;clear h3 h4 h5 HT hn y16 ykd ylk ysz d3 n3 hfd;generalize (f.sz:Int)=sz at *
    go_wp2_with fail
    go_meet
    exact HF.out
   ·have hbad:=ae (Hbad.out (by rw [HC.out,if_neg];rintro ⟨h,-⟩;omega) 0 w (ai.refl w) H.out)
    have b0:(wh == 0)=false:=by simp [h0]
    have b1:(wh == 1)=false:=by simp [h1]
    have b2:(wh == 2)=false:=by simp [h2]
    clear HQ Hbad HC hn hT H
    go_wp2_with fail
    refine (hck.out _).mono ?_;rintro e w2 ⟨rfl,rfl⟩;exact ⟨rfl,hbad.out⟩
  case rest=>
   obtain ⟨z,hw3,hz,z1,z2,d3,h3⟩:=hcut;have h4:=h3.to (by unfold cu;ac_rfl:_=pt tc (.cells #[.int .i64 z] 2 (0,0))*(vA x b v T k*(pt oc (.cells #[.int .i64 o] 2 (0,0))*(aF qc wh*(cH pc (id,at')*F)))));have t0:wc.cell? ⟨tc,0,none⟩=some (.int .i64 z):=h4.cell 0;have g0:=h4.frozen 0;have o0:wc.cell? ⟨oc,0,none⟩=some (.int .i64 o):=h4.aq.cell 0;have h5:=h4.setCell 0 (.int .i64 (z+o));simp only [List.setIfInBounds_toArray,List.set_cons_zero] at h5;have t1:=h5.cell 0;have D5:=ae (d3.setCell ⟨tc,0,none⟩ (.int .i64 (z+o)));have H5:=ae (h5.to (by unfold cu;ac_rfl:_=vA x b v T k*(cu oc o*(aF qc wh*(cH pc (id,at')*(cu tc (z+o)*F))))));have HZ:=ae hz;have HC2:=ae (show fU f.sz at' o wh=if 0≤z+o∧z+o≤122880 then 0 else 1 by rw [HC.out,hz];simp only [hw3,true_and]);clear h3 h4 h5 hz HC d3 hn hck H hw3;have u0:(wc.setCell ⟨tc,0,none⟩ (.int .i64 (z+o))).cell? ⟨tc,0,none⟩=some (.int .i64 (z+o)):=t1;clear t1
   by_cases r3:0≤z+o
   ·by_cases r4:z+o≤122880
    ·have hfin:=ae (HQ.out (.returned (.tuple #[])) _ ⟨D5.out,.inl ⟨by rw [HC2.out,if_pos ⟨r3,r4⟩],rfl,by rw [HZ.out];exact H5.out⟩⟩)
     clear HQ Hbad HC2 HZ H5 D5
     go_wp2_with fail
     refine (hneed.out _).mono ?_;rintro e w2 ⟨rfl,rfl⟩
     go_wp2_with fail
     go_end0
     exact hfin.out
    ·have hbad:=ae (Hbad.out (by rw [HC2.out,if_neg fun h=>r4 h.2]) _ _ D5.out H5.out)
     clear HQ Hbad HC2 HZ H5 D5
     go_wp2_with fail
     refine (hno.out _).mono ?_;rintro e w2 ⟨rfl,rfl⟩;exact ⟨rfl,hbad.out⟩
   ·have hbad:=ae (Hbad.out (by rw [HC2.out,if_neg fun h=>r3 h.1]) _ _ D5.out H5.out)
    clear HQ Hbad HC2 HZ H5 D5
    go_wp2_with fail
    refine (hno.out _).mono ?_;rintro e w2 ⟨rfl,rfl⟩;exact ⟨rfl,hbad.out⟩
 ·have hC:fU f.sz at' o wh=1:=by unfold fU;rw [if_neg];intro h;exact hr h.1
  have hbad:=ae (Hbad.out hC 0 w (ai.refl w) H.out)
  by_cases r1:-122880≤o
  ·have r2:¬ o≤122880:=fun h=>hr ⟨r1,h⟩
   clear hC Hbad H hn hr
   go_enter Tryz.func43,Tryz.ntmps43
   go_wp2_with fail
   refine (hno.out _).mono ?_;rintro e w2 ⟨rfl,rfl⟩;exact ⟨rfl,hbad.out⟩
  ·clear hC Hbad H hn hr
   go_enter Tryz.func43,Tryz.ntmps43
   go_wp2_with fail
   refine (hno.out _).mono ?_;rintro e w2 ⟨rfl,rfl⟩;exact ⟨rfl,hbad.out⟩
end
section
variable {t:Pl} {q:Dk t.n} {s s':Ds} {T:Tr} {k m:Nat} {O:kg} {w:World} {F:ah} {fd o wh:Int}
theorem Cc {u:Nat × Nat} (hy:aH O fd=some u) (h:Sat w (ew t m O*F)):(Instr.lookup 64 (.map (some m)) (.int .i64 fd) true).run Tryz.prog w = .ok (.tuple #[.agg #[.int .i64 (u.1:Int),.int .i64 (u.2:Int)],.bool true]) w:=by
 have:=uY h fd;rw [hy] at this;exact this
theorem nn (h:Sat w (ew t m O*F)):w.cell? ⟨t.f,1,none⟩=some (.map (some m)):=(h.to (by unfold ew;ac_rfl:_=pt t.f (gU t (.map (some m)))*(mp m (nu O)*F))).cell 1
theorem AR (h:Sat w (ew t m O*F)) (fd:Int) (u:Nat × Nat):∃ w',(Instr.mapUpdate 64 (.map (some m)) (.int .i64 fd) (.agg #[.int .i64 (u.1:Int),.int .i64 (u.2:Int)])).run Tryz.prog w = .ok () w'∧Sat w' (ew t m (eG O fd u)*F)∧ai w w'∧nj w w':=by
 obtain ⟨w4,hup,h4,d4,ce⟩:=Sat.mapUpdate (P:=Tryz.prog) Tryz.underlying64 Tryz.underlying3 (h.to (by unfold ew;ac_rfl:_=mp m (nu O)*(pt t.f (gU t (.map (some m)))*F))) fd (FQ u);rw [C7] at h4;exact ⟨w4,hup,h4.to (by unfold ew;ac_rfl),d4,ce⟩
def MY (t:Pl) (s:Ds) (m:Nat) (O:kg) (fd:Int) (id sz at':Nat) (o wh:Int) (F:ah) (w:World) (e:Ending) (w':World):Prop:=
 ∃ s',ai w w'∧s.Rd s'∧((fU sz at' o wh≠0∧e = .returned (.tuple #[.int .i64 0,.int .i64 (fU sz at' o wh)])∧Sat w' (dM t s' m O*F)) ∨
  (fU sz at' o wh=0∧e = .returned (.tuple #[.int .i64 (dP sz at' o wh),.int .i64 0])∧Sat w' (dM t s' m (eG O fd (id,(dP sz at' o wh).toNat))*F)))
theorem Jw {f:AF} {id at':Nat} (hf:nr t q s T k) (hB:s.B≤1000000) (hy:aH O fd=some (id,at')) (hT:T id=some (.file f)) (ha:at'≤122880) (hO:-9223372036854775808≤o∧o≤9223372036854775807) (h:Sat w (dM t s m O*F)) :
  Calls Tryz.prog 14 #[ax t.f,.int .i64 fd,.int .i64 o,.int .i64 wh] w (MY t s m O fd id f.sz at' o wh F w):=by
 refine aI fun Q HQ=>?_;have hs:f.sz≤122880:=(hf.at_.has.wf (mn hT)).1.sz;have h1:Sat w (ew t m O*(lA t s*F)):=h.to (by unfold dM ew;ac_rfl);have hA:=(((h1.alloc (.cells #[.int .i64 o] 2 (0,0))).alloc (.cells #[.int .i64 wh] 3 (0,0))))
 simp only [World.size_alloc] at hA;have dA:=(((ai.refl w).alloc (.cells #[.int .i64 o] 2 (0,0))).alloc (.cells #[.int .i64 wh] 3 (0,0)))
 generalize hw1:(w.alloc (.cells #[.int .i64 o] 2 (0,0))).alloc (.cells #[.int .i64 wh] 3 (0,0))=w1 at *;have hA2:Sat w1 (ew t m O*(cu w.heap.size o*(aF (w.heap.size+1) wh*(lA t s*F)))):=hA.to (by unfold cu aF;ac_rfl);have hl:=Cc hy hA2;have c1:=nn hA2;have hB2:=((hA2.alloc (.cells #[.int .i64 (id:Int),.int .i64 (at':Int)] 78 (0,0))).alloc (.cells #[.int .i64 0] 2 (0,0)))
 simp only [World.size_alloc] at hB2;have dB:=ae ((dA.alloc (.cells #[.int .i64 (id:Int),.int .i64 (at':Int)] 78 (0,0))).alloc (.cells #[.int .i64 0] 2 (0,0)))
 have hd:=ae fun (oc qc pc tc:Nat) (w':World) (h':Sat w' (dM t s m O*((cu oc o*(aF qc wh*(cH pc (id,at')*cu tc 0)))*F)))=>
  iP hf hB 43 #[ax oc,ax qc,ax pc,ax tc] (cu oc o*(aF qc wh*(cH pc (id,at')*cu tc 0))) (fU f.sz at' o wh) (cu oc o*(aF qc wh*(cH pc (id,at')*cu tc (dP f.sz at' o wh)))) (cu oc o*(aF qc wh*(cH pc (id,at')*Mr tc))) (enters Tryz.func43 (by kernel_rfl) rfl)
   (fun x v b w1 H hw=>(IW (x:=x) (b:=b) (v:=v) (k:=k) (oc:=oc) (qc:=qc) (pc:=pc) (tc:=tc) (F:=ew t m O*H) hT ha hs hO (hw.to (by ac_rfl))).mono fun e w' hq=>by simpa only [aw] using hq) h'
 have HB:=ae hB2
 have hto:fU f.sz at' o wh=0→∃ z:Nat,dP f.sz at' o wh=(z:Int):=fun hc=>by
  unfold fU at hc
  by_cases hh:(-122880≤o∧o≤122880)∧(wh=0∨wh=1∨wh=2)∧(0≤dP f.sz at' o wh∧dP f.sz at' o wh≤122880)
  ·exact ⟨(dP f.sz at' o wh).toNat,by omega⟩
  ·rw [if_neg hh] at hc;cases hc
 have HTO:=ae hto;unfold MY at HQ;clear h h1 hA hA2 dA hB2 hs hf hB hy hT hO ha hto;generalize fU f.sz at' o wh=c at *;generalize dP f.sz at' o wh=zz at *
 go_enter Tryz.func14,Tryz.ntmps14
 go_wp2_with fail
 generalize (w1.alloc (.cells #[.int .i64 (id:Int),.int .i64 (at':Int)] 78 (0,0))).alloc (.cells #[.int .i64 0] 2 (0,0))=w2 at *;generalize w1.heap.size=pc at *;generalize w.heap.size=oc at *;refine (hd.out oc (oc+1) pc (pc+1) _ (HB.out.to (by unfold dM ew cu cH;ac_rfl))).mono ?_;rintro e w3 ⟨s',rfl,d3,hr,h3⟩;have D3:=ae (dB.out.trans d3);clear hd dB d3 HB hw1 hl c1
 by_cases hc:c=0
 ·subst hc
  obtain ⟨z,rfl⟩:=HTO.out rfl;rw [if_pos rfl] at h3;have HQ0:=ae fun (w':World) (d:ai w w') (hs:Sat w' (dM t s' m (eG O fd (id,z))*F))=>HQ.out _ _ ⟨s',d,hr,.inr ⟨rfl,rfl,by rw [Int.toNat_natCast];exact hs⟩⟩;have h4:=h3.to (by unfold dM ew cH;ac_rfl:_=pt pc (.cells #[.int .i64 (id:Int),.int .i64 (at':Int)] 78 (0,0))*(ew t m O*(cu (pc+1) (z:Int)*(cu oc o*(aF (oc+1) wh*(lA t s'*F))))));have t0:w3.cell? ⟨pc+1,0,none⟩=some (.int .i64 (z:Int)):=h4.aq.cell 0;have p1:w3.cell? ⟨pc,1,none⟩=some (.int .i64 (at':Int)):=h4.cell 1;have g1:=h4.frozen 1;have h5:=h4.setCell 1 (.int .i64 (z:Int));simp only [List.setIfInBounds_toArray,List.set_cons_zero,List.set_cons_succ] at h5;have D5:=ae (D3.out.setCell ⟨pc,1,none⟩ (.int .i64 (z:Int)));have H5:=ae h5;clear h3 h4 h5 HQ D3 HTO hr
  go_wp2_with fail
  generalize w3.setCell ⟨pc,1,none⟩ (.int .i64 (z:Int))=w4 at *
  have hcf:∀ (O:kg) (wr:World),Sat wr (ew t m O*(pt pc (.cells #[.int .i64 (id:Int),.int .i64 (z:Int)] 78 (0,0))*(cu (pc+1) (z:Int)*(cu oc o*(aF (oc+1) wh*(lA t s'*F))))))→wr.cell? ⟨t.f,1,none⟩=some (.map (some m))∧wr.cell? ⟨pc,0,none⟩=some (.int .i64 (id:Int))∧wr.cell? ⟨pc,1,none⟩=some (.int .i64 (z:Int)):=fun O wr hw=>
   ⟨nn hw,hw.ag.cell 0,hw.ag.cell 1⟩
  have h6:=H5.out.to (by ac_rfl:_=ew t m O*(pt pc (.cells #[.int .i64 (id:Int),.int .i64 (z:Int)] 78 (0,0))*(cu (pc+1) (z:Int)*(cu oc o*(aF (oc+1) wh*(lA t s'*F))))));obtain ⟨e1,e2,e3⟩:=hcf _ _ h6;obtain ⟨w5,hup,h7,d7,ce⟩:=AR h6.drew fd (id,z);obtain ⟨f1,f2,f3⟩:=hcf _ _ h7;have hfin:=ae (HQ0.out w5 (D5.out.drew.trans d7) ((h7.to (by unfold dM ew;ac_rfl:_=(pt pc (.cells #[.int .i64 (id:Int),.int .i64 (z:Int)] 78 (0,0))*(cu (pc+1) (z:Int)*(cu oc o*aF (oc+1) wh)))*(dM t s' m (eG O fd (id,z))*F))).right));dsimp only at hup;clear hcf h6 h7 d7 ce D5 H5 HQ0 t0 p1 g1
  go_region_held3 (fun w'=>w'.cell? ⟨t.f,1,none⟩=some (.map (some m))∧w'.cell? ⟨pc,0,none⟩=some (.int .i64 (id:Int))∧w'.cell? ⟨pc,1,none⟩=some (.int .i64 (z:Int))) (go_keep) (fail)
  go_wp2_with fail
  exact hfin.out
 ·rw [if_neg hc] at h3
  have hfin:=ae (HQ.out _ _ ⟨s',D3.out,hr,.inl ⟨hc,rfl,(h3.to (by ac_rfl:_=(cu oc o*(aF (oc+1) wh*(cH pc (id,at')*Mr (pc+1))))*(dM t s' m O*F))).right⟩⟩);clear h3 HQ hr D3 HTO
  go_wp2_with fail
  exact hfin.out
end
def _root_.Go.SL.lz (c:Int):Int:=if 0≤c∧c≤4096 then 0 else 1
def dg (a:Nat) (v:Value):ah:=pt a (.cells #[v] 37 (0,0))
def tQ (a:Nat) (l:List UInt8):ah:=ex fun u=>bs 5 u l*dg a u
theorem oY {w:World} {a:Nat} {l:List UInt8} {F:ah}:Sat w (tQ a l*F)↔∃ u,Sat w (bs 5 u l*(dg a u*F)):=by
 unfold tQ;rw [Sat.au];exact exists_congr fun u=>by rw [aw]
section
variable {n:Nat} {x:Fx n} {b v nc pc rc id at' k:Nat} {T:Tr} {w:World} {F:ah} {c:Int}
theorem EG {f:AF} (hT:T id=some (.file f)) (h:Sat w (vA x b v T k*(aF nc c*(cH pc (id,at')*(dg rc (.slice none 0 0)*F))))) :
  Calls Tryz.prog 45 #[ax v,ax nc,ax pc,ax rc] w (FT (lz c) (vA x b v T k*(aF nc c*(cH pc (id,at')*(tQ rc (f.sub at' c.toNat)*F)))) (vA x b v T k*(aF nc c*(cH pc (id,at')*(dg rc (.slice none 0 0)*F)))) w):=by
 refine aI fun Q HQ=>?_;have n0:w.cell? ⟨nc,0,none⟩=some (.int .i64 c):=h.ag.cell 0;have p0:w.cell? ⟨pc,0,none⟩=some (.int .i64 (id:Int)):=h.aq.cell 0;have p1:w.cell? ⟨pc,1,none⟩=some (.int .i64 (at':Int)):=h.aq.cell 1;have H:=ae h;have hneed:=ae ns;have hno:=ae pG
 by_cases hr:0≤c∧c≤4096
 ·have hC:lz c=0:=if_pos hr
  rw [hC] at HQ;obtain ⟨r1,r2⟩:=hr;obtain ⟨m,rfl⟩:∃ m:Nat,c=(m:Int):=⟨c.toNat,by omega⟩
  rw [Int.toNat_natCast] at HQ;have hb:=ae (sQ hT at' m h);clear h hC hT
  go_enter Tryz.func45,Tryz.ntmps45
  go_wp2_with fail
  refine (hneed.out _).mono ?_;rintro e w2 ⟨rfl,rfl⟩
  go_wp2_with fail
  refine hb.out.mono ?_;rintro e w2 ⟨u,rfl,d2,h2⟩;have h3:=h2.to (by unfold dg;ac_rfl:_=pt rc (.cells #[.slice none 0 0] 37 (0,0))*(bs 5 u (f.sub at' m)*(vA x b v T k*(aF nc (m:Int)*(cH pc (id,at')*F)))));have t0:w2.cell? ⟨rc,0,none⟩=some (.slice none 0 0):=h3.cell 0;have g0:=h3.frozen 0;have h4:=h3.setCell 0 u;simp only [List.setIfInBounds_toArray,List.set_cons_zero] at h4;obtain ⟨ua,uc,rfl⟩:=aB h4.ag;generalize f.sub at' m=l at *;have h5:Sat (w2.setCell ⟨rc,0,none⟩ (.slice ua l.length uc)) (tQ rc l*(vA x b v T k*(aF nc (m:Int)*(cH pc (id,at')*F)))):=oY.2 ⟨_,h4.to (by unfold dg;ac_rfl:_=bs 5 (.slice ua l.length uc) l*(dg rc (.slice ua l.length uc)*(vA x b v T k*(aF nc (m:Int)*(cH pc (id,at')*F)))))⟩;have hfin:=ae (HQ.out _ _ ⟨d2.setCell ⟨rc,0,none⟩ (.slice ua l.length uc),.inl ⟨rfl,rfl,h5.to (by ac_rfl)⟩⟩);clear h2 h3 h4 h5 HQ hb d2 H
  go_wp2_with fail
  go_end0
  exact hfin.out
 ·have hC:lz c=1:=if_neg hr
  rw [hC] at HQ;have hbad:=ae (HQ.out _ _ ⟨ai.refl w,.inr ⟨by decide,rfl,h⟩⟩)
  by_cases r1:0≤c
  ·have r2:¬ c≤4096:=fun h=>hr ⟨r1,h⟩
   clear hC HQ H h hr
   go_enter Tryz.func45,Tryz.ntmps45
   go_wp2_with fail
   refine (hno.out _).mono ?_;rintro e w2 ⟨rfl,rfl⟩;exact ⟨rfl,hbad.out⟩
  ·clear hC HQ H h hr
   go_enter Tryz.func45,Tryz.ntmps45
   go_wp2_with fail
   refine (hno.out _).mono ?_;rintro e w2 ⟨rfl,rfl⟩;exact ⟨rfl,hbad.out⟩
end
section
variable {t:Pl} {q:Dk t.n} {s s':Ds} {T:Tr} {k m:Nat} {O:kg} {w:World} {F:ah} {fd c:Int}
def jN (t:Pl) (s:Ds) (m:Nat) (O:kg) (fd:Int) (id at':Nat) (l:List UInt8) (c:Int) (F:ah) (w:World) (e:Ending) (w':World):Prop:=
 ∃ s',ai w w'∧s.Rd s'∧((lz c≠0∧e = .returned (.tuple #[.slice none 0 0,.int .i64 (lz c)])∧Sat w' (dM t s' m O*F)) ∨
  (lz c=0∧∃ u,e = .returned (.tuple #[u,.int .i64 0])∧Sat w' (bs 5 u l*(dM t s' m (eG O fd (id,at'+l.length))*F))))
theorem IH {f:AF} {id at':Nat} (hf:nr t q s T k) (hB:s.B≤1000000) (hy:aH O fd=some (id,at')) (hT:T id=some (.file f)) (ha:at'≤122880) (h:Sat w (dM t s m O*F)) :
  Calls Tryz.prog 15 #[ax t.f,.int .i64 fd,.int .i64 c] w (jN t s m O fd id at' (f.sub at' c.toNat) c F w):=by
 refine aI fun Q HQ=>?_
 have hsl:lz c=0→(f.sub at' c.toNat).length≤4096:=fun hc=>by
  unfold lz at hc
  by_cases hh:0≤c∧c≤4096
  ·unfold AF.sub;rw [List.length_map,List.length_range];omega
  ·rw [if_neg hh] at hc;cases hc
 have HSL:=ae hsl;have h1:Sat w (ew t m O*(lA t s*F)):=h.to (by unfold dM ew;ac_rfl);have hA:=h1.alloc (.cells #[.int .i64 c] 3 (0,0));have dA:=(ai.refl w).alloc (.cells #[.int .i64 c] 3 (0,0));generalize hw1:w.alloc (.cells #[.int .i64 c] 3 (0,0))=w1 at *;have hA2:Sat w1 (ew t m O*(aF w.heap.size c*(lA t s*F))):=hA.to (by unfold aF;ac_rfl);have hl:=Cc hy hA2;have c1:=nn hA2;have hB2:=((hA2.alloc (.cells #[.int .i64 (id:Int),.int .i64 (at':Int)] 78 (0,0))).alloc (.cells #[.slice none 0 0] 37 (0,0)))
 simp only [World.size_alloc] at hB2;have dB:=ae ((dA.alloc (.cells #[.int .i64 (id:Int),.int .i64 (at':Int)] 78 (0,0))).alloc (.cells #[.slice none 0 0] 37 (0,0)))
 have hd:=ae fun (nc pc rc:Nat) (w':World) (h':Sat w' (dM t s m O*((aF nc c*(cH pc (id,at')*dg rc (.slice none 0 0)))*F)))=>
  iP hf hB 45 #[ax nc,ax pc,ax rc] (aF nc c*(cH pc (id,at')*dg rc (.slice none 0 0))) (lz c) (aF nc c*(cH pc (id,at')*tQ rc (f.sub at' c.toNat))) (aF nc c*(cH pc (id,at')*dg rc (.slice none 0 0))) (enters Tryz.func45 (by kernel_rfl) rfl)
   (fun x v b w1 H hw=>(EG (x:=x) (b:=b) (v:=v) (k:=k) (nc:=nc) (pc:=pc) (rc:=rc) (F:=ew t m O*H) (c:=c) hT (hw.to (by ac_rfl))).mono fun e w' hq=>by simpa only [aw] using hq) h'
 have HB:=ae hB2;unfold jN at HQ;clear h h1 hA hA2 dA hB2 hf hB hy hT hsl;generalize lz c=rcode at *;generalize f.sub at' c.toNat=l at *;have hai:(at':Int)≤122880:=by omega
 clear ha
 go_enter Tryz.func15,Tryz.ntmps15
 go_wp2_with fail
 generalize (w1.alloc (.cells #[.int .i64 (id:Int),.int .i64 (at':Int)] 78 (0,0))).alloc (.cells #[.slice none 0 0] 37 (0,0))=w2 at *;generalize w1.heap.size=pc at *;generalize w.heap.size=nc at *;refine (hd.out nc pc (pc+1) _ (HB.out.to (by unfold dM ew dg cH;ac_rfl))).mono ?_;rintro e w3 ⟨s',rfl,d3,hr,h3⟩;have D3:=ae (dB.out.trans d3);clear hd dB d3 HB hw1 hl c1
 by_cases hc:rcode=0
 ·subst hc
  have hln:=HSL.out rfl;rw [if_pos rfl] at h3;obtain ⟨u,h3'⟩:=(oY (a:=pc+1)).1 (h3.to (by ac_rfl:_=tQ (pc+1) l*(dM t s' m O*(aF nc c*(cH pc (id,at')*F)))));obtain ⟨ua,uc,rfl⟩:=aB h3';have HQ0:=ae fun (w':World) (d:ai w w') (hs:Sat w' (bs 5 (.slice ua l.length uc) l*(dM t s' m (eG O fd (id,at'+l.length))*F)))=>HQ.out _ _ ⟨s',d,hr,.inr ⟨rfl,_,rfl,hs⟩⟩;obtain ⟨z,hz⟩:∃ z,l.length=z:=⟨_,rfl⟩
  rw [hz] at h3' hln HQ0;have h4:=h3'.to (by unfold dM ew cH dg;ac_rfl:_=pt pc (.cells #[.int .i64 (id:Int),.int .i64 (at':Int)] 78 (0,0))*(pt (pc+1) (.cells #[.slice ua z uc] 37 (0,0))*(ew t m O*(bs 5 (.slice ua z uc) l*(aF nc c*(lA t s'*F))))));have t0:w3.cell? ⟨pc+1,0,none⟩=some (.slice ua z uc):=h4.ag.cell 0;have p1:w3.cell? ⟨pc,1,none⟩=some (.int .i64 (at':Int)):=h4.cell 1;have g1:=h4.frozen 1;have h5:=h4.setCell 1 (.int .i64 ((at'+z:Nat):Int));simp only [List.setIfInBounds_toArray,List.set_cons_zero,List.set_cons_succ] at h5;have D5:=ae (D3.out.setCell ⟨pc,1,none⟩ (.int .i64 ((at'+z:Nat):Int)));have H5:=ae h5;have hzi:(z:Int)≤4096:=by omega
  have hsum:((at'+z:Nat):Int)=(at':Int)+(z:Int):=by omega
  rw [hsum] at H5 D5;have hz0:0≤(z:Int):=by omega
  have ha0:0≤(at':Int):=by omega
  clear h3 h3' h4 h5 HQ D3 hr HSL hz hln;generalize hat:at'+z=at2 at *
  go_wp2_with fail
  rw [← hsum] at H5 D5 ⊢;generalize w3.setCell ⟨pc,1,none⟩ (.int .i64 (at2:Int))=w4 at *
  have hcf:∀ (O:kg) (wr:World),Sat wr (ew t m O*(pt pc (.cells #[.int .i64 (id:Int),.int .i64 (at2:Int)] 78 (0,0))*(pt (pc+1) (.cells #[.slice ua z uc] 37 (0,0))*(bs 5 (.slice ua z uc) l*(aF nc c*(lA t s'*F))))))→wr.cell? ⟨t.f,1,none⟩=some (.map (some m))∧wr.cell? ⟨pc,0,none⟩=some (.int .i64 (id:Int))∧wr.cell? ⟨pc,1,none⟩=some (.int .i64 (at2:Int))∧wr.cell? ⟨pc+1,0,none⟩=some (.slice ua z uc):=fun O wr hw=>
   ⟨nn hw,hw.ag.cell 0,hw.ag.cell 1,hw.aq.cell 0⟩
  have h6:=H5.out.to (by ac_rfl:_=ew t m O*(pt pc (.cells #[.int .i64 (id:Int),.int .i64 (at2:Int)] 78 (0,0))*(pt (pc+1) (.cells #[.slice ua z uc] 37 (0,0))*(bs 5 (.slice ua z uc) l*(aF nc c*(lA t s'*F))))));obtain ⟨e1,e2,e3,e4⟩:=hcf _ _ h6;obtain ⟨w5,hup,h7,d7,ce⟩:=AR h6.drew fd (id,at2);obtain ⟨f1,f2,f3,f4⟩:=hcf _ _ h7;have hfin:=ae (HQ0.out w5 (D5.out.drew.trans d7) ((h7.to (by unfold dM ew;ac_rfl:_=(pt pc (.cells #[.int .i64 (id:Int),.int .i64 (at2:Int)] 78 (0,0))*(pt (pc+1) (.cells #[.slice ua z uc] 37 (0,0))*aF nc c))*(bs 5 (.slice ua z uc) l*(dM t s' m (eG O fd (id,at2))*F)))).right));dsimp only at hup;clear hcf h6 h7 d7 ce D5 H5 HQ0 t0 p1 g1 hsum hat
  go_region_held3 (fun w'=>w'.cell? ⟨t.f,1,none⟩=some (.map (some m))∧w'.cell? ⟨pc,0,none⟩=some (.int .i64 (id:Int))∧w'.cell? ⟨pc,1,none⟩=some (.int .i64 (at2:Int))) (go_keep) (fail)
  go_wp2_with fail
  exact hfin.out
 ·rw [if_neg hc] at h3
  have hfin:=ae (HQ.out _ _ ⟨s',D3.out,hr,.inl ⟨hc,rfl,(h3.to (by ac_rfl:_=(aF nc c*(cH pc (id,at')*dg (pc+1) (.slice none 0 0)))*(dM t s' m O*F))).right⟩⟩);clear h3 HQ hr D3 HSL
  go_wp2_with fail
  exact hfin.out
end
end Go.Cl
namespace Go.SL
theorem Tidy.file {n id:Nat} {T:Tr} {f f':AF} (h:Tidy n T) (hT:T id=some (.file f)) (hk:f'.kd=f.kd) (hl:f'.lk=f.lk):Tidy n (eS T id (some (.file f'))):=by
 have hlt:=h.lt hT
 have hne:id≠1:=by
  rintro rfl;obtain ⟨L,hL⟩:=h.root;rw [hL] at hT;cases hT
 refine ⟨?_,fun i L hi=>?_,fun i g hi=>?_,fun i=>?_,fun i hi=>?_⟩
 ·obtain ⟨L,hL⟩:=h.root
  exact ⟨L,by unfold eS;rw [if_neg (Ne.symm hne)];exact hL⟩
 ·unfold eS at hi
  split at hi
  ·cases hi
  ·exact h.dirs _ _ hi
 ·unfold eS at hi
  split at hi
  ·cases hi;rw [hk];exact h.files _ _ hT
  ·exact h.files _ _ hi
 ·have:=oJ hlt (T:=T) (some (.file f')) i
  rw [hT] at this;have e:refs n (eS T id (some (.file f'))) i=refs n T i:=by simpa [eI] using this
  rw [e,h.ref];unfold eS
  split
  ·rename_i e;subst e;rw [hT];exact hl.symm
  ·rfl
 ·unfold eS
  rw [if_neg (by omega)];exact h.out _ hi
def ie (k at':Nat) (f:AF) (l:List UInt8):Int:=
 if 4096<l.length then 1 else if 122880<at'+l.length then 9 else if l=[] then 0 else if k+cl f.pr<cl (f.wr at' l).pr then 7 else 0
def fR (T:Tr) (k id at':Nat) (f:AF) (l:List UInt8) (c:Int) (T':Tr) (k':Nat):Prop:=
 c=ie k at' f l∧(c=0→(l=[]∧T'=T∧k'=k)∨(l≠[]∧T'=eS T id (some (.file (f.wr at' l)))∧k'=k+cl f.pr-cl (f.wr at' l).pr))
end Go.SL
namespace Go.Cl
open Go.RowKit Go.SL Go.Nn Go.Ba Go.Su Go.Fs
attribute [local go_sem] Oper.semAt_some
section
variable {n:Nat} {x:Fx n} {b v nc pc id at' k:Nat} {T:Tr} {w:World} {F D:ah} {l:List UInt8} {va:Option Addr} {vc:Nat}
theorem E7 {f:AF} (ht:Tidy n T) (hgd:ie k at' f l=0) (hT:T id=some (.file f)) (ha:at'≤122880) (hl9:l.length≤1000000000) (hcap:l.length≤vc) (hD:∀ W P,Sat W (D*P)→Rd W (.slice va l.length vc) l) (h:Sat w (vA x b v T k*((dg nc (.slice va l.length vc)*cH pc (id,at'))*(D*F)))) :
  Calls Tryz.prog 40 #[ax v,ax nc,ax pc] w (QJ x b v (fR T k id at' f l) ((dg nc (.slice va l.length vc)*cH pc (id,at'))*(D*F)) w):=by
 refine aI fun Q HQ=>?_;have Hbad:=ae fun (c:Int) (hc:c≠0) (he:c=ie k at' f l)=>HQ.out (.panicked (mf c)) w ⟨c,T,k,0,⟨he,fun h=>absurd h hc⟩,fun h=>absurd h hc,.inr ⟨hc,rfl⟩,ai.refl w,by decide,(Sat.CN (x:=x) 0 (oG h |>.to (aD _ _ _))).to (by unfold vA;ac_rfl)⟩;have h1:=h.to (by unfold vA cH dg;ac_rfl:_=et x b (gG T) k*(D*(pt v (bV b n)*(pt nc (.cells #[.slice va l.length vc] 37 (0,0))*(pt pc (.cells #[.int .i64 (id:Int),.int .i64 (at':Int)] 78 (0,0))*F)))));have n0:w.cell? ⟨nc,0,none⟩=some (.slice va l.length vc):=h1.aC.cell 0;have p0:w.cell? ⟨pc,0,none⟩=some (.int .i64 (id:Int)):=h1.aG.cell 0;have p1:w.cell? ⟨pc,1,none⟩=some (.int .i64 (at':Int)):=h1.aG.cell 1;have hneed:=ae ns;have hno:=ae pG;have hC:ie k at' f l=if 4096<l.length then 1 else if 122880<at'+l.length then 9 else if l=[] then 0 else if k+cl f.pr<cl (f.wr at' l).pr then 7 else 0:=rfl
 have HC:=ae hC;have HT:=ae ht;have HA:=ae ha;have HL:=ae hl9;have hlz:(l.length:Int)≤1000000000:=by omega
 have haz:(at':Int)≤122880:=by omega
 clear hC ht ha hl9
 by_cases r1:(l.length:Int)≤4096
 ·by_cases r2:(at':Int)+(l.length:Int)≤122880
  ·by_cases r3:(l.length:Int)=0
   ·have hnil:l=[]:=List.length_eq_zero_iff.1 (by omega)
    have hfin:=ae (HQ.out (.returned (.tuple #[])) w ⟨0,T,k,0,⟨by rw [HC.out,if_neg (by omega),if_neg (by omega),if_pos hnil],fun _=>.inl ⟨hnil,rfl,rfl⟩⟩,fun _=>HT.out,.inl ⟨rfl,rfl⟩,ai.refl w,by decide,(Sat.CN (x:=x) 0 (oG h |>.to (aD _ _ _))).to (by unfold vA;ac_rfl)⟩);have HCap:=ae hcap;clear Hbad HC h h1 HT HA HL HQ hT hcap hnil;generalize l.length=ln at *
    go_enter Tryz.func40,Tryz.ntmps40
    go_wp2_with fail
    refine (hneed.out _).mono ?_;rintro e w2 ⟨rfl,rfl⟩
    go_wp2_with fail
    go_end0
    exact hfin.out
   ·have hnil:l≠[]:=fun e=>r3 (by rw [e];rfl)
    have H1:=ae h1;have k0:w.cell? ⟨v,0,none⟩=some (ax b)∧w.cell? ⟨v,1,none⟩=some (.int .i64 (n:Int))∧w.cell? ⟨pc,0,none⟩=some (.int .i64 (id:Int))∧w.cell? ⟨pc,1,none⟩=some (.int .i64 (at':Int))∧w.cell? ⟨nc,0,none⟩=some (.slice va l.length vc):=⟨h1.aq.cell 0,h1.aq.cell 1,p0,p1,n0⟩
    by_cases hk:k+cl f.pr<cl (f.wr at' l).pr
    ·exact absurd ((by rw [HC.out,if_neg (by omega),if_neg (by omega),if_neg hnil,if_pos hk]:ie k at' f l=7).symm.trans hgd) (by decide)
    ·have HQ0:=ae fun (w':World) (d:ai w w') (hs:Sat w' (vA (x.more (l.length/480+5)) b v (eS T id (some (.file (f.wr at' l)))) (k+cl f.pr-cl (f.wr at' l).pr)*((dg nc (.slice va l.length vc)*cH pc (id,at'))*(D*F))))=>
      HQ.out (.returned (.tuple #[])) w' ⟨0,_,_,l.length/480+5,⟨by rw [HC.out,if_neg (by omega),if_neg (by omega),if_neg hnil,if_neg hk],fun _=>.inr ⟨hnil,rfl,rfl⟩⟩,fun _=>HT.out.file (f':=f.wr at' l) hT rfl rfl,.inl ⟨rfl,rfl⟩,d,by omega,hs⟩
     have ha:=ae fun w' h'=>CT (x:=x) (b:=b) (k:=k) (w:=w') (F:=pt v (bV b n)*(pt nc (.cells #[.slice va l.length vc] 37 (0,0))*(pt pc (.cells #[.int .i64 (id:Int),.int .i64 (at':Int)] 78 (0,0))*F))) (mn hT) at' hD hcap (by omega) (by omega) (by omega) h';have Hk:=ae fun w=>du w;have K0:=ae k0;have HCap:=ae hcap;clear Hbad HC h h1 HT HA HL HQ hT hcap hnil hk k0 hD;generalize l.length=ln at *
     go_enter Tryz.func40,Tryz.ntmps40
     go_wp2_with fail
     refine (hneed.out _).mono ?_;rintro e w2 ⟨rfl,rfl⟩
     go_wp2_with fail
     have k0:=K0.out
     go_region_held3 (fun w'=>w'.cell? ⟨v,0,none⟩=some (ax b)∧w'.cell? ⟨v,1,none⟩=some (.int .i64 (n:Int))∧w'.cell? ⟨pc,0,none⟩=some (.int .i64 (id:Int))∧w'.cell? ⟨pc,1,none⟩=some (.int .i64 (at':Int))∧w'.cell? ⟨nc,0,none⟩=some (.slice va ln vc))
      (first|exact k0|exact k1|go_keep)
      (first
       | (go_at_call 42;refine (ha.out _ H1.out.drew).mono ?_;rintro e w4 ⟨rfl,d4,h4⟩;have k1:w4.cell? ⟨v,0,none⟩=some (ax b)∧w4.cell? ⟨v,1,none⟩=some (.int .i64 (n:Int))∧w4.cell? ⟨pc,0,none⟩=some (.int .i64 (id:Int))∧w4.cell? ⟨pc,1,none⟩=some (.int .i64 (at':Int))∧w4.cell? ⟨nc,0,none⟩=some (.slice va ln vc):=⟨h4.aq.cell 0,h4.aq.cell 1,h4.aG.cell 0,h4.aG.cell 1,h4.aC.cell 0⟩)
       | (go_at_call 34;refine (Hk.out _).mono ?_;rintro e w5 ⟨rfl,rfl⟩))
     rename_i hHeld;clear hHeld k0 k1 K0 ha H1;rw [show eS (gG T) id (some (f.wr at' l))=gG (eS T id (some (.file (f.wr at' l)))) from xx T id (.file (f.wr at' l))] at h4;have hfin:=ae (HQ0.out _ ((ai.refl w).drew.trans d4) (h4.to (by unfold vA cH dg;ac_rfl)));clear h4 d4 HQ0
     go_wp2_with fail
     go_end0
     exact hfin.out
  ·exact absurd ((by rw [HC.out,if_neg (by omega),if_pos (by omega)]:ie k at' f l=9).symm.trans hgd) (by decide)
 ·exact absurd ((by rw [HC.out,if_pos (by omega)]:ie k at' f l=1).symm.trans hgd) (by decide)
end
section
variable {t:Pl} {q:Dk t.n} {s s':Ds} {T:Tr} {k m:Nat} {O:kg} {w:World} {F D:ah} {fd z:Int} {l:List UInt8} {va:Option Addr} {vc:Nat}
def gp (t:Pl) (q:Dk t.n) (m:Nat) (s:Ds) (O:kg) (fd:Int) (o:Nat × Nat) (R:Int→Tr→Nat→Prop) (F:ah) (w:World) (e:Ending) (w':World):Prop:=
 ∃ c T' k' s',R c T' k'∧e = .returned (.int .i64 c)∧ai w w'∧((c≠0∧s.Rd s'∧Sat w' (dM t s' m O*F))∨(c=0∧nr t q s' T' k'∧s.Go t.n true s'∧Sat w' (dM t s' m (eG O fd o)*F)))
theorem DI {f:AF} {id at':Nat} (hf:nr t q s T k) (hB:s.B≤1000000) (hgd:ie k at' f l=0) (hy:aH O fd=some (id,at')) (hT:T id=some (.file f)) (ha:at'≤122880) (hl9:l.length≤1000000000) (hcap:l.length≤vc) (hD:∀ W P,Sat W (D*P)→Rd W (.slice va l.length vc) l) (h:Sat w (dM t s m O*(D*F))) :
  Calls Tryz.prog 13 #[ax t.f,.int .i64 fd,.slice va l.length vc] w (gp t q m s O fd (id,at'+l.length) (fR T k id at' f l) (D*F) w):=by
 refine aI fun Q HQ=>?_;have h1:Sat w (ew t m O*(lA t s*(D*F))):=h.to (by unfold dM ew;ac_rfl);have hA:=h1.alloc (.cells #[.slice va l.length vc] 37 (0,0));have dA:=(ai.refl w).alloc (.cells #[.slice va l.length vc] 37 (0,0));generalize hw1:w.alloc (.cells #[.slice va l.length vc] 37 (0,0))=w1 at *;have hA2:Sat w1 (ew t m O*(dg w.heap.size (.slice va l.length vc)*(lA t s*(D*F)))):=hA.to (by unfold dg;ac_rfl);have hl:=Cc hy hA2;have c1:=nn hA2;have hB2:=hA2.alloc (.cells #[.int .i64 (id:Int),.int .i64 (at':Int)] 78 (0,0));have dB:=ae (dA.alloc (.cells #[.int .i64 (id:Int),.int .i64 (at':Int)] 78 (0,0)))
 have hd:=ae fun (nc pc:Nat) (w':World) (h':Sat w' (dM t s m O*(((dg nc (.slice va l.length vc)*cH pc (id,at'))*D)*F)))=>
  sY hf hB 40 #[ax nc,ax pc] ((dg nc (.slice va l.length vc)*cH pc (id,at'))*D) (fR T k id at' f l) (enters Tryz.func40 (by kernel_rfl) rfl)
   (fun x v b w1 H hw=>(E7 (x:=x) (b:=b) (v:=v) (k:=k) (nc:=nc) (pc:=pc) (F:=ew t m O*H) hf.ty hgd hT ha hl9 hcap hD (hw.to (by ac_rfl))).mono fun e w' hq=>by simpa only [aw] using hq) h'
 have HB:=ae hB2;have hR4:fR T k id at' f l 0 T k∨True:=.inr trivial
 have hok:∀ T' k',fR T k id at' f l 0 T' k'→l.length≤4096:=fun T' k' hr=>by
  have:=hr.1;unfold ie at this
  by_cases h4:4096<l.length
  ·rw [if_pos h4] at this;cases this
  ·omega
 have HOK:=ae hok;have haz:(at':Int)≤122880:=by omega
 unfold gp at HQ;clear h h1 hA hA2 dA hB2 hf hB hy hT hok ha hl9 hD hR4 hcap;generalize fR T k id at' f l=R at *
 go_enter Tryz.func13,Tryz.ntmps13
 go_wp2_with fail
 generalize w1.alloc (.cells #[.int .i64 (id:Int),.int .i64 (at':Int)] 78 (0,0))=w2 at *;generalize w1.heap.size=pc at *;generalize w.heap.size=nc at *;refine (hd.out nc pc _ (HB.out.to (by unfold dM ew cH;ac_rfl))).mono ?_;rintro e w3 ⟨c,T',k',s',hR,rfl,d3,hr,h3⟩;have D3:=ae (dB.out.trans d3);clear hd dB d3 HB hw1 hl c1
 by_cases hc:c=0
 ·subst hc
  have hln:=HOK.out _ _ hR;have hr2:=hr.elim (fun h=>absurd rfl h.1) (fun h=>h.2);have HQ0:=ae fun (w':World) (d:ai w w') (hs:Sat w' (dM t s' m (eG O fd (id,at'+l.length))*(D*F)))=>HQ.out _ w' ⟨0,T',k',s',hR,rfl,d,.inr ⟨rfl,hr2.1,hr2.2,hs⟩⟩;obtain ⟨z,hz⟩:∃ z,l.length=z:=⟨_,rfl⟩
  rw [hz] at h3 hln HQ0 ⊢;have h4:=h3.to (by unfold dM ew cH dg;ac_rfl:_=pt pc (.cells #[.int .i64 (id:Int),.int .i64 (at':Int)] 78 (0,0))*(pt nc (.cells #[.slice va z vc] 37 (0,0))*(ew t m O*(D*(lA t s'*F)))));have t0:w3.cell? ⟨nc,0,none⟩=some (.slice va z vc):=h4.ag.cell 0;have p1:w3.cell? ⟨pc,1,none⟩=some (.int .i64 (at':Int)):=h4.cell 1;have g1:=h4.frozen 1;have h5:=h4.setCell 1 (.int .i64 ((at'+z:Nat):Int));simp only [List.setIfInBounds_toArray,List.set_cons_zero,List.set_cons_succ] at h5;have D5:=ae (D3.out.setCell ⟨pc,1,none⟩ (.int .i64 ((at'+z:Nat):Int)));have H5:=ae h5;have hzi:(z:Int)≤4096:=by omega
  have hsum:((at'+z:Nat):Int)=(at':Int)+(z:Int):=by omega
  rw [hsum] at H5 D5;have hz0:0≤(z:Int):=by omega
  have ha0:0≤(at':Int):=by omega
  clear h3 h4 h5 HQ D3 hr hr2 hR HOK hz hln;generalize hat:at'+z=at2 at *
  go_wp2_with fail
  rw [← hsum] at H5 D5 ⊢;generalize w3.setCell ⟨pc,1,none⟩ (.int .i64 (at2:Int))=w4 at *
  have hcf:∀ (O:kg) (wr:World),Sat wr (ew t m O*(pt pc (.cells #[.int .i64 (id:Int),.int .i64 (at2:Int)] 78 (0,0))*(pt nc (.cells #[.slice va z vc] 37 (0,0))*(D*(lA t s'*F)))))→wr.cell? ⟨t.f,1,none⟩=some (.map (some m))∧wr.cell? ⟨pc,0,none⟩=some (.int .i64 (id:Int))∧wr.cell? ⟨pc,1,none⟩=some (.int .i64 (at2:Int)):=fun O wr hw=>
   ⟨nn hw,hw.ag.cell 0,hw.ag.cell 1⟩
  have h6:=H5.out.to (by ac_rfl:_=ew t m O*(pt pc (.cells #[.int .i64 (id:Int),.int .i64 (at2:Int)] 78 (0,0))*(pt nc (.cells #[.slice va z vc] 37 (0,0))*(D*(lA t s'*F)))));obtain ⟨e1,e2,e3⟩:=hcf _ _ h6;obtain ⟨w5,hup,h7,d7,ce⟩:=AR h6.drew fd (id,at2);obtain ⟨f1,f2,f3⟩:=hcf _ _ h7;have hfin:=ae (HQ0.out w5 (D5.out.drew.trans d7) ((h7.to (by unfold dM ew;ac_rfl:_=(pt pc (.cells #[.int .i64 (id:Int),.int .i64 (at2:Int)] 78 (0,0))*pt nc (.cells #[.slice va z vc] 37 (0,0)))*(dM t s' m (eG O fd (id,at2))*(D*F)))).right));dsimp only at hup;clear hcf h6 h7 d7 ce D5 H5 HQ0 t0 p1 g1 hsum hat
  go_region_held3 (fun w'=>w'.cell? ⟨t.f,1,none⟩=some (.map (some m))∧w'.cell? ⟨pc,0,none⟩=some (.int .i64 (id:Int))∧w'.cell? ⟨pc,1,none⟩=some (.int .i64 (at2:Int))) (go_keep) (fail)
  go_wp2_with fail
  exact hfin.out
 ·have hr2:=hr.elim (fun h=>h.2) (fun h=>absurd h.1 hc)
  have hfin:=ae (HQ.out _ _ ⟨c,T',k',s',hR,rfl,D3.out,.inl ⟨hc,hr2,(h3.to (by ac_rfl:_=(dg nc (.slice va l.length vc)*cH pc (id,at'))*(dM t s' m O*(D*F)))).right⟩⟩);clear h3 HQ hr hr2 hR D3 HOK
  go_wp2_with fail
  exact hfin.out
end
end Go.Cl
namespace Go.SL
def gz (T:Tr) (p:List UInt8) (a c:Int):Int:=if 0≤a∧0≤c∧c≤4096 then (if (bW T p).1≠0 then (bW T p).1 else match T (bW T p).2 with
 | some (.file _)=>0
 | _=>8) else 1
def lJ (T:Tr) (p:List UInt8) (a c:Int):List UInt8:=match T (bW T p).2 with
 | some (.file f)=>f.sub a.toNat c.toNat
 | _=>[]
end Go.SL
namespace Go.Cl
open Go.RowKit Go.SL Go.Nn Go.Ba Go.Su Go.Fs
attribute [local go_sem] Oper.semAt_some
section
variable {n:Nat} {x:Fx n} {b v pc ac nc rc k:Nat} {T:Tr} {w:World} {F:ah} {p:List UInt8} {a c:Int}
theorem IS (ht:Tidy n T) (hgd:gz T p a c=0) (h:Sat w (vA x b v T k*(aA pc p*(aF ac a*(aF nc c*(dg rc (.slice none 0 0)*F)))))) :
  Calls Tryz.prog 54 #[ax v,ax pc,ax ac,ax nc,ax rc] w (FT (gz T p a c) (vA x b v T k*(aA pc p*(aF ac a*(aF nc c*(tQ rc (lJ T p a c)*F))))) (vA x b v T k*(aA pc p*(aF ac a*(aF nc c*(dg rc (.slice none 0 0)*F))))) w):=by
 refine aI fun Q HQ=>?_;have cp:w.cell? ⟨pc,0,none⟩=some (.string (str p)):=h.ag.cell 0;have H:=ae h;have HT:=ae ht
 have Hbad:Hid (∀ e,e≠0→e=gz T p a c→∀ (w':World),ai w w'→Sat w' (vA x b v T k*(aA pc p*(aF ac a*(aF nc c*(dg rc (.slice none 0 0)*F)))))→Q (.panicked (mf e)) w'):=fun e hc he w' d hs=>
  HQ.out _ _ ⟨d,.inr ⟨by rw [← he];exact hc,by rw [he],hs⟩⟩
 have hneed:=ae ns;have hno:=ae pG;clear h
 cases hs:aV p with
 | none=>
  exact absurd ((by unfold gz;rw [pO hs];split <;> rfl:(1:Int)=gz T p a c).trans hgd) (by decide)
 | some ps=>
  obtain ⟨hok,hl⟩:=di hs;have hpw:=eW (T:=T) hs;have hk:=ae (dK (w:=w) hs);have hy:=fun h0=>ht.walk ps ht.root.choose_spec h0;have HL:=ae hl;have HPW:=ae hpw;have HY:=ae hy;clear ht hs hl hok hpw hy
  by_cases hr:0≤a∧0≤c∧c≤4096
  ·have HOC:=ae (show gz T p a c=if (aR T 1 ps).1≠0 then (aR T 1 ps).1 else match T (aR T 1 ps).2 with|some (.file _)=>0|_=>8 by unfold gz;rw [if_pos hr,HPW.out])
   have HOL:=ae (show lJ T p a c=match T (aR T 1 ps).2 with|some (.file f)=>f.sub a.toNat c.toNat|_=>[] by unfold lJ;rw [HPW.out]);obtain ⟨r1,r2,r3⟩:=hr
   go_enter Tryz.func54,Tryz.ntmps54
   go_wp2_with fail
   refine hk.out.mono ?_;rintro e w2 ⟨u,rfl,d2,h2⟩;have h3:=(h2.under H.out)
   have a0:w2.cell? ⟨ac,0,none⟩=some (.int .i64 a):=h3.aC.cell 0;have n0:w2.cell? ⟨nc,0,none⟩=some (.int .i64 c):=h3.aG.cell 0;have hw:=ae (fI HT.out HL.out iz h3.ag);generalize aR T 1 ps=pw at *;obtain ⟨wc,id⟩:=pw;dsimp only at hw HY HOC HOL;clear cp hk h2 h3 HL HPW
   go_wp2_with fail
   refine (hneed.out _).mono ?_;rintro e w2' ⟨rfl,rfl⟩;clear hneed hno
   go_wp2_with fail
   refine hw.out.mono ?_;rintro e w3 ⟨he,d3,h3⟩;clear hw;have D3:=ae (d2.trans d3);clear d2 d3;rcases he with ⟨rfl,rfl⟩|⟨hc,rfl⟩
   ·obtain ⟨y,hy⟩:=HY.out rfl
    have hfl:=ae (mX hy h3);clear h3 HY a0 n0
    go_wp2_with fail
    refine hfl.out.mono ?_;rintro e w5 hq;rcases hq with ⟨hk1,z,rfl,y16,ykd,ylk,ysz,d5,h5⟩|⟨hk1,rfl,d5,h5⟩
    ·cases y with
     | dir L=>exact absurd hk1 (by show ¬ (2:Int)=1;decide)
     | file f=>
      rw [hy] at HOC HOL;have hoc:gz T p a c=0:=HOC.out;have hol:lJ T p a c=f.sub a.toNat c.toNat:=HOL.out;rw [hoc,hol] at HQ;obtain ⟨ma,rfl⟩:∃ m:Nat,a=(m:Int):=⟨a.toNat,by omega⟩
      obtain ⟨mc,rfl⟩:∃ m:Nat,c=(m:Int):=⟨c.toNat,by omega⟩
      simp only [Int.toNat_natCast] at HQ;have hb:=ae (sQ hy ma mc h5);have h6:=h5.to (by ac_rfl:_=aF ac (ma:Int)*(aF nc (mc:Int)*(vA x b v T k*(eK u ps*(aA pc p*(dg rc (.slice none 0 0)*F))))));have a0:w5.cell? ⟨ac,0,none⟩=some (.int .i64 (ma:Int)):=h6.cell 0;have n0:w5.cell? ⟨nc,0,none⟩=some (.int .i64 (mc:Int)):=h6.ag.cell 0;have D5:=ae (D3.out.trans d5);clear hy HOC HOL hoc hol Hbad h5 h6 hfl y16 ykd ylk ysz d5 D3 hk1 H;generalize f.sub ma mc=l at *
      go_wp2_with fail
      refine hb.out.mono ?_;rintro e w6 ⟨u2,rfl,d6,h6⟩;have h3:=h6.to (by unfold dg;ac_rfl:_=pt rc (.cells #[.slice none 0 0] 37 (0,0))*(bs 5 u2 l*(vA x b v T k*(aA pc p*(aF ac (ma:Int)*(aF nc (mc:Int)*(eK u ps*F)))))));have t0:w6.cell? ⟨rc,0,none⟩=some (.slice none 0 0):=h3.cell 0;have g0:=h3.frozen 0;have h4:=h3.setCell 0 u2;simp only [List.setIfInBounds_toArray,List.set_cons_zero] at h4;obtain ⟨ua,uc,rfl⟩:=aB h4.ag;have h5:Sat (w6.setCell ⟨rc,0,none⟩ (.slice ua l.length uc)) (tQ rc l*(vA x b v T k*(aA pc p*(aF ac (ma:Int)*(aF nc (mc:Int)*(eK u ps*F)))))):=oY.2 ⟨_,h4.to (by unfold dg;ac_rfl)⟩;have hfin:=ae (HQ.out _ _ ⟨(D5.out.trans d6).setCell ⟨rc,0,none⟩ (.slice ua l.length uc),.inl ⟨rfl,rfl,(h5.to (by ac_rfl:_=eK u ps*(vA x b v T k*(aA pc p*(aF ac (ma:Int)*(aF nc (mc:Int)*(tQ rc l*F))))))).right⟩⟩);clear h3 h4 h5 h6 HQ hb d6 D5
      go_wp2_with fail
      go_end0
      exact hfin.out
    ·have hoc:(8:Int)=gz T p a c:=by
      rw [HOC.out,if_neg (by decide),hy]
      cases y with
      | dir L=>rfl
      | file f=>exact absurd (HT.out.files _ _ hy) hk1
     exact absurd (hoc.trans hgd) (by decide)
   ·exact absurd ((by rw [HOC.out,if_pos hc]:gz T p a c=_).symm.trans hgd) hc
  ·have hc:(1:Int)=gz T p a c:=by unfold gz;rw [if_neg hr]
   exact absurd (hc.trans hgd) (by decide)
end
section
variable {t:Pl} {q:Dk t.n} {s s':Ds} {T:Tr} {k m:Nat} {O:kg} {w:World} {F:ah} {p:List UInt8} {a c:Int}
def xd (t:Pl) (m:Nat) (s:Ds) (O:kg) (c:Int) (l:List UInt8) (F:ah) (w:World) (e:Ending) (w':World):Prop:=
 ∃ s',ai w w'∧s.Rd s'∧((c≠0∧e = .returned (.tuple #[.slice none 0 0,.int .i64 c])∧Sat w' (dM t s' m O*F)) ∨
  (c=0∧∃ u,e = .returned (.tuple #[u,.int .i64 0])∧Sat w' (bs 5 u l*(dM t s' m O*F))))
theorem IC (hf:nr t q s T k) (hB:s.B≤1000000) (hgd:gz T p a c=0) (h:Sat w (dM t s m O*F)) :
  Calls Tryz.prog 21 #[ax t.f,.string (str p),.int .i64 a,.int .i64 c] w (xd t m s O (gz T p a c) (lJ T p a c) F w):=by
 refine aI fun Q HQ=>?_;have hA:=((((h.alloc (.cells #[.string (str p)] 9 (0,0))).alloc (.cells #[.int .i64 a] 3 (0,0))).alloc (.cells #[.int .i64 c] 3 (0,0))).alloc (.cells #[.slice none 0 0] 37 (0,0)))
 simp only [World.size_alloc] at hA;have dA:=ae (((((ai.refl w).alloc (.cells #[.string (str p)] 9 (0,0))).alloc (.cells #[.int .i64 a] 3 (0,0))).alloc (.cells #[.int .i64 c] 3 (0,0))).alloc (.cells #[.slice none 0 0] 37 (0,0)))
 have hd:=ae fun (pc ac nc rc:Nat) (w':World) (h':Sat w' (dM t s m O*((aA pc p*(aF ac a*(aF nc c*dg rc (.slice none 0 0))))*F)))=>
  iP hf hB 54 #[ax pc,ax ac,ax nc,ax rc] (aA pc p*(aF ac a*(aF nc c*dg rc (.slice none 0 0)))) (gz T p a c) (aA pc p*(aF ac a*(aF nc c*tQ rc (lJ T p a c)))) (aA pc p*(aF ac a*(aF nc c*dg rc (.slice none 0 0)))) (enters Tryz.func54 (by kernel_rfl) rfl)
   (fun x v b w1 H hw=>(IS (x:=x) (b:=b) (v:=v) (k:=k) (pc:=pc) (ac:=ac) (nc:=nc) (rc:=rc) (F:=ew t m O*H) (p:=p) hf.ty hgd (hw.to (by ac_rfl))).mono fun e w' hq=>by simpa only [aw] using hq) h'
 have HA:=ae hA;clear hgd;unfold xd at HQ;clear h hA hB hf;generalize gz T p a c=cc at *;generalize lJ T p a c=l at *
 go_enter Tryz.func21,Tryz.ntmps21
 go_wp2_with fail
 generalize (((w.alloc (.cells #[.string (str p)] 9 (0,0))).alloc (.cells #[.int .i64 a] 3 (0,0))).alloc (.cells #[.int .i64 c] 3 (0,0))).alloc (.cells #[.slice none 0 0] 37 (0,0))=w1 at *;generalize w.heap.size=pc at *;refine (hd.out pc (pc+1) (pc+1+1) (pc+1+1+1) _ (HA.out.to (by unfold aA aF dg;ac_rfl))).mono ?_;rintro e w2 ⟨s',rfl,d2,hr,h2⟩;have D2:=ae (dA.out.trans d2);clear hd dA HA d2
 by_cases hc:cc=0
 ·subst hc
  rw [if_pos rfl] at h2;obtain ⟨u,h3⟩:=(oY (a:=pc+1+1+1)).1 (h2.to (by ac_rfl:_=tQ (pc+1+1+1) l*(dM t s' m O*(aA pc p*(aF (pc+1) a*(aF (pc+1+1) c*F))))));obtain ⟨ua,uc,rfl⟩:=aB h3;have t0:w2.cell? ⟨pc+1+1+1,0,none⟩=some (.slice ua l.length uc):=h3.ag.cell 0;have hfin:=ae (HQ.out _ _ ⟨s',D2.out,hr,.inr ⟨rfl,_,rfl,(h3.to (by ac_rfl:_=(dg (pc+1+1+1) (.slice ua l.length uc)*(aA pc p*(aF (pc+1) a*aF (pc+1+1) c)))*(bs 5 (.slice ua l.length uc) l*(dM t s' m O*F)))).right⟩⟩);clear h2 h3 HQ hr D2
  go_wp2_with fail
  exact hfin.out
 ·rw [if_neg hc] at h2
  have hfin:=ae (HQ.out _ _ ⟨s',D2.out,hr,.inl ⟨hc,rfl,(h2.to (by ac_rfl:_=(aA pc p*(aF (pc+1) a*(aF (pc+1+1) c*dg (pc+1+1+1) (.slice none 0 0))))*(dM t s' m O*F))).right⟩⟩);clear h2 HQ hr D2
  go_wp2_with fail
  exact hfin.out
end
end Go.Cl

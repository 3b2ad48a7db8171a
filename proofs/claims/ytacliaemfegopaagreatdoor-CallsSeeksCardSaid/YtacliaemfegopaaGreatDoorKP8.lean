/- Steps. -/
import Derived.Test.YtacliaemfegopaaGreatDoorKP1
import Derived.OwnWalkIn
import Derived.RangeFuncNested
import Derived.RangeFuncBound
import Derived.RangeFuncCalls
import Derived.RangeFuncLeaves
set_option linter.unusedVariables false
set_option linter.unusedSimpArgs false
set_option maxRecDepth 100000
set_option maxHeartbeats 40000000
open Go.Proofs Go.SL
namespace Go.SL
open Go.RowKit
variable {F:Fence} {n:Nat} {P:Program}
theorem Sat.putObj {w:World} {b:Nat} {o:Obj} {R:ah} (h:Sat w (pt b o*R)) (o':Obj):Sat (w.putObj b o') (pt b o'*R):=
 h.fw (World.putObj_heap_same h.lt) fun _ hc=>World.putObj_heap_other hc
theorem ai.putObj {a b:World} (h:ai a b) (r:Nat) (o:Obj):ai a (b.putObj r o):=h.trans ⟨rfl,rfl,rfl,by simp⟩
def Yields {α:Type} (F:Fence) (n:Nat) (P:Program) (l:Nat) (w0:World) (A Ax:List α→ah) (T:α→Array Value→ah) (Sp:List α→Prop):Prop:=
 ∀ (pre:List α) (x:α) (vs:Array Value) (Fr:ah) (W:World),Sp (pre++[x])→ai w0 W→Sat W (A pre*(T x vs*Fr)) →
  YieldAt F n P l vs W fun e W'=>(e = .returned (.bool true)∧ai w0 W'∧Sat W' (A (pre++[x])*Fr))∨(e = .returned (.bool false)∧ai w0 W'∧Sat W' (Ax (pre++[x])*Fr))
def fE {α:Type} (F:Fence) (n:Nat) (P:Program) (gf:Nat) (lb:Array Value) (It:ah) (T:α→Array Value→ah) (S Sp:List α→Prop):Prop:=
 ∀ (l:Nat) (A Ax:List α→ah) (G:ah) (w0 w:World),Yields F (n-1) P l w0 A Ax T Sp→ai w0 w→Sat w (A []*(It*G)) →
  CallsIn F n P gf (#[.func (.yield l) #[] #[]]++lb) w fun e w'=>(∃ v,e = .returned v)∧ai w0 w' ∧
   ((∃ ys,S ys∧Sat w' (A ys*(It*G)))∨∃ ys,Sp ys∧Sat w' (Ax ys*(It*G)))
def mP {α:Type} (C:(List α→ah)→Prop) (F:Fence) (n:Nat) (P:Program) (gf:Nat) (lb:Array Value) (It:ah) (T:α→Array Value→ah) (S Sp:List α→Prop):Prop:=
 ∀ (l:Nat) (A Ax:List α→ah) (G:ah) (w0 w:World),C A→Yields F (n-1) P l w0 A Ax T Sp→ai w0 w→Sat w (A []*(It*G)) →
  CallsIn F n P gf (#[.func (.yield l) #[] #[]]++lb) w fun e w'=>(∃ v,e = .returned v)∧ai w0 w' ∧
   ((∃ ys,S ys∧Sat w' (A ys*(It*G)))∨∃ ys,Sp ys∧Sat w' (Ax ys*(It*G)))
def yk {α:Type} (R:ah):(List α→ah)→Prop:=fun A=>∃ A':List α→ah,A=fun ys=>R*A' ys
theorem ui {α:Type} {R:ah} {A:List α→ah} (h:yk R A) (X:ah):yk R fun ys=>A ys*X:=by
 obtain ⟨A',rfl⟩:=h;exact ⟨fun ys=>A' ys*X,by funext ys;exact aw _ _ _⟩
theorem zQ {α:Type} (R:ah) (A':List α→ah):yk R fun ys=>R*A' ys:=⟨A',rfl⟩
def sK {α:Type} (w0:World) (A:List α→ah) (Ax:Code→List α→ah) (ys:List α) (Fr:ah):Exit→Act→World→Prop
 | .normal,_,W=>ai w0 W∧Sat W (A ys*Fr)
 | .ret,_,W=>ai w0 W∧Sat W (Ax .ret ys*Fr)
 | .exit id,_,W=>ai w0 W∧Sat W (Ax (.exit id) ys*Fr)
 | .goto t,_,W=>ai w0 W∧Sat W (Ax (.goto t) ys*Fr)
 | .panic _,_,_=>False
 | .outgrown,_,_=>False
theorem Fi {α:Type} {ps:Array Tmp} {assign body:Code} {tmps:Array Value} {w0:World} {fn:FuncId} (hfn:F.fn fn) {m:Nat} (L D:Nat)
  (A:List α→ah) (Ax:Code→List α→ah) (B:List α→α→Act→ah) (T:α→Array Value→ah) (Sp:List α→Prop)
  (hps:∀ x vs Fr W,Sat W (T x vs*Fr)→vs.size=ps.size)
  (hassign:∀ (l:Nat) (r:Loop) (pre:List α) (x:α) (vs:Array Value) (Fr:ah) (W:World) (K:Act→World→Prop),Sp (pre++[x])→ai w0 W→Sat W (A pre*(T x vs*(pt l (.loop r)*Fr))) →
   (∀ a' W',ai w0 W'→Sat W' (B pre x a'*(pt l (.loop r)*Fr))→K a' W') →
   assign.wpIn (F.inRound l) m P (Exit.then K (fun _ _ _=>False)) { tmps:=(ps.zip vs).foldl (fun t (p,v)=>t.setIfInBounds p v) tmps,defers:=[] } W)
  (hbody:∀ (l:Nat) (r:Loop) (pre:List α) (x:α) (a':Act) (Fr:ah) (W:World),Sp (pre++[x])→ai w0 W→Sat W (B pre x a'*(pt l (.loop r)*Fr)) →
   body.wpIn (F.inRound l) m P (sK w0 A Ax (pre++[x]) (pt l (.loop r)*Fr)) a' W)
  (rec:LoopState→Option Code→Loop) (hrec:rec=fun st pe=>{ state:=st,pending:=pe,fn,tmps,params:=ps,assign,body,defers:=D }) :
  Yields F m P L w0 (fun ys=>A ys*pt L (.loop (rec .ready none))) (fun ys=>ex fun c=>Ax c ys*pt L (.loop (rec .done (some c)))) T Sp:=by
 intro pre x vs Fr W hsp hsd H0;have H:Sat W (A pre*pt L (.loop (rec .ready none))*(T x vs*Fr)):=H0;have HL:Sat W (pt L (.loop (rec .ready none))*(A pre*(T x vs*Fr))):=H.to (by ac_rfl);have hl:=HL.heap;have hy:=run_yield (P:=P) (args:=vs) hl (by rw [hrec];exact hps x vs (A pre*(pt L (.loop (rec .ready none))*Fr)) W (H.to (by ac_rfl)));rw [hrec] at hy;refine ⟨fn,_,assign,body,hy,roundIn_of_wpIn hfn (hassign L (rec .ready none) pre x vs Fr W _ hsp hsd (H.to (by ac_rfl)) ?_)⟩;clear hy;intro a' Wa hsa HB;have HBl:Sat Wa (pt L (.loop (rec .ready none))*(B pre x a'*Fr)):=HB.to (by ac_rfl);refine ⟨_,run_beginRound HBl.heap (by rw [hrec]),?_⟩;have HB2:=HBl.putObj (.loop { rec .ready none with state:=.busy });refine wpIn_mono (hbody L _ pre x a' Fr _ hsp (hsa.putObj _ _) (HB2.to (by ac_rfl))) ?_
 have fin:∀ (X:ah) (jump:Option Code) (W3:World),ai w0 W3→Sat W3 (X*(pt L (.loop { rec .ready none with state:=.busy })*Fr)) →
   ∃ W4,(Instr.endRound L jump).run P W3 = .ok (.bool jump.isNone) W4∧ai w0 W4∧Sat W4 (X*pt L (.loop (rec (if jump.isNone then .ready else .done) jump))*Fr):=by
  intro X jump W3 hs3 H3;have H3l:Sat W3 (pt L (.loop { rec .ready none with state:=.busy })*(X*Fr)):=H3.to (by ac_rfl);have:=run_endRound (P:=P) jump H3l.heap;refine ⟨_,this,hs3.putObj _ _,?_⟩;have H4:=H3l.putObj (.loop { ({ rec .ready none with state:=.busy }:Loop) with state:=if jump.isNone then .ready else .done,pending:=jump });rw [hrec] at H4 ⊢;exact H4.to (by ac_rfl)
 rintro e a3 W3 hp
 cases e with
 | normal=>
  obtain ⟨W4,hr,hs4,H4⟩:=fin _ none W3 hp.1 hp.2;exact ⟨_,_,hr,.inl ⟨rfl,hs4,H4⟩⟩
 | ret=>
  obtain ⟨W4,hr,hs4,H4⟩:=fin _ (some .ret) W3 hp.1 hp.2;exact ⟨_,_,hr,.inr ⟨rfl,hs4,Sat.au.2 ⟨_,H4⟩⟩⟩
 | exit id=>
  obtain ⟨W4,hr,hs4,H4⟩:=fin _ (some (.exit id)) W3 hp.1 hp.2;exact ⟨_,_,hr,.inr ⟨rfl,hs4,Sat.au.2 ⟨_,H4⟩⟩⟩
 | goto t=>
  obtain ⟨W4,hr,hs4,H4⟩:=fin _ (some (.goto t)) W3 hp.1 hp.2;exact ⟨_,_,hr,.inr ⟨rfl,hs4,Sat.au.2 ⟨_,H4⟩⟩⟩
 | panic ch=>exact hp.elim
 | outgrown=>exact hp.elim
theorem rn {α:Type} {C:(List α→ah)→Prop} {g:Operand} {ps:Array Tmp} {assign body:Code} {Q:Exit→Act→World→Prop} {a:Act} {w w0:World}
  (hro:F.round=none) (h1:1≤n) {gf:Nat} {lb:Array Value} (hg:a.eval g = .func (.func gf) #[] lb) (hFg:F.fn gf) (eg:∀ args w,(callFunc gf args).run P w = .ok (.enter gf args) w)
  {It:ah} {T:α→Array Value→ah} {S Sp:List α→Prop} (hit:mP C F (n-1) P gf lb It T S Sp)
  (A:List α→ah) (hC:∀ X,C fun ys=>A ys*X) (Ax:Code→List α→ah) (B:List α→α→Act→ah) (G:ah)
  (hps:∀ x vs Fr W,Sat W (T x vs*Fr)→vs.size=ps.size) (hs:ai w0 w) (h0:Sat w (A []*(It*G)))
  (hassign:∀ (l:Nat) (r:Loop) (pre:List α) (x:α) (vs:Array Value) (Fr:ah) (W:World) (K:Act→World→Prop),Sp (pre++[x])→ai w0 W→Sat W (A pre*(T x vs*(pt l (.loop r)*Fr))) →
   (∀ a' W',ai w0 W'→Sat W' (B pre x a'*(pt l (.loop r)*Fr))→K a' W') →
   assign.wpIn (F.inRound l) (n-1-1) P (Exit.then K (fun _ _ _=>False)) { tmps:=(ps.zip vs).foldl (fun t (p,v)=>t.setIfInBounds p v) a.tmps,defers:=[] } W)
  (hbody:∀ (l:Nat) (r:Loop) (pre:List α) (x:α) (a':Act) (Fr:ah) (W:World),Sp (pre++[x])→ai w0 W→Sat W (B pre x a'*(pt l (.loop r)*Fr)) →
   body.wpIn (F.inRound l) (n-1-1) P (sK w0 A Ax (pre++[x]) (pt l (.loop r)*Fr)) a' W)
  (hdone:∀ (D:Nat) (ys:List α) (W:World),S ys→ai w0 W→Sat W (A ys*(It*(pt D (.deferred (some []))*G))) →
   Q .normal { a with defers:={ target:=.collected D,args:=#[] } :: a.defers } W)
  (hstop:∀ (D:Nat) (c:Code) (ys:List α) (W:World),Sp ys→ai w0 W→Sat W (Ax c ys*(It*(pt D (.deferred (some []))*G))) →
   c.wpIn F n P Q { a with defers:={ target:=.collected D,args:=#[] } :: a.defers } W) :
  (Code.rangeFunc g ps assign body).wpIn F n P Q a w:=by
 refine wpIn_rangeFunc ?_;intro fn hfn;rw [hro];obtain ⟨rec,hrec⟩:∃ rec:LoopState→Option Code→Loop,rec=fun st pe=>{ state:=st,pending:=pe,fn,tmps:=a.tmps,params:=ps,assign,body,defers:=w.heap.size }:=⟨_,rfl⟩
 obtain ⟨W1,hW1⟩:∃ W1,(w.alloc (.deferred (some []))).alloc (.loop (rec .ready none))=W1:=⟨_,rfl⟩
 have H1:Sat W1 (pt (w.heap.size+1) (.loop (rec .ready none))*(pt w.heap.size (.deferred (some []))*(A []*(It*G)))):=by
  have:=(h0.alloc (.deferred (some []))).alloc (.loop (rec .ready none));rw [World.size_alloc,hW1] at this;exact this
 have hs1:ai w0 W1:=by rw [← hW1];exact (hs.alloc _).alloc _
 refine ⟨w.heap.size+1,[{ target:=.collected w.heap.size,args:=#[] }],W1,{ target:=.fn (.func gf) lb,args:=#[.func (.yield (w.heap.size+1)) #[] #[]] },W1,gf,
  #[.func (.yield (w.heap.size+1)) #[] #[]]++lb,W1,?_,?_,?_,?_,fun _=>h1,?_⟩
 ·rw [← hW1,hrec];exact run_enterLoop_outer _ _ _ _ _
 ·simp only [resolve,hg]
  simp [go_sem]
 ·intro f' hf';simp [Target.leads] at hf';subst hf';exact hFg
 ·simp [invoke,go_sem,eg]
 ·refine (hit (w.heap.size+1) _ _ (pt w.heap.size (.deferred (some []))*G) w0 W1 (hC _)
   (Fi hfn (w.heap.size+1) w.heap.size A Ax B T Sp hps hassign hbody rec hrec) hs1 (show Sat W1 (A []*pt _ (.loop (rec .ready none))*_) from H1.to (by ac_rfl))).mono ?_
  rintro e W2 ⟨⟨v,rfl⟩,hs2,(⟨ys,hS,H2⟩|⟨ys,hSp,H2⟩)⟩
  ·replace H2:Sat W2 (A ys*pt (w.heap.size+1) (.loop (rec .ready none))*(It*(pt w.heap.size (.deferred (some []))*G))):=H2
   have H2l:Sat W2 (pt (w.heap.size+1) (.loop (rec .ready none))*(A ys*(It*(pt w.heap.size (.deferred (some []))*G)))):=H2.to (by ac_rfl);have:=run_endLoop (P:=P) H2l.heap (by rw [hrec];simp);rw [hrec] at this;exact ⟨none,_,this,hdone _ ys _ hS (hs2.putObj _ _) (H2l.putObj _).right⟩
  ·obtain ⟨c,H2⟩:=Sat.au.1 H2
   have H2l:Sat W2 (pt (w.heap.size+1) (.loop (rec .done (some c)))*(Ax c ys*(It*(pt w.heap.size (.deferred (some []))*G)))):=H2.to (by ac_rfl);have:=run_endLoop (P:=P) H2l.heap (by rw [hrec];simp);rw [hrec] at this;exact ⟨some c,_,this,hstop _ c ys _ hSp (hs2.putObj _ _) (H2l.putObj _).right⟩
theorem jl {α:Type} {g:Operand} {ps:Array Tmp} {assign body:Code} {Q:Exit→Act→World→Prop} {a:Act} {w w0:World}
  (hro:F.round=none) (h1:1≤n) {gf:Nat} {lb:Array Value} (hg:a.eval g = .func (.func gf) #[] lb) (hFg:F.fn gf) (eg:∀ args w,(callFunc gf args).run P w = .ok (.enter gf args) w)
  {It:ah} {T:α→Array Value→ah} {S Sp:List α→Prop} (hit:fE F (n-1) P gf lb It T S Sp)
  (A:List α→ah) (Ax:Code→List α→ah) (B:List α→α→Act→ah) (G:ah)
  (hps:∀ x vs Fr W,Sat W (T x vs*Fr)→vs.size=ps.size) (hs:ai w0 w) (h0:Sat w (A []*(It*G)))
  (hassign:∀ (l:Nat) (r:Loop) (pre:List α) (x:α) (vs:Array Value) (Fr:ah) (W:World) (K:Act→World→Prop),Sp (pre++[x])→ai w0 W→Sat W (A pre*(T x vs*(pt l (.loop r)*Fr))) →
   (∀ a' W',ai w0 W'→Sat W' (B pre x a'*(pt l (.loop r)*Fr))→K a' W') →
   assign.wpIn (F.inRound l) (n-1-1) P (Exit.then K (fun _ _ _=>False)) { tmps:=(ps.zip vs).foldl (fun t (p,v)=>t.setIfInBounds p v) a.tmps,defers:=[] } W)
  (hbody:∀ (l:Nat) (r:Loop) (pre:List α) (x:α) (a':Act) (Fr:ah) (W:World),Sp (pre++[x])→ai w0 W→Sat W (B pre x a'*(pt l (.loop r)*Fr)) →
   body.wpIn (F.inRound l) (n-1-1) P (sK w0 A Ax (pre++[x]) (pt l (.loop r)*Fr)) a' W)
  (hdone:∀ (D:Nat) (ys:List α) (W:World),S ys→ai w0 W→Sat W (A ys*(It*(pt D (.deferred (some []))*G))) →
   Q .normal { a with defers:={ target:=.collected D,args:=#[] } :: a.defers } W)
  (hstop:∀ (D:Nat) (c:Code) (ys:List α) (W:World),Sp ys→ai w0 W→Sat W (Ax c ys*(It*(pt D (.deferred (some []))*G))) →
   c.wpIn F n P Q { a with defers:={ target:=.collected D,args:=#[] } :: a.defers } W) :
  (Code.rangeFunc g ps assign body).wpIn F n P Q a w:=
 rn (C:=fun _=>True) hro h1 hg hFg eg (fun l A Ax G w0 w _=>hit l A Ax G w0 w) A (fun _=>trivial) Ax B G hps hs h0 hassign hbody hdone hstop
theorem cY {F:Fence} {n:Nat} {P:Program} {w w':World} {ops:Array Oper} {rest:List Oper} {o:Oper} {a:Act} {Q:Exit→Act→World→Prop} {v xv v':Value} {t ty:TypeId}
  (hrun:(Builtin.append_ #[t,t] ty #[v,xv]).run P w = .ok v' w') (s x:Operand)
  (hg:o.guard=none) (hty:o.type=ty) (hop:o.op=Op.call { callee:=Callee.builtin Builtin.append,args:=#[s,x],argTypes:=#[t,t] })
  (hs:a.eval s=v) (hx:a.eval x=xv)
  (hK:wpListIn F n P ops Q rest (a.put o.dst v') w'):wpListIn F n P ops Q (o :: rest) a w:=by
 refine wpListIn_plain hg fun K hK'=>?_;subst hty hs hx;unfold Oper.wpIn;refine ⟨?_,?_⟩
 ·simp [Oper.about,hop,resolve,Target.leads,Sem.run_pure]
 ·rw [Oper.semAt_plain F _ _ (by rw [hop];intro c hc';cases hc')]
  simp [execOp,hop,resolve,invoke,builtin,hrun,Result.andThen];exact hK' _ _ hK
theorem wz {F:Fence} {n:Nat} {P:Program} {α:Type} {g:Operand} {ps:Array Tmp} {assign body:Code} {Q:Exit→Act→World→Prop} {a:Act} {w w0:World}
  (hro:F.round=none) (h1:1≤n) {gf:Nat} {lb:Array Value} (hg:a.eval g = .func (.func gf) #[] lb) (hFg:F.fn gf) (eg:∀ args w,(callFunc gf args).run P w = .ok (.enter gf args) w)
  {It:ah} {T:α→Array Value→ah} {S Sp:List α→Prop} (hit:fE F (n-1) P gf lb It T S Sp)
  (f:α→Array Value→Array Value) (A:List α→ah) (B:List α→α→ah) (G:ah)
  (hps:∀ x vs Fr W,Sat W (T x vs*Fr)→vs.size=ps.size) (hs:ai w0 w) (h0:Sat w (A []*(It*G)))
  (hassign:∀ (l:Nat) (r:Loop) (pre:List α) (x:α) (vs:Array Value) (Fr:ah) (W:World) (K:Act→World→Prop),Sp (pre++[x])→ai w0 W→Sat W (A pre*(T x vs*(pt l (.loop r)*Fr))) →
   (∀ W',ai w0 W'→Sat W' (B pre x*(pt l (.loop r)*Fr))→K { tmps:=f x a.tmps,defers:=[] } W') →
   assign.wpIn (F.inRound l) (n-1-1) P (Exit.then K (fun _ _ _=>False)) { tmps:=(ps.zip vs).foldl (fun t (p,v)=>t.setIfInBounds p v) a.tmps,defers:=[] } W)
  (hbody:∀ (l:Nat) (r:Loop) (pre:List α) (x:α) (Fr:ah) (W:World),Sp (pre++[x])→ai w0 W→Sat W (B pre x*(pt l (.loop r)*Fr)) →
   body.wpIn (F.inRound l) (n-1-1) P (sK w0 A (fun _ _=>fact False) (pre++[x]) (pt l (.loop r)*Fr)) { tmps:=f x a.tmps,defers:=[] } W)
  (hdone:∀ (D:Nat) (ys:List α) (W:World),S ys→ai w0 W→Sat W (A ys*(It*(pt D (.deferred (some []))*G))) →
   Q .normal { a with defers:={ target:=.collected D,args:=#[] } :: a.defers } W) :
  (Code.rangeFunc g ps assign body).wpIn F n P Q a w:=by
 refine jl hro h1 hg hFg eg hit A (fun _ _=>fact False) (fun pre x a'=>fact (a'={ tmps:=f x a.tmps,defers:=[] })*B pre x) G hps hs h0 ?_ ?_ hdone ?_
 ·intro l r pre x vs Fr W K hsp hsd H hK
  exact hassign l r pre x vs Fr W K hsp hsd H fun W' h1 h2=>hK _ W' h1 ((Sat.ak.2 ⟨rfl,h2⟩:Sat W' (fact _*_)).to (aw _ _ _).symm)
 ·intro l r pre x a' Fr W hsp hsd H
  obtain ⟨rfl,H2⟩:=Sat.ak.1 (H.to (aw _ _ _));exact hbody l r pre x Fr W hsp hsd H2
 ·intro D c ys W _ _ H
  exact (Sat.ak.1 H).1.elim
end Go.SL

/- Steps. -/
import Derived.Test.YtdickhgiahcnaaaGreatDoorNP1
import Derived.OwnWalkIn
import Derived.RangeFuncNested
import Derived.RangeFuncBound
import Derived.RangeFuncCalls
import Derived.RangeFuncLeaves
set_option linter.all false
set_option maxRecDepth 99999
set_option maxHeartbeats 0
open Go.SL
open Go renaming World->Z,Value->Y
open Option renaming some->Z',none->X
namespace Go.SL
open RowKit
variable {α:Type} {It:ai} {ps:Array Tmp} {assign body:Code} {g:Operand} {Q:Exit->Act->Z->Prop} {a:Act} {lb:Array Y}
variable {F:Fence} {n:Nat} {P:Program}
def ag.putObj {w:Z} {b:Nat} {o:Obj} {R:ai} (h:ag w (pt b o*R)) (a:Obj):ag (w.putObj b a) (pt b a*R):=
 h.fC (World.putObj_heap_same h.lt) fun _ c=>World.putObj_heap_other c
def aj.putObj {a b:Z} (h:aj a b) (r:Nat) (o:Obj):aj a (b.putObj r o):=h.trans ⟨rfl,rfl,rfl,Si0⟩
def Yields (F:Fence) (n:Nat) (P:Program) (l:Nat) (w0:Z) (A f:List α->ai) (T:α->Array Y->ai) (g:List α->Prop):Prop:=
 ∀ (b:List α) (x:α) (d:Array Y) (c:ai) (W:Z),g (b++[x])->aj w0 W->ag W (A b*(T x d*c)) ->
  YieldAt F n P l d W fun e a=>(e = .returned (.bool true)/\aj w0 a/\ag a (A (b++[x])*c))\/(e = .returned (.bool false)/\aj w0 a/\ag a (f (b++[x])*c))
def fF (F:Fence) (n:Nat) (P:Program) (gf:Nat) (lb:Array Y) (b:ai) (T:α->Array Y->ai) (S f:List α->Prop):Prop:=
 ∀ (l:Nat) (A d:List α->ai) (G:ai) (w0 w:Z),Yields F (n-1) P l w0 A d T f->aj w0 w->ag w (A []*(b*G)) ->
  CallsIn F n P gf (#[.func (.yield l) #[] #[]]++lb) w fun e c=>(∃ v,e = .returned v)/\aj w0 c /\
   ((∃ a,S a/\ag c (A a*(b*G)))\/∃ a,f a/\ag c (d a*(b*G)))
def oM (C:(List α->ai)->Prop) (F:Fence) (n:Nat) (P:Program) (gf:Nat) (lb:Array Y) (b:ai) (T:α->Array Y->ai) (S f:List α->Prop):Prop:=
 ∀ (l:Nat) (A d:List α->ai) (G:ai) (w0 w:Z),C A->Yields F (n-1) P l w0 A d T f->aj w0 w->ag w (A []*(b*G)) ->
  CallsIn F n P gf (#[.func (.yield l) #[] #[]]++lb) w fun e c=>(∃ v,e = .returned v)/\aj w0 c /\
   ((∃ a,S a/\ag c (A a*(b*G)))\/∃ a,f a/\ag c (d a*(b*G)))
def CU (R:ai):(List α->ai)->Prop:=fun A=>∃ a:List α->ai,A=fun b=>R*a b
def wH {A:List α->ai} (h:CU It A) (a:ai):CU It fun ys=>A ys*a:=by
 obtain ⟨b,rfl⟩:=h;exact ⟨fun ys=>b ys*a,by funext ys;exact ay _ _ _⟩
def BW (R:ai) (a:List α->ai):CU R fun ys=>R*a ys:=⟨a,rfl⟩
def uX (w0:Z) (A:List α->ai) (c:Code->List α->ai) (b:List α) (a:ai):Exit->Act->Z->Prop
 | .normal,_,W=>aj w0 W/\ag W (A b*a)
 | .ret,_,W=>aj w0 W/\ag W (c .ret b*a)
 | .exit d,_,W=>aj w0 W/\ag W (c (.exit d) b*a)
 | .goto t,_,W=>aj w0 W/\ag W (c (.goto t) b*a)
 | .panic _,_,_=>False
 | .outgrown,_,_=>False
def Ib {tmps:Array Y} {w0:Z} {fn:FuncId} (b0:F.fn fn) {m:Nat} (L D:Nat)
  (A:List α->ai) (E:Code->List α->ai) (B:List α->α->Act->ai) (T:α->Array Y->ai) (y:List α->Prop)
  (hps:∀ x f a W,ag W (T x f*a)->f.size=ps.size)
  (U:∀ (l:Nat) (r:Loop) (b:List α) (x:α) (f:Array Y) (a:ai) (W:Z) (K:Act->Z->Prop),y (b++[x])->aj w0 W->ag W (A b*(T x f*(pt l (.loop r)*a))) ->
   (∀ j z,aj w0 z->ag z (B b x j*(pt l (.loop r)*a))->K j z) ->
   assign.wpIn (F.inRound l) m P (Exit.then K (fun _ _ _=>False)) { tmps:=(ps.zip f).foldl (fun t (f0,v)=>t.setIfInBounds f0 v) tmps,defers:=[] } W)
  (V:∀ (l:Nat) (r:Loop) (b:List α) (x:α) (j:Act) (a:ai) (W:Z),y (b++[x])->aj w0 W->ag W (B b x j*(pt l (.loop r)*a)) ->
   body.wpIn (F.inRound l) m P (uX w0 A E (b++[x]) (pt l (.loop r)*a)) j W)
  (d:LoopState->Option Code->Loop) (w:d=fun st pe=>{ state:=st,pending:=pe,fn,tmps,params:=ps,assign,body,defers:=D }) :
  Yields F m P L w0 (fun C=>A C*pt L (.loop (d .ready X))) (fun C=>ex fun c=>E c C*pt L (.loop (d .done (Z' c)))) T y:=by
 intro b x f a W J e0 M;have H:ag W (A b*pt L (.loop (d .ready X))*(T x f*a)):=M;have R:ag W (pt L (.loop (d .ready X))*(A b*(T x f*a))):=H.u00;have hl:=R.heap;have hy:=run_yield (P:=P) (args:=f) hl (by rw [w];exact hps x f (A b*(pt L (.loop (d .ready X))*a)) W (H.u00));rw [w] at hy;refine ⟨fn,_,assign,body,hy,roundIn_of_wpIn b0 (U L (d .ready X) b x f a W _ J e0 (H.u00) ?_)⟩;clear hy;intro j S d0 O;have I:ag S (pt L (.loop (d .ready X))*(B b x j*a)):=O.u00;refine ⟨_,run_beginRound I.heap (by rw [w]),?_⟩;have Q:=I.putObj (.loop { d .ready X with state:=.busy });refine wpIn_mono (V L _ b x j a _ J (d0.putObj _ _) (Q.u00)) ?_
 have u:∀ (s:ai) (k:Option Code) (h:Z),aj w0 h->ag h (s*(pt L (.loop { d .ready X with state:=.busy })*a)) ->
   ∃ o,(Instr.endRound L k).run P h = .ok (.bool k.isNone) o/\aj w0 o/\ag o (s*pt L (.loop (d (if k.isNone then .ready else .done) k))*a):=by
  intro s k h c0 N;have G:ag h (pt L (.loop { d .ready X with state:=.busy })*(s*a)):=N.u00;have:=run_endRound (P:=P) k G.heap;refine ⟨_,this,c0.putObj _ _,?_⟩;have g:=G.putObj (.loop { ({ d .ready X with state:=.busy }:Loop) with state:=if k.isNone then .ready else .done,pending:=k });rw [w] at g ⊢;exact g.u00
 rintro e a3 h i
 cases e with
 | normal=>
  obtain ⟨o,p,q,g⟩:=u _ X h i.1 i.2;exact ⟨_,_,p,.inl ⟨rfl,q,g⟩⟩
 | ret=>
  obtain ⟨o,p,q,g⟩:=u _ (Z' .ret) h i.1 i.2;exact ⟨_,_,p,.inr ⟨rfl,q,ag.aw.2 ⟨_,g⟩⟩⟩
 | exit id=>
  obtain ⟨o,p,q,g⟩:=u _ (Z' (.exit id)) h i.1 i.2;exact ⟨_,_,p,.inr ⟨rfl,q,ag.aw.2 ⟨_,g⟩⟩⟩
 | goto t=>
  obtain ⟨o,p,q,g⟩:=u _ (Z' (.goto t)) h i.1 i.2;exact ⟨_,_,p,.inr ⟨rfl,q,ag.aw.2 ⟨_,g⟩⟩⟩
 | panic ch=>exact i.elim
 | outgrown=>exact i.elim
def tD {C:(List α->ai)->Prop} {w w0:Z}
  (g0:F.round=X) (N:1<=n) {i:Nat} (hg:a.eval g = .func (.func i) #[] lb) (R:F.fn i) (L:∀ z w,(callFunc i z).run P w = .ok (.enter i z) w) {T:α->Array Y->ai} {S o:List α->Prop} (f0:oM C F (n-1) P i lb It T S o)
  (A:List α->ai) (O:∀ J,C fun b=>A b*J) (s:Code->List α->ai) (B:List α->α->Act->ai) (G:ai)
  (hps:∀ x q e W,ag W (T x q*e)->q.size=ps.size) (hs:aj w0 w) (M:ag w (A []*(It*G)))
  (b0:∀ (l:Nat) (r:Loop) (j:List α) (x:α) (q:Array Y) (e:ai) (W:Z) (K:Act->Z->Prop),o (j++[x])->aj w0 W->ag W (A j*(T x q*(pt l (.loop r)*e))) ->
   (∀ p t,aj w0 t->ag t (B j x p*(pt l (.loop r)*e))->K p t) ->
   assign.wpIn (F.inRound l) (n-1-1) P (Exit.then K (fun _ _ _=>False)) { tmps:=(ps.zip q).foldl (fun k0 (j0,v)=>k0.setIfInBounds j0 v) a.tmps,defers:=[] } W)
  (c0:∀ (l:Nat) (r:Loop) (j:List α) (x:α) (p:Act) (e:ai) (W:Z),o (j++[x])->aj w0 W->ag W (B j x p*(pt l (.loop r)*e)) ->
   body.wpIn (F.inRound l) (n-1-1) P (uX w0 A s (j++[x]) (pt l (.loop r)*e)) p W)
  (d0:∀ (D:Nat) (b:List α) (W:Z),S b->aj w0 W->ag W (A b*(It*(pt D (.deferred (Z' []))*G))) ->
   Q .normal { a with defers:={ target:=.collected D,args:=#[] } :: a.defers } W)
  (i0:∀ (D:Nat) (c:Code) (b:List α) (W:Z),o b->aj w0 W->ag W (s c b*(It*(pt D (.deferred (Z' []))*G))) ->
   c.wpIn F n P Q { a with defers:={ target:=.collected D,args:=#[] } :: a.defers } W) :
  (Code.rangeFunc g ps assign body).wpIn F n P Q a w:=by
 refine wpIn_rangeFunc ?_;intro fn e0;rw [g0];obtain ⟨d,k⟩:∃ d:LoopState->Option Code->Loop,d=fun st pe=>{ state:=st,pending:=pe,fn,tmps:=a.tmps,params:=ps,assign,body,defers:=w.heap.size }:=⟨_,rfl⟩
 obtain ⟨h,y⟩:=Nm ((w.alloc (.deferred (Z' []))).alloc (.loop (d .ready X)))
 have I:ag h (pt (w.heap.size+1) (.loop (d .ready X))*(pt w.heap.size (.deferred (Z' []))*(A []*(It*G)))):=by
  have:=(M.alloc (.deferred (Z' []))).alloc (.loop (d .ready X));rw [World.size_alloc,y] at this;exact this
 have h0:aj w0 h:=by rw [<- y];exact (hs.alloc _).alloc _
 refine ⟨w.heap.size+1,[{ target:=.collected w.heap.size,args:=#[] }],h,{ target:=.fn (.func i) lb,args:=#[.func (.yield (w.heap.size+1)) #[] #[]] },h,i,
  #[.func (.yield (w.heap.size+1)) #[] #[]]++lb,h,?_,?_,?_,?_,fun _=>N,?_⟩
 .rw [<- y,k];exact run_enterLoop_outer _ _ _ _ _
 .simp only [resolve,hg]
  simp [go_sem]
 .intro f' E;simp [Target.leads] at E;subst E;exact R
 .simp [invoke,go_sem,L]
 .refine (f0 (w.heap.size+1) _ _ (pt w.heap.size (.deferred (Z' []))*G) w0 h (O _)
   (Ib e0 (w.heap.size+1) w.heap.size A s B T o hps b0 c0 d k) h0 (show ag h (A []*pt _ (.loop (d .ready X))*_) from I.u00)).mono ?_
  rintro l0 u ⟨⟨v,rfl⟩,H,(⟨b,U,f⟩|⟨b,V,f⟩)⟩
  .replace f:ag u (A b*pt (w.heap.size+1) (.loop (d .ready X))*(It*(pt w.heap.size (.deferred (Z' []))*G))):=f
   have m:ag u (pt (w.heap.size+1) (.loop (d .ready X))*(A b*(It*(pt w.heap.size (.deferred (Z' []))*G)))):=f.u00;have:=run_endLoop (P:=P) m.heap (by rw [k];simp);rw [k] at this;exact ⟨X,_,this,d0 _ b _ U (H.putObj _ _) (m.putObj _).right⟩
  .obtain ⟨c,f⟩:=ag.aw.1 f
   have m:ag u (pt (w.heap.size+1) (.loop (d .done (Z' c)))*(s c b*(It*(pt w.heap.size (.deferred (Z' []))*G)))):=f.u00;have:=run_endLoop (P:=P) m.heap (by rw [k];simp);rw [k] at this;exact ⟨Z' c,_,this,i0 _ c b _ V (H.putObj _ _) (m.putObj _).right⟩
def kB {w w0:Z}
  (I:F.round=X) (s:1<=n) {gf:Nat} (E:a.eval g = .func (.func gf) #[] lb) (u:F.fn gf) (o:∀ m w,(callFunc gf m).run P w = .ok (.enter gf m) w) {T:α->Array Y->ai} {S j:List α->Prop} (H:fF F (n-1) P gf lb It T S j)
  (A:List α->ai) (e:Code->List α->ai) (B:List α->α->Act->ai) (G:ai)
  (hps:∀ x h b W,ag W (T x h*b)->h.size=ps.size) (J:aj w0 w) (q:ag w (A []*(It*G)))
  (y:∀ (l:Nat) (r:Loop) (d:List α) (x:α) (h:Array Y) (b:ai) (W:Z) (K:Act->Z->Prop),j (d++[x])->aj w0 W->ag W (A d*(T x h*(pt l (.loop r)*b))) ->
   (∀ f k,aj w0 k->ag k (B d x f*(pt l (.loop r)*b))->K f k) ->
   assign.wpIn (F.inRound l) (n-1-1) P (Exit.then K (fun _ _ _=>False)) { tmps:=(ps.zip h).foldl (fun t (p,v)=>t.setIfInBounds p v) a.tmps,defers:=[] } W)
  (z:∀ (l:Nat) (r:Loop) (d:List α) (x:α) (f:Act) (b:ai) (W:Z),j (d++[x])->aj w0 W->ag W (B d x f*(pt l (.loop r)*b)) ->
   body.wpIn (F.inRound l) (n-1-1) P (uX w0 A e (d++[x]) (pt l (.loop r)*b)) f W)
  (C:∀ (D:Nat) (i:List α) (W:Z),S i->aj w0 W->ag W (A i*(It*(pt D (.deferred (Z' []))*G))) ->
   Q .normal { a with defers:={ target:=.collected D,args:=#[] } :: a.defers } W)
  (L:∀ (D:Nat) (c:Code) (i:List α) (W:Z),j i->aj w0 W->ag W (e c i*(It*(pt D (.deferred (Z' []))*G))) ->
   c.wpIn F n P Q { a with defers:={ target:=.collected D,args:=#[] } :: a.defers } W) :
  (Code.rangeFunc g ps assign body).wpIn F n P Q a w:=
 tD (C:=fun _=>True) I s E u o (fun l A e G w0 w _=>H l A e G w0 w) A (fun _=>trivial) e B G hps J q y z C L
def dw {F:Fence} {n:Nat} {P:Program} {w f:Z} {d:Array Oper} {rest:List Oper} {o:Oper} {v g e:Y} {t ty:TypeId}
  (l:(Builtin.append_ #[t,t] ty #[v,g]).run P w = .ok e f) (s x:Operand)
  (k:o.guard=X) (p:o.type=ty) (b:o.op=Op.call { callee:=Callee.builtin Builtin.append,args:=#[s,x],argTypes:=#[t,t] })
  (m:a.eval s=v) (q:a.eval x=g)
  (h:wpListIn F n P d Q rest (a.put o.dst e) f):wpListIn F n P d Q (o :: rest) a w:=by
 refine wpListIn_plain k fun K i=>?_;subst p m q;unfold Oper.wpIn;refine ⟨?_,?_⟩
 .simp [Oper.about,b,resolve,Target.leads,Sem.run_pure]
 .rw [Oper.semAt_plain F _ _ (by rw [b];intro c j;cases j)]
  simp [execOp,b,resolve,invoke,builtin,l,Result.andThen];exact i _ _ h
def qP {F:Fence} {n:Nat} {P:Program} {w w0:Z}
  (R:F.round=X) (j:1<=n) {gf:Nat} (N:a.eval g = .func (.func gf) #[] lb) (E:F.fn gf) (y:∀ s w,(callFunc gf s).run P w = .ok (.enter gf s) w) {T:α->Array Y->ai} {S i:List α->Prop} (O:fF F (n-1) P gf lb It T S i)
  (f:α->Array Y->Array Y) (A:List α->ai) (B:List α->α->ai) (G:ai)
  (hps:∀ x e d W,ag W (T x e*d)->e.size=ps.size) (U:aj w0 w) (z:ag w (A []*(It*G)))
  (J:∀ (l:Nat) (r:Loop) (b:List α) (x:α) (e:Array Y) (d:ai) (W:Z) (K:Act->Z->Prop),i (b++[x])->aj w0 W->ag W (A b*(T x e*(pt l (.loop r)*d))) ->
   (∀ h,aj w0 h->ag h (B b x*(pt l (.loop r)*d))->K { tmps:=f x a.tmps,defers:=[] } h) ->
   assign.wpIn (F.inRound l) (n-1-1) P (Exit.then K (fun _ _ _=>False)) { tmps:=(ps.zip e).foldl (fun t (p,v)=>t.setIfInBounds p v) a.tmps,defers:=[] } W)
  (L:∀ (l:Nat) (r:Loop) (b:List α) (x:α) (d:ai) (W:Z),i (b++[x])->aj w0 W->ag W (B b x*(pt l (.loop r)*d)) ->
   body.wpIn (F.inRound l) (n-1-1) P (uX w0 A (fun _ _=>fact False) (b++[x]) (pt l (.loop r)*d)) { tmps:=f x a.tmps,defers:=[] } W)
  (M:∀ (D:Nat) (o:List α) (W:Z),S o->aj w0 W->ag W (A o*(It*(pt D (.deferred (Z' []))*G))) ->
   Q .normal { a with defers:={ target:=.collected D,args:=#[] } :: a.defers } W) :
  (Code.rangeFunc g ps assign body).wpIn F n P Q a w:=by
 refine kB R j N E y O A (fun _ _=>fact False) (fun b x q=>fact (q={ tmps:=f x a.tmps,defers:=[] })*B b x) G hps U z ?_ ?_ M ?_
 .intro l r b x e d W K m k H I
  exact J l r b x e d W K m k H fun h j C=>I _ h j ((ag.aq.2 ⟨rfl,C⟩:ag h (fact _*_)).to (ay _ _ _).symm)
 .intro l r b x q d W m k H
  obtain ⟨rfl,u⟩:=ag.aq.1 (H.to (ay _ _ _));exact L l r b x d W m k u
 .intro D c o W _ _ H
  exact (ag.aq.1 H).1.elim
end Go.SL

/- Steps. -/
import Derived.Test.YtacliaemfegopaaGreatDoorOP22
import Derived.Test.YtacliaemfegopaaGreatDoorOP4
import Derived.Test.YtacliaemfegopaaGreatDoorOP13
import Derived.Test.YtacliaemfegopaaGreatDoorOP6
set_option linter.all false
set_option maxRecDepth 99999
set_option maxHeartbeats 0
open Go.SL
open Go.Value renaming int->Z,slice->R,pointer->X,tuple->I,bool->J
open Go.IntKind renaming i64->H
open Go.Obj renaming cells->Y
open Go.Ending renaming returned->K
open Go renaming World->O,Value->M
open Go.Proofs.Tryz renaming prog->Q
open Option renaming some->U,none->V
open Bool renaming true->L,false->N
open Go.Proofs.Tryz
open Go.Value renaming int->E2,oneCell'->Y3
open List renaming replicate->J2,getD->K2,length_cons->M2,length_map->O2,size_toArray->P2,length_nil->R2,push_toArray->Y2,append_toArray->Z2,nil_append->B3,cons_append->G3,getElem?_cons_succ->J3,getElem?_append_left->L3,set_cons_succ->P3,getElem?_append_right->V3,getElem?_eq_getElem->W3,getElem?_map->X3,setIfInBounds_toArray->Z3,set_cons_zero->J4,length_append->L4,getElem?_eq_none->S4,drop_succ_cons->T4,take_of_length_le->V4
open Nat renaming not_lt_zero->N2,reduceAdd->T2,reduceSub->V2,add_comm->K4
open Array renaming replicate_succ->W2,replicate_zero->X2
open Go.World renaming size_alloc->K3
open Int renaming toNat_of_nonneg->N4
namespace Go.SL
open Go.RowKit
inductive Rs (α:Type) where
 | ok (a:α)
 | bad (c:Int)
structure gD (σ:Type) where
 err:Int
 W:List (Int × List UInt8)
 D:List (Int × List UInt8)
 s:σ
structure eB (σ:Type) where
 b:gD σ
 bits:Option (List UInt8)
 dt:Bool
abbrev cI (σ:Type):=σ->Int->(Int × List UInt8) × σ
abbrev WM (σ α:Type):=eB σ->Rs α × eB σ
def WM.bind {σ α β:Type} (m:WM σ α) (k:α->WM σ β):WM σ β:=fun st=>match m st with|(.ok a,st')=>k a st'|(.bad c,st')=>(.bad c,st')
def WM.pure {σ α:Type} (a:α):WM σ α:=fun st=>(.ok a,st)
section
variable {σ α β:Type} {m:WM σ α} {k:α->WM σ β} {st st':eB σ}
theorem WM.aX {a:α} (h:m st=(.ok a,st')):WM.bind m k st=k a st':=by unfold WM.bind;rw [h]
theorem WM.bf {c:Int} (h:m st=(.bad c,st')):WM.bind m k st=(.bad c,st'):=by unfold WM.bind;rw [h]
end
def sk {σ:Type} (ask:cI σ) (b:gD σ) (id:Int):(Int × List UInt8) × gD σ:=
 if (ask b.s id).1.1=0 then ((0,(ask b.s id).1.2),{ b with D:=SL.fA b.D id (ask b.s id).1.2,s:=(ask b.s id).2 })
 else (((ask b.s id).1.1,(ask b.s id).1.2),{ b with err:=(ask b.s id).1.1,s:=(ask b.s id).2 })
def fY {σ:Type} (ask:cI σ) (b:gD σ) (id:Int):(Int × List UInt8) × gD σ:=
 if b.err≠0 then ((b.err,[]),b) else
 match aM b.W id with
 | some l=>((0,l),b)
 | none=>match aM b.D id with
  | some l=>((0,l),b)
  | none=>sk ask b id
def cS {σ:Type} (ask:cI σ) (id:Int):WM σ (List UInt8):=fun st=>
 if (fY ask st.b id).1.1≠0 then (.bad (fY ask st.b id).1.1,{ st with b:=(fY ask st.b id).2 })
 else if (fY ask st.b id).1.2.length≠480 then (.bad 4,{ st with b:=(fY ask st.b id).2 })
 else (.ok (fY ask st.b id).1.2,{ st with b:=(fY ask st.b id).2 })
end Go.SL
namespace Go.Proofs.Fs
open Go.RowKit Go.SL Go.Proofs.Ba
structure Cx (σ:Type) where
 T:TypeId
 rv:Value
 fr:FuncId
 rr:Value
 Mq:World->Prop
 ask:cI σ
 RI:σ->ai
def Cx.rd {σ:Type} (c:Cx σ):M:=.iface c.T c.rv
structure Cx.Ok {σ:Type} (c:Cx σ):Prop where
 hM:∀ (s:σ) (F:ai) (w:World),ag w (c.RI s*F)->c.Mq w
 hm : ∀ (k : Nat) (w : World), c.Mq w -> (method (k + 1) c.T c.rv "Read").run prog w = .ok (c.fr, c.rr) w
 mS:∀ (args:Array Value) (w:World),(callFunc c.fr args).run prog w = .ok (.enter c.fr args) w
 hR:∀ (s:σ) (id:Int) (F:ai) (w:World),ag w (c.RI s*F)->Calls prog c.fr #[c.rr,.int .i64 id] w (oo (c.ask s id).1 (c.RI (c.ask s id).2) F w)
 hs:∀ (s:σ) (id:Int),(c.ask s id).1.1=0->small (c.ask s id).1.2
def cE {σ:Type} (c:Cx σ) (S:Hp) (b:Nat) (x:gD σ):ai:=aA 176 5 S b c.rd x.err x.W x.D*c.RI x.s
def QH {σ:Type} (c:Cx σ) (b:Nat) (S:Hp) (p:(Int × List UInt8) × gD σ) (F:ai) (w:O) (e:Ending) (g:O):Prop:=
 ∃ d f,Ext S d/\e = K (I #[f,Z H p.1.1])/\ag g (pQ 5 p.1 f*(cE c d b p.2*(ak d*F)))/\aj w g
theorem F3 {σ:Type} {c:Cx σ} (f:c.Ok) (w:O) (S:Hp) (b:Nat) (x:gD σ) (id:Int) (F:ai) (h:ag w (cE c S b x*(ak S*F))) :
  Calls Q 202 #[X (U ⟨b,0,V⟩),Z H id] w (QH c b S (fY c.ask x id) F w):=by
 obtain ⟨err,W,D,s⟩:=x;have t:ag w (aA 176 5 S b c.rd err W D*(ak S*(c.RI s*F))):=h.to (by unfold cE;ac_rfl)
 by_cases z:err=0
 .subst z
  cases r:aM W id with
  | some l=>
   have q:fY c.ask ⟨0,W,D,s⟩ id=((0,l),⟨0,W,D,s⟩):=by unfold fY;simp only [ne_eq,not_true_eq_false,if_false,r]
   rw [q];refine (Qn w S b c.rd W D id l _ t r).mono ?_;rintro e y ⟨g,i,d,rfl,j,o⟩;exact ⟨g,i,d,rfl,j.to (by unfold cE;ac_rfl),o⟩
  | none=>
   cases u:aM D id with
   | some l=>
    have q:fY c.ask ⟨0,W,D,s⟩ id=((0,l),⟨0,W,D,s⟩):=by unfold fY;simp only [ne_eq,not_true_eq_false,if_false,r,u]
    rw [q];refine (Ri w S b c.rd W D id l _ t r u).mono ?_;rintro e y ⟨g,i,d,rfl,j,o⟩;exact ⟨g,i,d,rfl,j.to (by unfold cE;ac_rfl),o⟩
   | none=>
    have q:fY c.ask ⟨0,W,D,s⟩ id=sk c.ask ⟨0,W,D,s⟩ id:=by unfold fY;simp only [ne_eq,not_true_eq_false,if_false,r,u]
    have hR:=fun F w=>f.hR s id F w;have hs:=f.hs s id;rw [q];unfold sk;generalize c.ask s id=p at *;obtain ⟨⟨A,l⟩,v⟩:=p
    by_cases d:A=0
    .subst d
     rw [if_pos rfl];refine (NK w S b c.T c.rv c.fr W D id l (c.RI s) (c.RI v) F c.rr c.Mq (f.hM s) (f.hM v) f.hm f.mS hR t r u (hs rfl)).mono ?_;rintro e y ⟨g,i,d,rfl,j,o⟩;exact ⟨g,i,d,rfl,j.to (by unfold cE Cx.rd;ac_rfl),o⟩
    .rw [if_neg d]
     refine (yN w S b c.T c.rv c.fr W D id A l (c.RI s) (c.RI v) F c.rr c.Mq (f.hM s) (f.hM v) f.hm f.mS hR d t r u).mono ?_;rintro e y ⟨g,i,d,rfl,j,o⟩;exact ⟨g,i,d,rfl,j.to (by unfold cE Cx.rd;ac_rfl),o⟩
 .have q:fY c.ask ⟨err,W,D,s⟩ id=((err,[]),⟨err,W,D,s⟩):=by unfold fY;rw [if_pos z]
  rw [q];refine (JN w S b c.rd err W D id _ t z).mono ?_;rintro e y ⟨g,i,d,rfl,j,o⟩;exact ⟨g,i,d,rfl,j.to (by unfold cE;ac_rfl),o⟩
def I8 (c:Int):List PanicEntry:=[{ v:=.iface 219 (Z H c),recovered:=N }]
theorem j7 (w:O):Calls Q 143 #[Z H 0] w fun e d=>e = K (I #[])/\w=d:=by
 go_enter func143,ntmps143
 go_wp2
 go_end0
 exact ⟨rfl,rfl⟩
theorem fK (w:O) (c:Int) (f:c≠0):Calls Q 143 #[Z H c] w fun e d=>e = .panicked (I8 c)/\w=d:=by
 go_enter func143,ntmps143
 go_wp2
 exact ⟨rfl,rfl,rfl⟩
theorem gB (w:O):Calls Q 83 #[J L] w fun e d=>e = K (I #[])/\w=d:=by
 go_enter func83,ntmps83
 go_wp2
 go_end0
 exact ⟨rfl,rfl⟩
theorem gF (w:O):Calls Q 83 #[J N] w fun e f=>e = .panicked (I8 1)/\w=f:=by
 have d:=fK w 1 (by decide)
 go_enter func83,ntmps83
 go_wp2_with fail
 (refine d.mono ?_)
 rintro e g ⟨rfl,rfl⟩
 go_wp2
 exact ⟨rfl,rfl,rfl⟩
def cu (o:Option (List UInt8)) (v:M):ai:=fun h=>(o=V/\v = R V 0 0/\h=fun _=>V)\/∃ l,o=U l/\l.length=480/\bs 5 v l h
structure Wk (σ:Type) where
 c:Cx σ
 n:Nat
 k:Nat
 b:Nat
def Wk.cells {σ:Type} (x:Wk σ) (v:M) (t:Bool):Array M:=#[X (U ⟨x.b,0,V⟩),Z H (x.n:Int),v,J t]
def bD {σ:Type} (x:Wk σ) (v:M) (S:Hp) (st:eB σ):ai:=pt x.k (Y (x.cells v st.dt) 149 (0,0))*cE x.c S x.b st.b
def aE {σ:Type} (x:Wk σ) (S:Hp) (st:eB σ):ai:=ex fun v=>bD x v S st*cu st.bits v
def WQ {σ α:Type} (x:Wk σ) (g:α->M->ai) (S:Hp) (F:ai) (w:O):Rs α × eB σ->Ending->O->Prop
 | (.ok a,st'),e,f=>∃ d v,Ext S d/\aj w f/\e = K v/\ag f (g a v*(aE x d st'*(ak d*F)))
 | (.bad c,st'),e,f=>∃ d,Ext S d/\aj w f/\e = .panicked (I8 c)/\ag f (aE x d st'*(ak d*F))
def R3 {σ α:Type} (x:Wk σ) (g:M) (i:α->M->ai) (S:Hp) (F:ai) (w:O):Rs α × eB σ->Ending->O->Prop
 | (.ok a,st'),e,f=>∃ d v,Ext S d/\aj w f/\e = K v/\ag f (i a v*(bD x g d st'*(ak d*F)))
 | (.bad c,st'),e,f=>∃ d,Ext S d/\aj w f/\e = .panicked (I8 c)/\ag f (bD x g d st'*(ak d*F))
def ji (a:Unit) (v:M):ai:=fact (v = I #[])
def fX (l:List UInt8) (v:M):ai:=bs 5 v l
theorem xf {σ:Type} (x:Wk σ) (hc:x.c.Ok) (w:O) (u:M) (S:Hp) (st:eB σ) (id:Int) (F:ai) (h:ag w (bD x u S st*(ak S*F))) :
  Calls Q 142 #[X (U ⟨x.k,0,V⟩),Z H id] w (R3 x u fX S F w (cS x.c.ask id st)):=by
 have E:ag w (cE x.c S x.b st.b*(ak S*(pt x.k (Y (x.cells u st.dt) 149 (0,0))*F))):=h.to (by unfold bD;ac_rfl);have c0:w.cell? ⟨x.k,0,V⟩=U (X (U ⟨x.b,0,V⟩)):=E.au.cell 0;have t:=F3 hc w S x.b st.b id _ E;have G:∀ p,fY x.c.ask st.b id=p->cS x.c.ask id st=if p.1.1≠0 then (.bad p.1.1,{ st with b:=p.2 }) else if p.1.2.length≠480 then (.bad 4,{ st with b:=p.2 }) else (.ok p.1.2,{ st with b:=p.2 }):=fun p r=>by subst r;rfl
 obtain ⟨⟨⟨B,l⟩,b'⟩,r⟩:∃ p,fY x.c.ask st.b id=p:=⟨_,rfl⟩
 have P:=G _ r;rw [r] at t;rw [P]
 by_cases v:B=0
 .subst v
  rw [if_neg (by simp)]
  by_cases q:l.length=480
  .rw [if_neg (by simp [q])]
   have b0:((480:Int) != 480)=N:=by decide
   have A:=ae q
   go_enter func142,ntmps142
   go_wp2_with fail
   (refine t.mono ?_)
   rintro e f ⟨g,C,o,rfl,j,i⟩;have d:=j.vH;obtain ⟨va,vc,rfl⟩:=aD d;rw [A.out] at d ⊢
   go_wp2_with fail
   (refine (j7 f).mono ?_)
   rintro e y ⟨rfl,rfl⟩
   go_wp2_with fail
   go_ret
   exact ⟨g,_,o,i,rfl,by unfold bD cE fX;exact d.to (by unfold cE;ac_rfl)⟩
  .rw [if_pos q]
   have b0:((l.length:Int) != 480)=L:=by rw [bne_iff_ne];omega
   have A:=ae q
   go_enter func142,ntmps142
   go_wp2_with fail
   (refine t.mono ?_)
   rintro e f ⟨g,C,o,rfl,j,i⟩;have d:=j.vH;obtain ⟨va,vc,rfl⟩:=aD d
   go_wp2_with fail
   (refine (j7 f).mono ?_)
   rintro e y ⟨rfl,rfl⟩
   go_wp2_with fail
   (refine (fK f 4 (by decide)).mono ?_)
   rintro e y ⟨rfl,rfl⟩
   go_wp2_with fail
   exact ⟨rfl,g,o,i,rfl,by unfold bD;exact d.right.to (by ac_rfl)⟩
 .rw [if_pos v]
  have z:=ae v
  go_enter func142,ntmps142
  go_wp2_with fail
  (refine t.mono ?_)
  rintro e f ⟨g,C,o,rfl,j,i⟩;obtain ⟨rfl,d⟩:=j.B5 z.out
  go_wp2_with fail
  (refine (fK f B z.out).mono ?_)
  rintro e y ⟨rfl,rfl⟩
  go_wp2_with fail
  exact ⟨rfl,g,o,i,rfl,by unfold bD;exact d.to (by ac_rfl)⟩
end Go.Proofs.Fs
namespace Go.SL
open Go.RowKit
section
variable {σ:Type}
def ki (err id:Int) (l:List UInt8):Int:=if err≠0 then err else if id<0\/l.length≠480 then 1 else 0
def bL (id:Int) (l:List UInt8):WM σ Unit:=fun st=>
 if ki st.b.err id l=0 then (.ok (),{ st with b:={ st.b with W:=SL.fA st.b.W id l } }) else (.bad (ki st.b.err id l),st)
def jm (ask:cI σ):WM σ (List UInt8):=fun st=>match st.bits with
 | some l=>(.ok l,st)
 | none=>match cS ask 0 st with
  | (.ok l,st')=>(.ok l,{ st' with bits:=U l })
  | (.bad c,st')=>(.bad c,st')
def zo (id:Nat) (t:Bool) (l:List UInt8):WM σ Unit:=fun st=>(.ok (),{ st with bits:=U (dY l id t),dt:=L })
def cG (ask:cI σ) (id:Nat) (t:Bool):WM σ Unit:=WM.bind (jm ask) (zo id t)
def Qs (l:List UInt8) (st:eB σ):Option Nat->Rs Nat × eB σ
 | some k=>(.ok k,{ st with bits:=U (dY l k L),dt:=L })
 | none=>(.bad 7,st)
def sF (n:Nat) (l:List UInt8):WM σ Nat:=fun st=>Qs l st (eZ l n)
def iG (ask:cI σ) (n:Nat):WM σ Nat:=WM.bind (jm ask) (sF n)
theorem vh (ask:cI σ) (id:Int) (st:eB σ):(cS ask id st).2.bits=st.bits:=by
 unfold cS;split
 .rfl
 .split <;> rfl
theorem iT {ask:cI σ} {id:Int} {st st':eB σ} {l:List UInt8} (h:cS ask id st=(.ok l,st')):l.length=480:=by
 unfold cS at h
 split at h
 .cases h
 .split at h
  .cases h
  .rename_i d;simp only [Prod.mk.injEq,Rs.ok.injEq] at h;rw [<- h.1];exact Decidable.of_not_not d
theorem Bp (id:Int) (l:List UInt8) (st:eB σ):(bL id l st).2.bits=st.bits:=by
 unfold bL;split <;> rfl
theorem Al {ask:cI σ} {st st':eB σ} {l:List UInt8} (h:jm ask st=(.ok l,st')) (f:∀ l,st.bits=U l->l.length=480):st'.bits=U l/\l.length=480:=by
 unfold jm at h
 split at h
 .rename_i i d
  obtain ⟨rfl,rfl⟩:=h;exact ⟨d,f _ d⟩
 .split at h
  .rename_i j g e
   obtain ⟨rfl,rfl⟩:=h;exact ⟨rfl,iT e⟩
  .cases h
end
end Go.SL
namespace Go.Proofs.Fs
open Go.RowKit Go.SL Go.Proofs.Ba
variable {S:Hp} {v:M}
section
variable {σ α:Type}
theorem ag.ft {w:O} {x:Wk σ} {st:eB σ} {F:ai} (h:ag w (aE x S st*F)):∃ v,ag w (bD x v S st*(cu st.bits v*F)):=by
 obtain ⟨v,h⟩:=ag.aw.1 h;exact ⟨v,h.to (by ac_rfl)⟩
theorem ag.im {w:O} {x:Wk σ} {st:eB σ} {F:ai} (v:M) (h:ag w (bD x v S st*(cu st.bits v*F))):ag w (aE x S st*F):=
 ag.aw.2 ⟨v,h.to (by ac_rfl)⟩
theorem ag.ED {w:O} {F:ai} (h:ag w F):ag w (cu V (R V 0 0)*F):=
 (h.to (cW _).symm).fw fun k d=>.inl ⟨rfl,rfl,d⟩
theorem ag.mU {w:O} {F:ai} {l:List UInt8} (e:l.length=480) (h:ag w (bs 5 v l*F)):ag w (cu (U l) v*F):=
 h.fw fun k d=>.inr ⟨l,rfl,e,d⟩
theorem ag.oG {w:O} {o:Option (List UInt8)} {F:ai} (h:ag w (cu o v*F)) :
  (o=V/\v = R V 0 0/\ag w F)\/∃ l,o=U l/\l.length=480/\ag w (bs 5 v l*F):=by
 obtain ⟨k,a,f,e,p,q,d,rfl⟩:=h;rcases p with ⟨rfl,rfl,rfl⟩|⟨l,rfl,i,g⟩
 .refine .inl ⟨rfl,rfl,_,a,?_⟩
  have:join (fun _=>V) e=e:=by funext c;simp [join]
  rw [this];exact q
 .exact .inr ⟨l,rfl,i,_,a,f,e,g,q,d,rfl⟩
theorem R3.lift {x:Wk σ} {d:M} {l:α->M->ai} {F:ai} {w:O} {st:eB σ}:∀ {p:Rs α × eB σ} {e:Ending} {g:O},
  R3 x d l S (cu st.bits d*F) w p e g->p.2.bits=st.bits->WQ x l S F w p e g
 | (.ok a,st'),e,g,⟨f,v,o,q,r,i⟩,j=>by
  refine ⟨f,v,o,q,r,?_⟩;dsimp only at j;rw [<- j] at i;exact (ag.im d (i.to (by ac_rfl):ag g (bD x d f st'*(cu st'.bits d*(l a v*(ak f*F)))))).to (by ac_rfl)
 | (.bad c,st'),e,g,⟨f,o,q,r,i⟩,j=>by
  refine ⟨f,o,q,r,?_⟩;dsimp only at j;rw [<- j] at i;exact (ag.im d (i.to (by ac_rfl):ag g (bD x d f st'*(cu st'.bits d*(ak f*F)))))
theorem lI (x:Wk σ) (g:x.c.Ok) (w:O) (S:Hp) (st:eB σ) (id:Int) (F:ai) (h:ag w (aE x S st*(ak S*F))) :
  Calls Q 142 #[X (U ⟨x.k,0,V⟩),Z H id] w (WQ x fX S F w (cS x.c.ask id st)):=by
 obtain ⟨v,d⟩:=ag.ft h;refine (xf x g w v S st id (cu st.bits v*F) (d.to (by ac_rfl))).mono fun e i f=>R3.lift f (vh _ _ _)
theorem JW (err id:Int) (l:List UInt8):gQ err id l=ki err id l:=rfl
theorem jS (x:Wk σ) (w:O) (g:M) (S:Hp) (st:eB σ) (id:Int) (q:M) (l:List UInt8) (F:ai) (h:ag w (bD x g S st*(ak S*F))) (B:Rd w q l) :
  Calls Q 90 #[X (U ⟨x.k,0,V⟩),Z H id,q] w (R3 x g ji S F w (bL id l st)):=by
 have z:ag w (aA 176 5 S x.b x.c.rd st.b.err st.b.W st.b.D*(ak S*(x.c.RI st.b.s*(pt x.k (Y (x.cells g st.dt) 149 (0,0))*F)))):=h.to (by unfold bD cE;ac_rfl);have E:w.cell? ⟨x.k,0,V⟩=U (X (U ⟨x.b,0,V⟩)):=(h.to (by unfold bD;ac_rfl:_=pt x.k (Y (x.cells g st.dt) 149 (0,0))*(cE x.c S x.b st.b*(ak S*F)))).cell 0;have f:=oa w S x.b x.c.rd st.b.err st.b.W st.b.D id q l _ z B;unfold gK at f;rw [JW] at f;unfold bL
 by_cases d:ki st.b.err id l=0
 .rw [if_pos d]
  have u:uF st.b.err id l st.b.W=SL.fA st.b.W id l:=vo (by
   unfold ki at d
   split at d
   .rename_i r;exact absurd d r
   .rename_i r
    split at d
    .cases d
    .rename_i P
     exact ⟨Decidable.of_not_not r,by omega,by omega⟩)
  rw [d,u] at f;have y:=ae d
  go_enter func90,ntmps90
  go_wp2_with fail
  (refine f.mono ?_)
  rintro e v ⟨j,t,rfl,i,o⟩
  go_wp2_with fail
  (refine (j7 v).mono ?_)
  rintro e C ⟨rfl,rfl⟩
  go_wp2_with fail
  go_end0
  exact ⟨j,_,t,o,rfl,ag.aq.2 ⟨rfl,by unfold bD cE;exact i.to (by ac_rfl)⟩⟩
 .rw [if_neg d]
  have u:uF st.b.err id l st.b.W=st.b.W:=oF (by
   rintro ⟨A,i,G⟩;apply d;unfold ki;rw [if_neg (by simp [A]),if_neg (by omega)])
  rw [u] at f;have y:=ae d;generalize ki st.b.err id l=c at *
  go_enter func90,ntmps90
  go_wp2_with fail
  (refine f.mono ?_)
  rintro e v ⟨j,t,rfl,i,o⟩
  go_wp2_with fail
  (refine (fK v c y.out).mono ?_)
  rintro e C ⟨rfl,rfl⟩
  go_wp2_with fail
  exact ⟨rfl,j,t,o,rfl,by unfold bD cE;exact i.to (by ac_rfl)⟩
theorem mg (x:Wk σ) (w:O) (S:Hp) (st:eB σ) (id:Int) (d:M) (l:List UInt8) (F:ai) (h:ag w (aE x S st*(ak S*F))) (i:Rd w d l) :
  Calls Q 90 #[X (U ⟨x.k,0,V⟩),Z H id,d] w (WQ x ji S F w (bL id l st)):=by
 obtain ⟨v,f⟩:=ag.ft h;refine (jS x w v S st id d l (cu st.bits v*F) (f.to (by ac_rfl)) i).mono fun e j g=>R3.lift g (Bp _ _ _)
def TX (x:Wk σ) (S:Hp) (F:ai) (w:O):Rs (List UInt8) × eB σ->Ending->O->Prop
 | (.ok l,st'),e,f=>∃ d v,Ext S d/\aj w f/\e = K v/\l.length=480/\ag f (bD x v d st'*(bs 5 v l*(ak d*F)))
 | (.bad c,st'),e,f=>∃ d,Ext S d/\aj w f/\e = .panicked (I8 c)/\ag f (aE x d st'*(ak d*F))
theorem pk (x:Wk σ) (hc:x.c.Ok) (w:O) (S:Hp) (st:eB σ) (F:ai) (h:ag w (aE x S st*(ak S*F))) :
  Calls Q 96 #[X (U ⟨x.k,0,V⟩)] w (TX x S F w (jm x.c.ask st)):=by
 obtain ⟨v,B⟩:=ag.ft h;obtain ⟨b,o,dt⟩:=st;have G:w.cell? ⟨x.k,2,V⟩=U v:=(B.to (by unfold bD;ac_rfl:_=pt x.k (Y (x.cells v dt) 149 (0,0))*(cE x.c S x.b b*(cu o v*(ak S*F))))).cell 2;rcases ag.oG (B.to (by ac_rfl:_=cu o v*(bD x v S ⟨b,o,dt⟩*(ak S*F)))) with ⟨rfl,rfl,d⟩|⟨l,rfl,q,d⟩
 .have C:=xf x hc w (R V 0 0) S ⟨b,V,dt⟩ 0 F d
  have hq:=fun w=>Lib.run_eql_slice_nil (P:=Q) w 37 5 V 0 0 0 0 underlying37;have q:=fun l st'=>iT (ask:=x.c.ask) (id:=0) (st:=⟨b,V,dt⟩) (st':=st') (l:=l);have z:jm x.c.ask ⟨b,V,dt⟩=match cS x.c.ask 0 ⟨b,V,dt⟩ with|(.ok l,st')=>(.ok l,{ st' with bits:=U l })|(.bad c,st')=>(.bad c,st'):=rfl
  have hb:=vh x.c.ask 0 ⟨b,V,dt⟩;rw [z];generalize cS x.c.ask 0 ⟨b,V,dt⟩=p at *;obtain ⟨c0,st'⟩:=p
  cases c0 with
  | ok l=>
   have b0:=q l st' rfl;have j:=ae b0
   go_enter func96,ntmps96
   go_wp2_with fail
   (refine C.mono ?_)
   rintro e E ⟨i,v,A,u,rfl,f⟩;unfold fX at f;obtain ⟨r,t,rfl⟩:=aD f;rw [j.out] at f ⊢;have y:ag E (pt x.k (Y (x.cells (R V 0 0) st'.dt) 149 (0,0))*(bs 5 (R r 480 t) l*(cE x.c i x.b st'.b*(ak i*F)))):=f.to (by unfold bD;ac_rfl);have f2:=y.frozen 2;have P:=y.setCell 2 (R r 480 t);have g2:=y.cell 2
   go_wp2_with fail
   go_ret
   exact ⟨i,_,A,u.setCell _ _,rfl,j.out,by unfold bD;exact P.to (by unfold Wk.cells;ac_rfl)⟩
  | bad c=>
   go_enter func96,ntmps96
   go_wp2_with fail
   (refine C.mono ?_)
   rintro e E ⟨i,A,u,rfl,f⟩
   go_wp2_with fail
   refine ⟨rfl,i,A,u,rfl,ag.im (R V 0 0) ?_⟩;rw [hb];exact (ag.ED f).to (by ac_rfl)
 .have z:jm x.c.ask ⟨b,U l,dt⟩=(.ok l,⟨b,U l,dt⟩):=rfl
  rw [z];obtain ⟨r,t,rfl⟩:=aD d
  obtain ⟨g,rfl⟩:∃ g,r=U g:=by
   rcases d.de with ⟨_,h0,_⟩|⟨g,d0,e0,he,_⟩
   .omega
   .cases he;exact ⟨_,rfl⟩
  have j:=ae q;rw [q] at d G;have hq:=fun w=>Lib.run_eql_slice_nil (P:=Q) w 37 5 (U g) 480 t 0 0 underlying37
  go_enter func96,ntmps96
  go_wp2_with fail
  go_ret
  exact ⟨S,_,Ext.refl S,aj.refl w,rfl,j.out,d.to (by ac_rfl)⟩
theorem vZ (x:Wk σ) (hc:x.c.Ok) (w:O) (S:Hp) (st:eB σ) (id:Nat) (t:Bool) (F:ai) (b0:id<3840) (h:ag w (aE x S st*(ak S*F))) :
  Calls Q 87 #[X (U ⟨x.k,0,V⟩),Z H (id:Int),J t] w (WQ x ji S F w (cG x.c.ask id t st)):=by
 have q:=pk x hc w S st F h;obtain ⟨⟨d0,st'⟩,u⟩:∃ p,jm x.c.ask st=p:=⟨_,rfl⟩
 rw [u] at q
 cases d0 with
 | ok l=>
  have j:cG x.c.ask id t st=zo id t l st':=WM.aX u;rw [j]
  go_enter func87,ntmps87
  go_wp2_with fail
  (refine q.mono ?_)
  rintro e A ⟨d,v,o,g,rfl,r,f⟩;have hs:=tM A v l (bD x v d st'*(ak d*F)) (f.to (by ac_rfl)) r id b0 t;have c0:=aD (f.ah);obtain ⟨y,z,rfl⟩:=c0;have B:=ae r;rw [r] at hs f ⊢
  go_wp2_with fail
  (refine hs.mono ?_)
  rintro e w2 ⟨rfl,E,C⟩;have i:ag w2 (pt x.k (Y (x.cells (R y 480 z) st'.dt) 149 (0,0))*(cE x.c d x.b st'.b*(bs 5 (R y 480 z) (dY l id t)*(ak d*F)))):=E.to (by unfold bD;ac_rfl);have f3:=i.frozen 3;have g3:=i.cell 3;have G:=i.setCell 3 (J L)
  go_wp2_with fail
  go_end0
  refine ⟨d,_,o,(g.trans C).setCell _ _,rfl,ag.aq.2 ⟨rfl,ag.im (R y 480 z) ?_⟩⟩;have P:=ag.mU (l:=dY l id t) (by rw [fg];exact B.out) G.au;exact P.to (by unfold bD Wk.cells;simp only [Z3,P3,J4];ac_rfl)
 | bad c=>
  have j:cG x.c.ask id t st=(.bad c,st'):=WM.bf u;rw [j]
  go_enter func87,ntmps87
  go_wp2_with fail
  (refine q.mono ?_)
  rintro e A ⟨d,o,g,rfl,f⟩
  go_wp2_with fail
  exact ⟨rfl,d,o,g,rfl,f⟩
theorem bitsLen {w:O} {x:Wk σ} {st:eB σ} {F:ai} (h:ag w (aE x S st*F)):∀ l,st.bits=U l->l.length=480:=by
 intro l e;obtain ⟨v,f⟩:=ag.ft h;rcases ag.oG (f.to (by ac_rfl:_=cu st.bits v*(bD x v S st*F))) with ⟨d,_⟩|⟨i,d,g,_⟩
 .rw [e] at d;cases d
 .rw [e] at d;cases d;exact g
def SD (v:M) (l:List UInt8) (F:ai) (w:O):Option Nat->Ending->O->Prop
 | none,e,d=>e = K (I #[Z H 0,J N])/\ag d (bs 5 v l*F)/\aj w d
 | some n,e,d=>e = K (I #[Z H (n:Int),J L])/\ag d (bs 5 v (dY l n L)*F)/\aj w d
theorem IP (w:O) (v:M) (l:List UInt8) (F:ai) (h:ag w (bs 5 v l*F)) (j:l.length=480) (e:Nat) (i:e<=3840) :
  Calls Q 168 #[v,Z H (e:Int)] w (SD v l F w (eZ l e)):=by
 refine JJ w v l F h j e i _ (fun d o f g=>?_) (fun n d o f g=>?_)
 .rw [d];exact ⟨rfl,f,g⟩
 .rw [d];exact ⟨rfl,f,g⟩
def CC (a:Nat) (v:M):ai:=fact (v = Z H (a:Int))
theorem nT (x:Wk σ) (hc:x.c.Ok) (hn:x.n<=3840) (w:O) (S:Hp) (st:eB σ) (F:ai) (h:ag w (aE x S st*(ak S*F))) :
  Calls Q 122 #[X (U ⟨x.k,0,V⟩)] w (WQ x CC S F w (iG x.c.ask x.n st)):=by
 have u:=fun (w:O) h=>pk x hc w S st F h;obtain ⟨v0,h1⟩:=ag.ft h;have A:=(h1.to (by unfold bD;ac_rfl:_=pt x.k (Y (x.cells v0 st.dt) 149 (0,0))*(cE x.c S x.b st.b*(cu st.bits v0*(ak S*F))))).cell 1;obtain ⟨⟨d0,st'⟩,y⟩:∃ p,jm x.c.ask st=p:=⟨_,rfl⟩
 rw [y] at u
 cases d0 with
 | ok l=>
  have E:iG x.c.ask x.n st=sF x.n l st':=WM.aX y;have c0:=Al y (bitsLen h);rw [E];unfold sF;have G:=fun w v F h g=>IP w v l F h g x.n hn;obtain ⟨b0,ho⟩:∃ b0,eZ l x.n=b0:=⟨_,rfl⟩
  rw [ho];rw [ho] at G
  cases b0 with
  | some n=>
   go_enter func122,ntmps122
   go_wp2_with fail
   go_region_held3 (fun r=>r.cell? ⟨x.k,1,V⟩=U (Z H (x.n:Int)))
    (first|exact A|exact P|exact k2|go_keep)
    (first
     | (go_at_call 96;refine (u w.drew h.drew).mono ?_;rintro e i ⟨d,v,q,j,rfl,g,f⟩;have P:i.cell? ⟨x.k,1,V⟩=U (Z H (x.n:Int)):=(f.to (by unfold bD;ac_rfl:_=pt x.k (Y (x.cells v st'.dt) 149 (0,0))*(cE x.c d x.b st'.b*(bs 5 v l*(ak d*F))))).cell 1)
     | (go_at_call 168;refine (G i v (bD x v d st'*(ak d*F)) (f.to (by ac_rfl)) g).mono ?_;rintro e t ⟨rfl,o,B⟩;have k2:t.cell? ⟨x.k,1,V⟩=U (Z H (x.n:Int)):=(o.to (by unfold bD;ac_rfl:_=pt x.k (Y (x.cells v st'.dt) 149 (0,0))*(cE x.c d x.b st'.b*(bs 5 v (dY l n L)*(ak d*F))))).cell 1))
   have C:ag t (pt x.k (Y (x.cells v st'.dt) 149 (0,0))*(cE x.c d x.b st'.b*(bs 5 v (dY l n L)*(ak d*F)))):=o.to (by unfold bD;ac_rfl);have f3:=C.frozen 3;have g3:=C.cell 3;have h5:=C.setCell 3 (J L);have z:=ae g
   go_wp2_with fail
   go_ret
   refine ⟨d,_,q,(((aj.refl w).drew.trans j).trans B).setCell _ _,rfl,ag.aq.2 ⟨rfl,ag.im v ?_⟩⟩;have h6:=ag.mU (l:=dY l n L) (by rw [fg];exact z.out) h5.au;exact h6.to (by unfold bD Wk.cells;simp only [Z3,P3,J4];ac_rfl)
  | none=>
   go_enter func122,ntmps122
   go_wp2_with fail
   go_region_held3 (fun r=>r.cell? ⟨x.k,1,V⟩=U (Z H (x.n:Int)))
    (first|exact A|exact P|exact k2|go_keep)
    (first
     | (go_at_call 96;refine (u w.drew h.drew).mono ?_;rintro e i ⟨d,v,q,j,rfl,g,f⟩;have P:i.cell? ⟨x.k,1,V⟩=U (Z H (x.n:Int)):=(f.to (by unfold bD;ac_rfl:_=pt x.k (Y (x.cells v st'.dt) 149 (0,0))*(cE x.c d x.b st'.b*(bs 5 v l*(ak d*F))))).cell 1)
     | (go_at_call 168;refine (G i v (bD x v d st'*(ak d*F)) (f.to (by ac_rfl)) g).mono ?_;rintro e t ⟨rfl,o,B⟩;have k2:t.cell? ⟨x.k,1,V⟩=U (Z H (x.n:Int)):=(o.to (by unfold bD;ac_rfl:_=pt x.k (Y (x.cells v st'.dt) 149 (0,0))*(cE x.c d x.b st'.b*(bs 5 v (l)*(ak d*F))))).cell 1))
   have z:=ae g
   go_wp2_with fail
   (refine (fK t 7 (by decide)).mono ?_)
   rintro e w3 ⟨rfl,rfl⟩
   go_wp2_with fail
   refine ⟨rfl,d,q,((aj.refl w).drew.trans j).trans B,rfl,ag.im v ?_⟩;obtain ⟨h8,_⟩:=c0;rw [h8];exact (ag.mU z.out o).to (by ac_rfl)
 | bad c=>
  have E:iG x.c.ask x.n st=(.bad c,st'):=WM.bf y;rw [E]
  go_enter func122,ntmps122
  go_wp2_with fail
  refine wp_region_held_drew (S:=(fun r=>r.cell? ⟨x.k,1,V⟩=U (Z H (x.n:Int)))) (by kernel_rfl) ?_ (fun f0=>?_)
  ·(first|exact A|go_keep)
  refine tk 0 ?_;refine tk 2 ?_;refine tk 3 ?_;refine tk 4 ?_;refine tk 5 ?_;refine tr 1 fun e0 hK=>?_
  go_simp
  go_wp2_with (go_at_call 96;refine (u w.drew h.drew).mono ?_;rintro e i ⟨d,q,j,rfl,f⟩)
  exact ⟨rfl,d,q,(aj.refl w).drew.trans j,rfl,f⟩
end
end Go.Proofs.Fs
namespace Go.SL
open Go.RowKit
structure Hd where
 id:Nat
 n:Nd
 row:List Int
def Hd.l (h:Hd):List Int:=(h.id:Int) :: (h.n.l++h.row)
def Hd.fit (h:Hd):Prop:=h.n.dr.length=16/\h.row.length=240
def Hd.aL (h:Hd) (i:Nat):Int:=if i<16 then h.n.dr.getD i 0 else h.row.getD (i-16) 0
def Hd.put (h:Hd) (i:Nat) (b:Int):Hd:=if i<16 then { h with n:={ h.n with dr:=h.n.dr.set i b } } else { h with row:=h.row.set (i-16) b }
theorem Hd.tO {h:Hd} (d:h.fit) (i:Nat) (b:Int):(h.put i b).fit:=by
 unfold Hd.put;split
 .exact ⟨by simpa using d.1,d.2⟩
 .exact ⟨d.1,by simpa using d.2⟩
theorem Hd.uP {h:Hd} (d:h.fit):h.l.length=261:=by
 simp [Hd.l,Nd.cells d.1,d.2]
theorem Hd.UF {h:Hd} (f:h.fit) {i:Nat} (d:i<16):h.l.getD (4+i) 0=h.aL i:=by
 have e:h.l=(h.id:Int) :: h.n.kd :: h.n.lk :: h.n.sz :: (h.n.dr++([h.n.rw]++h.row)):=by simp [Hd.l,Nd.l]
 unfold Hd.aL;rw [if_pos d,e,K4 4 i];simp only [K2,J3];rw [L3 (by rw [f.1];exact d)]
theorem Hd.TE {h:Hd} (d:h.fit) {i:Nat} (f:16<=i):h.l.getD (21+(i-16)) 0=h.aL i:=by
 have e:h.l=((h.id:Int) :: h.n.l)++h.row:=rfl;unfold Hd.aL;rw [if_neg (by omega),e,K2,K2,V3 (by simp [Nd.cells d.1])];simp [Nd.cells d.1]
theorem Hd.R5 {h:Hd} (d:h.fit) {i:Nat} (b:Int):(h.put i b).l=h.l.set (if i<16 then 4+i else 21+(i-16)) b:=by
 unfold Hd.put
 split
 .rename_i f
  have e:h.l=(h.id:Int) :: h.n.kd :: h.n.lk :: h.n.sz :: (h.n.dr++([h.n.rw]++h.row)):=by simp [Hd.l,Nd.l]
  rw [e,K4 4 i];simp only [P3];rw [List.set_append,if_pos (by rw [d.1];exact f)];simp [Hd.l,Nd.l]
 .rename_i f
  have e:h.l=((h.id:Int) :: h.n.l)++h.row:=rfl;have g:((h.id:Int) :: h.n.l).length=21:=by simp [Nd.cells d.1]
  rw [e,List.set_append,g,if_neg (by omega),show 21+(i-16)-21=i-16 by omega]
  rfl
section
variable {σ:Type}
def eD (n:Nat) (l:List Int):WM σ Unit:=fun st=>(if l.all (fun x=>decide (x<n))=L then .ok () else .bad 4,st)
end
end Go.SL
namespace Go.Proofs.Fs
open Go.RowKit Go.SL Go.Proofs.Ba
def aO (d:Nat) (h:Hd):ai:=fact h.fit*pt d (Y (ints h.l) 137 (0,0))
theorem ag.held {w:O} {e:Nat} {h:Hd} {F:ai}:ag w (aO e h*F)↔h.fit/\ag w (pt e (Y (ints h.l) 137 (0,0))*F):=by
 constructor
 .intro d;exact ag.aq.1 (d.to (ax _ _ _))
 .intro d;exact (ag.aq.2 d).to (ax _ _ _).symm
def Oc (n:Nat) (l:List Int) (w:O) (u:M) (wr:O):Prop:=
 ∃ k:Nat,k<=l.length/\u = Z H (k:Int)/\(∀ j,j<k->l.getD j 0<n)/\w=wr
theorem jc (w:O) (k n:Nat) (v:M) (l:List Int) (hl:l.length<=1000) (B:oT w v l) (h1:w.cell? ⟨k,1,V⟩=U (Z H (n:Int)))
  (q:Ending->O->Prop) (S:l.all (fun x=>decide (x<n))=L->q (K (I #[])) w) (P:l.all (fun x=>decide (x<n))=N->q (.panicked (I8 4)) w) :
  Calls Q 144 #[X (U ⟨k,0,V⟩),v] w q:=by
 have E:=ae S;have C:=ae P;have b0:(l.length:Int)<=1000:=by omega
 have z:=fun j (d:j<l.length)=>B.Us d;obtain ⟨va,vc,rfl⟩:=B.DU;obtain ⟨m,hm⟩:∃ m,l.length=m:=⟨_,rfl⟩
 rw [hm] at b0 z ⊢;have f:=ae hm;clear hm hl
 go_enter func144,ntmps144
 go_wp2_with fail
 go_loopw [8] (fun u wr=>Oc n l w u wr) (fun u _=>m-(intOf u).toNat)
 case atStart=>exact ⟨0,Nat.zero_le _,rfl,fun j d=>absurd d (N2 _),rfl⟩
 case round=>
  obtain ⟨j,d,rfl,y,rfl⟩:=hrel;rw [f.out] at d
  by_cases A:j<m
  .have h0:(j:Int)<(m:Int):=by omega
   obtain ⟨g0,k0,c,e,hc⟩:=z j A;obtain ⟨rfl,-,rfl⟩:=e;have i0:l.getD j 0 ∈ l:=by rw [K2,W3 (by rw [f.out];exact A)];exact List.getElem_mem _
   by_cases t:l.getD j 0<n
   .have d0:∀ i,i<j+1->l.getD i 0<n:=fun i g=>by
     rcases Nat.lt_or_eq_of_le (Nat.le_of_lt_succ g) with r|r
     .exact y i r
     .rw [r];exact t
    have G:=ae d0;have e0:¬ ((n:Int)<=l.getD j 0):=by omega
    go_wp2_with fail
    go_roundw
    case rel=>exact ⟨j+1,by rw [f.out];omega,by go_num,G.out,rfl⟩
    case measure=>simp [intOf];omega
   .have e0:(n:Int)<=l.getD j 0:=by omega
    have c0:l.all (fun x=>decide (x<n))=N:=by grind
    have o:=ae (C.out c0)
    go_wp2_with fail
    (refine (fK _ 4 (by decide)).mono ?_)
    rintro e w2 ⟨rfl,rfl⟩
    go_wp2_with fail
    exact ⟨rfl,o.out⟩
  .obtain rfl:j=m:=by omega
   have f0:l.all (fun x=>decide (x<n))=L:=by
    rw [List.all_eq_true];intro x t;obtain ⟨i,g,rfl⟩:=List.getElem_of_mem t;have:=y i (by rw [<- f.out];exact g);rw [K2,W3 g] at this;simpa using this
   have o:=ae (E.out f0)
   go_wp2_with fail
   go_end0
   exact o.out
def JV (z:Int) (w:O) (e:Ending) (d:O):Prop:=e = K (Z H z)/\w=d
theorem nv (w:O) (d:Nat) (h:Hd) (F:ai) (hs:ag w (aO d h*F)) (i:Nat) (r:i<256) :
  Calls Q 86 #[X (U ⟨d,0,V⟩),Z H (i:Int)] w (JV (h.aL i) w):=by
 obtain ⟨f,o⟩:=ag.held.1 hs
 have g:∀ j,j<261->w.cell? ⟨d,j,V⟩=U (Z H (h.l.getD j 0)):=fun j q=>by
  rw [o.cell,bH (by rw [Hd.uP f];exact q)]
 by_cases l:i<16
 .have e:=g (4+i) (by omega)
  rw [Hd.UF f l] at e
  go_enter func86,ntmps86
  go_wp2_with fail
  go_ret
  exact ⟨rfl,rfl⟩
 .have e:=g (21+(i-16)) (by omega)
  rw [Hd.TE f (by omega)] at e
  go_enter func86,ntmps86
  go_wp2_with fail
  go_ret
  exact ⟨rfl,rfl⟩
def TD (f:Nat) (h:Hd) (F:ai) (w:O) (e:Ending) (d:O):Prop:=e = K (I #[])/\ag d (aO f h*F)/\aj w d
theorem pZ (w:O) (d:Nat) (h:Hd) (F:ai) (hs:ag w (aO d h*F)) (i:Nat) (z:i<256) (b:Int) :
  Calls Q 149 #[X (U ⟨d,0,V⟩),Z H (i:Int),Z H b] w (TD d (h.put i b) F w):=by
 obtain ⟨l,e⟩:=ag.held.1 hs
 have r:∀ j,j<261->w.cell? ⟨d,j,V⟩=U (Z H (h.l.getD j 0)):=fun j x=>by
  rw [e.cell,bH (by rw [Hd.uP l];exact x)]
 have u:∀ j,ag (w.setCell ⟨d,j,V⟩ (Z H b)) (pt d (Y (ints (h.l.set j b)) 137 (0,0))*F):=fun j=>by
  have:=e.setCell j (Z H b)
  rwa [gC] at this
 have f:=Hd.R5 l (i:=i) b;have t:=Hd.tO l i b
 by_cases q:i<16
 .have v:=r (4+i) (by omega)
  have y:=e.frozen (4+i);rw [if_pos q] at f;have o:=ag.held.2 ⟨t,by rw [f];exact u (4+i)⟩;have g:=ae o
  go_enter func149,ntmps149
  go_wp2_with fail
  go_end0
  exact ⟨rfl,g.out,(aj.refl w).setCell _ _⟩
 .have v:=r (21+(i-16)) (by omega)
  have y:=e.frozen (21+(i-16));rw [if_neg q] at f;have o:=ag.held.2 ⟨t,by rw [f];exact u _⟩;have g:=ae o
  go_enter func149,ntmps149
  go_wp2_with fail
  go_end0
  exact ⟨rfl,g.out,(aj.refl w).setCell _ _⟩
end Go.Proofs.Fs
namespace Go.SL
open Go.RowKit
def kp (d:List UInt8):Nd × Int:=if ((iA d).ok && (d.drop 41).all (· == 0))=L then (iA d,0) else (⟨0,0,0,J2 16 0,0⟩,4)
def lf (d:List UInt8):List Int × Int:=if (bO d 0 240).all cZ=L then (bO d 0 240,0) else (J2 240 0,4)
theorem EY (d:List UInt8):(kp d).1.dr.length=16:=by
 unfold kp;split
 .exact bJ _ _ _
 .rfl
theorem Cb (d:List UInt8):(lf d).1.length=240:=by
 unfold lf;split
 .exact bJ _ _ _
 .rfl
theorem QC (d:List UInt8):(kp d).2=0\/(kp d).2=4:=by unfold kp;split;exact .inl rfl;exact .inr rfl
theorem Qm (d:List UInt8):(lf d).2=0\/(lf d).2=4:=by unfold lf;split;exact .inl rfl;exact .inr rfl
section
variable {σ:Type}
def iS (n:Nat) (id:Nat) (d:Nd) (row:List Int):WM σ Hd:=WM.bind (eD n d.dr) fun _=>WM.bind (eD n row) fun _=>WM.pure ⟨id,d,row⟩
def RN (p:Nd × Int) (k:Nd->WM σ Hd):WM σ Hd:=fun st=>if p.2=0 then k p.1 st else (.bad p.2,st)
def JE (p:List Int × Int) (k:List Int->WM σ Hd):WM σ Hd:=fun st=>if p.2=0 then k p.1 st else (.bad p.2,st)
def kU (ask:cI σ) (n:Nat) (id:Nat) (d:Nd):WM σ Hd:=fun st=>
 if d.rw=0 then iS n id d (J2 240 0) st
 else (WM.bind (eD n [d.rw]) fun _=>WM.bind (cS ask d.rw) fun e=>JE (lf e) (iS n id d)) st
def fT (ask:cI σ) (n:Nat) (id:Int):WM σ Hd:=fun st=>
 if 1<=id/\id<n then (WM.bind (cS ask id) fun d=>RN (kp d) (kU ask n id.toNat)) st else (.bad 1,st)
end
end Go.SL
namespace Go.Proofs.Fs
open Go.RowKit Go.SL Go.Proofs.Ba
theorem zZ (d e f x y z A B C E G g i j l o q r t u v:Int):prog.built 137 [(0,Z H d),(1,.agg #[Z H e,Z H f,Z H x,Z H y,Z H z,Z H A,Z H B,Z H C,Z H E,Z H G,Z H g,Z H i,Z H j,Z H l,Z H o,Z H q,Z H r,Z H t,Z H u,Z H v])]=U (ints ([d,e,f,x,y,z,A,B,C,E,G,g,i,j,l,o,q,r,t,u,v]++J2 240 0)):=by kernel_rfl
theorem QV {l:List Int} (h:l.length=16):∃ a0 d q a3 a4 a5 r t u a9 e f g i j o,l=[a0,d,q,a3,a4,a5,r,t,u,a9,e,f,g,i,j,o]:=by
 match l,h with
 | [a0,d,q,a3,a4,a5,r,t,u,a9,e,f,g,i,j,o],_=>exact ⟨a0,d,q,a3,a4,a5,r,t,u,a9,e,f,g,i,j,o,rfl⟩
theorem po (d:Int) (n:Nd) (h:n.dr.length=16):prog.built 137 [(0,Z H d),(1,.agg (n.l.map (E2 H)).toArray)]=U (ints (d :: (n.l++J2 240 0))):=by
 obtain ⟨v,x,y,dr,rw⟩:=n;obtain ⟨a0,e,q,a3,a4,a5,r,t,u,a9,f,g,i,j,l,o,rfl⟩:=QV h;exact zZ d v x y a0 e q a3 a4 a5 r t u a9 f g i j l o rw
theorem gG {P:Program} {f:Array Oper} {rest:List Oper} {o:Oper} {a:Act} {w:O} {d:Exit->Act->O->Prop} (j:o.guard=V) (t:TypeId) (parts:Array (Nat × Operand)) (r:o.op = .build t parts)
  (l:List (Nat × M)) (q:parts.toList.map (fun p=>(p.1,a.eval p.2))=l) (C:Array M) (g:P.built t l=U C) (h:wpList P f d rest (a.put o.dst (.agg C)) w):wpList P f d (o :: rest) a w:=by
 have e:P.built t (parts.map fun (i,x)=>(i,a.eval x)).toList=U C:=by rw [Array.toList_map];exact q▸g
 exact wpList_build j t parts r (by rw [e];rfl) (by rw [e];exact h)
def Tn (d:List UInt8) (w:O) (e:Ending) (f:O):Prop:=e = K (I #[(kp d).1.v,Z H (kp d).2])/\ag f (whole w)/\aj w f
def PY (d:List UInt8) (w:O) (e:Ending) (f:O):Prop:=e = K (I #[.agg (ints (lf d).1),Z H (lf d).2])/\ag f (whole w)/\aj w f
theorem OC (w:O) (v:M) (d:List UInt8) (o:Rd w v d) (l:d.length=480):Calls Q 141 #[v] w (Tn d w):=by
 refine pG w v d o l _ (fun f j q g i=>?_) (fun f q g i=>?_)
 .have e:kp d=(iA d,0):=if_pos (by rw [f,j];rfl)
  exact ⟨by rw [e],g,i⟩
 .have e:kp d=(⟨0,0,0,J2 16 0,0⟩,4):=if_neg (by rcases f with h|h <;> rw [h] <;> simp)
  exact ⟨by rw [e];rfl,g,i⟩
theorem Nk (w:O) (v:M) (d:List UInt8) (l:Rd w v d) (j:d.length=480):Calls Q 145 #[v] w (PY d w):=by
 refine wY w v d l j _ (fun f o g i=>?_) (fun f o g i=>?_)
 .have e:lf d=(bO d 0 240,0):=if_pos f
  exact ⟨by rw [e],g,i⟩
 .have e:lf d=(J2 240 0,4):=if_neg (by rw [f];simp)
  exact ⟨by rw [e];rfl,g,i⟩
section
variable {σ α:Type}
theorem wo {w:O} {x:Wk σ} {S:Hp} {st:eB σ} {F:ai} (h:ag w (aE x S st*F)):w.cell? ⟨x.k,1,V⟩=U (Z H (x.n:Int)):=by
 obtain ⟨v,d⟩:=ag.ft h;exact (d.to (by unfold bD;ac_rfl:_=pt x.k (Y (x.cells v st.dt) 149 (0,0))*(cE x.c S x.b st.b*(cu st.bits v*F)))).cell 1
def oZ (h:Hd) (v:M):ai:=ex fun d=>fact (v=ay d)*aO d h
theorem JM {ask:cI σ} {n:Nat} {id:Int} {st:eB σ} (h:¬ (1<=id/\id<n)):fT ask n id st=(.bad 1,st):=if_neg h
theorem Ii {ask:cI σ} {n:Nat} {id:Int} {st d:eB σ} {c:Int} (h:1<=id/\id<n) (e:cS ask id st=(.bad c,d)):fT ask n id st=(.bad c,d):=
 (if_pos h).trans (WM.bf e)
theorem FU {ask:cI σ} {n:Nat} {id:Int} {st e:eB σ} {d:List UInt8} {nd:Nd} (h:1<=id/\id<n) (g:cS ask id st=(.ok d,e)) (f:kp d=(nd,4)):fT ask n id st=(.bad 4,e):=by
 refine ((if_pos h).trans (WM.aX g)).trans ?_;rw [f];exact if_neg (show ¬ (4:Int)=0 by decide)
theorem LZ {ask:cI σ} {n:Nat} {id:Int} {st e:eB σ} {d:List UInt8} {nd:Nd} (h:1<=id/\id<n) (g:cS ask id st=(.ok d,e)) (f:kp d=(nd,0)):fT ask n id st=kU ask n id.toNat nd e:=by
 refine ((if_pos h).trans (WM.aX g)).trans ?_;rw [f];exact if_pos rfl
theorem gZ {n:Nat} {l:List Int} {st:eB σ} (h:l.all (fun x=>decide (x<n))=L):eD n l st=(.ok (),st):=by unfold eD;rw [if_pos h]
theorem pJ {n:Nat} {l:List Int} {st:eB σ} (h:l.all (fun x=>decide (x<n))=N):eD n l st=(.bad 4,st):=by unfold eD;rw [if_neg (by rw [h];simp)]
theorem xA {n id:Nat} {nd:Nd} {row:List Int} {st:eB σ} (d:nd.dr.all (fun x=>decide (x<n))=L) (e:row.all (fun x=>decide (x<n))=L):iS n id nd row st=(.ok ⟨id,nd,row⟩,st):=
 (WM.aX (gZ d)).trans (WM.aX (gZ e))
theorem vG {n id:Nat} {nd:Nd} {row:List Int} {st:eB σ} (d:nd.dr.all (fun x=>decide (x<n))=L) (e:row.all (fun x=>decide (x<n))=N):iS n id nd row st=(.bad 4,st):=
 (WM.aX (gZ d)).trans (WM.bf (pJ e))
theorem vX {n id:Nat} {nd:Nd} {row:List Int} {st:eB σ} (d:nd.dr.all (fun x=>decide (x<n))=N):iS n id nd row st=(.bad 4,st):=
 WM.bf (pJ d)
theorem Ka {ask:cI σ} {n id:Nat} {nd:Nd} {st:eB σ} (h:nd.rw=0):kU ask n id nd st=iS n id nd (J2 240 0) st:=if_pos h
theorem JK {ask:cI σ} {n id:Nat} {nd:Nd} {st:eB σ} (h:nd.rw≠0) (d:[nd.rw].all (fun x=>decide (x<n))=N):kU ask n id nd st=(.bad 4,st):=
 (if_neg h).trans (WM.bf (pJ d))
theorem Mb {ask:cI σ} {n id:Nat} {nd:Nd} {st d:eB σ} {c:Int} (h:nd.rw≠0) (e:[nd.rw].all (fun x=>decide (x<n))=L) (f:cS ask nd.rw st=(.bad c,d)):kU ask n id nd st=(.bad c,d):=
 (if_neg h).trans ((WM.aX (gZ e)).trans (WM.bf f))
theorem MJ {ask:cI σ} {n id:Nat} {nd:Nd} {st e:eB σ} {d:List UInt8} {row:List Int} (h:nd.rw≠0) (f:[nd.rw].all (fun x=>decide (x<n))=L) (g:cS ask nd.rw st=(.ok d,e)) (i:lf d=(row,4)):kU ask n id nd st=(.bad 4,e):=by
 refine (if_neg h).trans ((WM.aX (gZ f)).trans ((WM.aX g).trans ?_));rw [i];exact if_neg (show ¬ (4:Int)=0 by decide)
theorem Kp {ask:cI σ} {n id:Nat} {nd:Nd} {st e:eB σ} {d:List UInt8} {row:List Int} (h:nd.rw≠0) (f:[nd.rw].all (fun x=>decide (x<n))=L) (g:cS ask nd.rw st=(.ok d,e)) (i:lf d=(row,0)):kU ask n id nd st=iS n id nd row e:=by
 refine (if_neg h).trans ((WM.aX (gZ f)).trans ((WM.aX g).trans ?_));rw [i];exact if_pos rfl
theorem BK (id:Int) (e z r:List Int) (d:e.length=20) (i:z.length=240) (f:r.length=240):fQ (ints (id :: (e++z))) 21 (r.map (E2 H))=ints (id :: (e++r)):=by
 have o:(ints (id :: (e++z))).size=261:=by rw [dM];simp [d,i]
 apply Array.ext_getElem?;intro k;rw [iL _ _ _ _ (by rw [O2,f,o];decide),O2,f,dH,dH]
 by_cases g:21<=k/\k<21+240
 .rw [if_pos g,X3]
  obtain ⟨j,rfl⟩:∃ j,k=j+1:=⟨k-1,by omega⟩
  rw [J3,V3 (by omega),d];congr 2
 .rw [if_neg g]
  rcases Nat.lt_or_ge k 21 with l|l
  .cases k with
   | zero=>rfl
   | succ j=>rw [J3,J3,L3 (by omega),L3 (by omega)]
  .rw [S4 (by simp [d,i];omega),S4 (by simp [d,f];omega)]
theorem vY (x:Wk σ) (hc:x.c.Ok) (w:O) (c0:Hp) (st:eB σ) (id:Int) (F:ai) (h:ag w (aE x c0 st*(ak c0*F))) (q:Ending->O->Prop)
  (hQ:∀ e w',WQ x oZ c0 F w (fT x.c.ask x.n id st) e w'->q e w') :
  Calls Q 82 #[X (U ⟨x.k,0,V⟩),Z H id] w q:=by
 have y:=wo h
 by_cases l0:1<=id/\id<x.n
 .have P:=lI x hc w c0 st id F h
  have Hid:=ae l0;obtain ⟨i1,i2⟩:=l0;clear h;obtain ⟨⟨Z1,aR⟩,hp⟩:∃ p,cS x.c.ask id st=p:=⟨_,rfl⟩
  rw [hp] at P
  cases Z1 with
  | bad c=>
   have o:=ae hQ;have Hp:=ae (Ii Hid.out hp);clear hp hQ
   go_enter func82,ntmps82
   go_wp2_with fail
   (with_reducible refine (gB w).mono ?_)
   rintro e S ⟨rfl,rfl⟩
   go_wp2_with fail
   (with_reducible refine P.mono ?_)
   rintro e w1 ⟨S',hS,d1,rfl,h2⟩
   go_wp2_with fail
   exact ⟨rfl,o.out _ _ (by rw [Hp.out];exact ⟨S',hS,d1,rfl,h2⟩)⟩
  | ok G0=>
   have hL:=iT hp;have f:=ae (EY G0);have z1:=QC G0;have A:=fun w1 v1 P=>OC w1 v1 G0 P hL;unfold Tn at A;have o:=ae hQ;have m1:=fun d=>LZ (nd:=d) Hid.out hp;have i0:=fun d=>FU (nd:=d) Hid.out hp;generalize kp G0=p at *;obtain ⟨d,c⟩:=p;dsimp only at z1 f A;have S0:=ae (m1 d);have f0:=ae (i0 d);have M1:d.v = .agg (d.l.map (E2 H)).toArray:=rfl;rw [M1] at A;clear hp hQ m1 i0 hL M1
   go_enter func82,ntmps82
   go_wp2_with fail
   (with_reducible refine (gB w).mono ?_)
   rintro e S ⟨rfl,rfl⟩
   go_wp2_with fail
   (with_reducible refine P.mono ?_)
   rintro e w1 ⟨t,v1,G,d1,rfl,h1⟩;have zG:=A w1 v1 h1.mZ;have Hk:=ae (fun w' (h:ag w' (whole w1))=>ag.dN h h1);clear P y A
   go_wp2_with fail
   (with_reducible refine zG.mono ?_)
   rintro e S ⟨rfl,h2,d2⟩;have H2:=(Hk.out S h2).right;have D2:=d1.trans d2;clear zG Hk h1 h2 d1 d2;have hZ:=H2.alloc (Y #[Z H 0,Z H 0,Z H 0,Z H 0,Z H 0,Z H 0,Z H 0,Z H 0,Z H 0,Z H 0,Z H 0,Z H 0,Z H 0,Z H 0,Z H 0,Z H 0,Z H 0,Z H 0,Z H 0,Z H 0] 73 (0,0));have DZ:=D2.alloc (Y #[Z H 0,Z H 0,Z H 0,Z H 0,Z H 0,Z H 0,Z H 0,Z H 0,Z H 0,Z H 0,Z H 0,Z H 0,Z H 0,Z H 0,Z H 0,Z H 0,Z H 0,Z H 0,Z H 0,Z H 0] 73 (0,0));have g1:(d.l.map (E2 H)).toArray.size=20:=by simp [Nd.cells f.out]
   have x1:(d.l.map (E2 H)).toArray.all (·.oneCell')=L:=by simp [Y3]
   have K1:(prog.info? 73).map (·.size)=U (d.l.map (E2 H)).toArray.size:=by rw [g1];exact bC
   have R1:=ae g1;have S1:=ae x1;have W1:=ae K1;have B:=hZ.setRow (cs':=(d.l.map (E2 H)).toArray);have k1:=ae (DZ.setRow S.heap.size (d.l.map (E2 H)).toArray);have Hz:=ae hZ.heap;clear g1 x1 K1 H2 D2 DZ hZ
   go_wp2_with (refine wpList_store_row (by exact rfl) 73 (.tmp 5) (.tmp 24) (by exact rfl) S.heap.size (d.l.map (E2 H)).toArray (by exact rfl) (by exact rfl) 73 _ (by with_reducible exact Hz.out) W1.out (by rw [R1.out];rfl) S1.out ?_)
   generalize S.heap.size=i at *;generalize World.setRow _ _ _=l at *;clear Hz;rcases z1 with rfl|rfl
   .have C:=ae (S0.out rfl)
    clear S0 f0;have f1:=po id d f.out;obtain ⟨g,N0⟩:∃ X1,X1=J2 240 (0:Int):=⟨_,rfl⟩
    rw [<- N0] at f1;have r:RowKit.Hid (g.length=240):=by show g.length=240;rw [N0];rfl
    have N1:=ae N0;clear N0;have u0:=ae f1
    have H1:l.rangeAt i 0 (d.l.map (E2 H)):=fun b2 v hv=>by
     rw [Nat.zero_add,B.cell,List.getElem?_toArray];exact hv
    have r1:(prog.info? 73).map (·.size)=U (d.l.map (E2 H)).length:=by rw [O2,Nd.cells f.out];exact bC
    have F0:=ae H1;have x0:=ae r1;clear f1 H1 r1;have c4:l.cell? ⟨i,19,V⟩=U (Z H d.rw):=(B.cell 19).trans (Nd.Gm f.out);have V1:=ae B;have t1:i<l.heap.size:=B.lt;clear B;have L0:ag (l.alloc (Y (ints (id :: (d.l++g))) 137 (0,0))) (pt l.heap.size (Y (ints (id :: (d.l++g))) 137 (0,0))*(pt i (Y (d.l.map (E2 H)).toArray 73 (0,0))*(aE x t aR*(ak t*F)))):=V1.out.alloc _;have D0:=ae (k1.out.alloc (Y (ints (id :: (d.l++g))) 137 (0,0)));have V0:=ae L0;have u1:l.heap.size<(l.alloc (Y (ints (id :: (d.l++g))) 137 (0,0))).heap.size:=L0.lt;have c1:(l.alloc (Y (ints (id :: (d.l++g))) 137 (0,0))).cell? ⟨i,19,V⟩=U (Z H d.rw):=(L0.ah.cell 19).trans (Nd.Gm f.out);clear L0
    (with_reducible refine (j7 _).mono ?_)
    rintro e w4 ⟨rfl,rfl⟩
    by_cases d0:d.rw=0
    .have e0:=ae ((Ka (ask:=x.c.ask) (n:=x.n) (id:=id.toNat) (st:=aR) d0).trans (by rw [<- N1.out]))
     rw [d0] at c4 c1
     go_wp2_with (first
      | (refine wpList_load_mid (by exact rfl) 73 (.tmp 5) (by exact rfl) i 0 (by exact rfl) (d.l.map (E2 H)) _ (by with_reducible exact F0.out) underlying73 rfl (by with_reducible exact x0.out) ?_)
      | (refine gG (by exact rfl) 137 #[(0,.tmp 28),(1,.tmp 29)] (by exact rfl) _ (by exact rfl) _ (by exact u0.out) ?_))
     have z:=V0.out;generalize l.alloc (Y (ints (id :: (d.l++g))) 137 (0,0))=w5 at *;generalize l.heap.size=j at *;clear c4 c1 F0 x0 t1 u1 u0
     have o0:oT w5 (R (U ⟨i,3,V⟩) 16 16) d.dr:=by
      have h9:ag w5 (pt i (Y (ints d.l) 73 (0,0))*_):=z.ah;have:=oT.row h9 3 16 (by rw [Nd.cells f.out];decide) (by decide)
      rwa [Nd.ly f.out] at this
     have p0:oT w5 (R (U ⟨j,21,V⟩) 240 240) g:=by
      have:=oT.row z 21 240 (by rw [M2,L4,Nd.cells f.out,r.out];decide) (by decide)
      rwa [show ((id :: (d.l++g)).drop 21).take 240=g from by rw [T4,List.drop_left' (Nd.cells f.out),V4 (by rw [r.out];decide)]] at this
     have y:w5.cell? ⟨x.k,1,V⟩=U (Z H (x.n:Int)):=wo z.right.right;have hA:∀ q,_->_->Calls Q 144 #[X (U ⟨x.k,0,V⟩),R (U ⟨i,3,V⟩) 16 16] w5 q:=jc w5 x.k x.n _ d.dr (by rw [f.out];decide) o0 y;have E:∀ q,_->_->Calls Q 144 #[X (U ⟨x.k,0,V⟩),R (U ⟨j,21,V⟩) 240 240] w5 q:=jc w5 x.k x.n _ g (by rw [r.out];decide) p0 y;have HT:=ae z;clear o0 p0 y z
     go_wp2_with fail
     refine hA _ (fun q0=>?_) (fun m0=>?_)
     .have h0:=ae q0
      clear q0 hA
      go_wp2_with fail
      refine E _ (fun r0=>?_) (fun n0=>?_)
      .have b1:=ae r0
       clear r0 E
       go_wp2_with fail
       refine o.out _ _ ?_;rw [C.out.trans (e0.out.trans (xA h0.out b1.out))];refine ⟨t,_,G,D0.out,rfl,?_⟩;refine ag.aw.2 ⟨j,(ag.aq.2 ⟨rfl,ag.held.2 ⟨⟨f.out,r.out⟩,?_⟩⟩:ag _ (fact _*_)).to (ax _ _ _).symm⟩;have e:(Hd.l ⟨id.toNat,d,g⟩)=id :: (d.l++g):=by show ((id.toNat:Int) :: _)=_;rw [N4 (by omega)]
       rw [e];exact (HT.out.to (by ac_rfl:_=pt i (Y (d.l.map (E2 H)).toArray 73 (0,0))*(pt j (Y (ints (id :: (d.l++g))) 137 (0,0))*(aE x t aR*(ak t*F))))).right
      .have Y0:=ae n0
       clear n0 E
       go_wp2_with fail
       exact ⟨rfl,o.out _ _ (by rw [C.out.trans (e0.out.trans (vG h0.out Y0.out))];exact ⟨t,G,D0.out,rfl,HT.out.right.right⟩)⟩
     .have X0:=ae m0
      clear m0 hA E
      go_wp2_with fail
      exact ⟨rfl,o.out _ _ (by rw [C.out.trans (e0.out.trans (vX X0.out))];exact ⟨t,G,D0.out,rfl,HT.out.right.right⟩)⟩
    .have a2:(d.rw != 0)=L:=by simpa using d0
     have Z0:=ae d0;have e0:=ae (JK (ask:=x.c.ask) (n:=x.n) (id:=id.toNat) (st:=aR) d0);have k0:=V0.out.alloc (Y #[Z H d.rw] 3 (0,0));have D1:=ae (D0.out.alloc (Y #[Z H d.rw] 3 (0,0)));have W0:=ae k0
     have A1:oT ((l.alloc (Y (ints (id :: (d.l++g))) 137 (0,0))).alloc (Y #[Z H d.rw] 3 (0,0))) (R (U ⟨l.heap.size+1,0,V⟩) 1 1) [d.rw]:=by
      have h8:=k0;rw [K3] at h8;exact oT.row (xs:=[d.rw]) h8 0 1 (Nat.le_refl _) (by decide)
     have y:=wo k0.right.right.right;have hC:∀ q,_->_->Calls Q 144 #[X (U ⟨x.k,0,V⟩),R (U ⟨l.heap.size+1,0,V⟩) 1 1] _ q:=jc _ x.k x.n _ [d.rw] (by show 1<=1000;decide) A1 y;have Y1:=(k0.au.cell 19).trans (Nd.Gm f.out);clear k0 A1 y d0
     go_wp2_with (first
      | (refine wpList_load_mid (by exact rfl) 73 (.tmp 5) (by exact rfl) i 0 (by exact rfl) (d.l.map (E2 H)) _ (by with_reducible exact F0.out) underlying73 rfl (by with_reducible exact x0.out) ?_)
      | (refine gG (by exact rfl) 137 #[(0,.tmp 28),(1,.tmp 29)] (by exact rfl) _ (by exact rfl) _ (by exact u0.out) ?_))
     refine hC _ (fun hy=>?_) (fun hn=>?_)
     .have Hy:=ae hy
      have R0:=lI x hc _ t aR d.rw _ (W0.out.right.to (by ac_rfl:_=aE x t aR*(ak t*(pt l.heap.size (Y (ints (id :: (d.l++g))) 137 (0,0))*(pt i (Y (d.l.map (E2 H)).toArray 73 (0,0))*F)))));clear hy hC;generalize l.alloc (Y (ints (id :: (d.l++g))) 137 (0,0))=w4 at *;generalize l.heap.size=j at *;clear c4 c1 F0 x0 t1 u1 u0 V0;obtain ⟨⟨r2,j1⟩,b0⟩:∃ p,cS x.c.ask d.rw aR=p:=⟨_,rfl⟩
      rw [b0] at R0
      cases r2 with
      | bad c=>
       have T0:=ae (Mb (id:=id.toNat) Z0.out Hy.out b0);clear b0
       go_wp2_with fail
       (with_reducible refine R0.mono ?_)
       rintro e w6 ⟨u,H0,d6,rfl,h6⟩
       go_wp2_with fail
       exact ⟨rfl,o.out _ _ (by rw [C.out.trans T0.out];exact ⟨u,G.trans H0,D1.out.trans d6,rfl,h6.to (by ac_rfl:_=(aE x u j1*(ak u*F))*(pt j (Y (ints (id :: (d.l++g))) 137 (0,0))*pt i (Y (d.l.map (E2 H)).toArray 73 (0,0)))) |>.left⟩)⟩
      | ok L2=>
       have o1:=iT b0;have n1:=fun row=>MJ (row:=row) (id:=id.toNat) Z0.out Hy.out b0;have i0:=fun row=>Kp (row:=row) (id:=id.toNat) Z0.out Hy.out b0;have A:=fun w1 v1 P=>Nk w1 v1 L2 P o1;have e1:=Cb L2;have E1:=Qm L2;unfold PY at A;generalize lf L2=p at *;obtain ⟨row,c⟩:=p;dsimp only at A e1 E1;have T0:=ae (n1 row);have f0:=ae (i0 row);have s0:=ae e1;clear n1 i0 b0 o1 e1
       go_wp2_with fail
       (with_reducible refine R0.mono ?_)
       rintro e w6 ⟨u,v2,H0,d6,rfl,h6⟩;have p1:=A w6 v2 h6.mZ;have Hk:=ae (fun w' (h:ag w' (whole w6))=>ag.dN h h6);clear R0 A
       go_wp2_with fail
       (with_reducible refine p1.mono ?_)
       rintro e w7 ⟨rfl,h7,d7⟩;have h8:ag w7 (pt j (Y (ints (id :: (d.l++g))) 137 (0,0))*(pt i (Y (d.l.map (E2 H)).toArray 73 (0,0))*(aE x u j1*(ak u*F)))):=(Hk.out w7 h7).right.to (by ac_rfl);have D8:=ae (aj.setCells (row.map (E2 H)) 21 j ((D1.out.trans d6).trans d7));have K0:=G.trans H0;have B:=ag.setCells (row.map (E2 H)) 21 h8;rw [BK id d.l g row (Nd.cells f.out) r.out s0.out] at B
       have L1:w7.there j 21 (row.map (E2 H)).toArray.size:=by
        have hz:(row.map (E2 H)).toArray.size=240:=by simp [s0.out]
        rw [hz];exact ag.there h8 (by rw [dM,M2,L4,Nd.cells f.out,r.out];decide)
       have q1:(prog.info? 135).map (·.size)=U (row.map (E2 H)).toArray.size:=by
        have hz:(row.map (E2 H)).toArray.size=240:=by simp [s0.out]
        rw [hz];exact jZ
       have y1:(row.map (E2 H)).toArray.all (·.oneCell')=L:=by simp [Y3]
       have s1:Value.agg (ints row) = .agg (row.map (E2 H)).toArray:=rfl;have l1:=ae L1;have O1:=ae q1;have T1:=ae y1;have a1:=ae B;rw [s1];clear p1 Hk h6 h7 d6 d7 h8 L1 q1 y1 s1 B W0 D1 G H0 Y1
       go_wp2_with (refine wpList_store_mid (by exact rfl) 135 (.tmp 50) (.tmp 47) (by exact rfl) j 21 (row.map (E2 H)).toArray (by exact rfl) (by exact rfl) (by with_reducible exact l1.out) O1.out T1.out ?_)
       rcases E1 with rfl|rfl
       .have g0:=ae (C.out.trans (f0.out rfl))
        (with_reducible refine (j7 _).mono ?_)
        rintro e w9 ⟨rfl,rfl⟩;have z:ag (w7.setCells j 21 (row.map (E2 H)).toArray.toList) _:=a1.out;clear r;have r:=s0;have DD:RowKit.Hid (aj w (w7.setCells j 21 (row.map (E2 H)).toArray.toList)):=D8;clear l1 a1 D8;generalize w7.setCells j 21 (row.map (E2 H)).toArray.toList=w8 at *
        have o0:oT w8 (R (U ⟨i,3,V⟩) 16 16) d.dr:=by
         have h9:ag w8 (pt i (Y (ints d.l) 73 (0,0))*_):=z.ah;have:=oT.row h9 3 16 (by rw [Nd.cells f.out];decide) (by decide)
         rwa [Nd.ly f.out] at this
        have p0:oT w8 (R (U ⟨j,21,V⟩) 240 240) row:=by
         have:=oT.row z 21 240 (by rw [M2,L4,Nd.cells f.out,r.out];decide) (by decide)
         rwa [show ((id :: (d.l++row)).drop 21).take 240=row from by rw [T4,List.drop_left' (Nd.cells f.out),V4 (by rw [r.out];decide)]] at this
        have y:w8.cell? ⟨x.k,1,V⟩=U (Z H (x.n:Int)):=wo z.right.right;have hA:∀ q,_->_->Calls Q 144 #[X (U ⟨x.k,0,V⟩),R (U ⟨i,3,V⟩) 16 16] w8 q:=jc w8 x.k x.n _ d.dr (by rw [f.out];decide) o0 y;have E:∀ q,_->_->Calls Q 144 #[X (U ⟨x.k,0,V⟩),R (U ⟨j,21,V⟩) 240 240] w8 q:=jc w8 x.k x.n _ row (by rw [r.out];decide) p0 y;have HT:=ae z;clear o0 p0 y z
        go_wp2_with fail
        refine hA _ (fun q0=>?_) (fun m0=>?_)
        .have h0:=ae q0
         clear q0 hA
         go_wp2_with fail
         refine E _ (fun r0=>?_) (fun n0=>?_)
         .have b1:=ae r0
          clear r0 E
          go_wp2_with fail
          refine o.out _ _ ?_;rw [g0.out.trans (xA h0.out b1.out)];refine ⟨u,_,K0,DD.out,rfl,?_⟩;refine ag.aw.2 ⟨j,(ag.aq.2 ⟨rfl,ag.held.2 ⟨⟨f.out,r.out⟩,?_⟩⟩:ag _ (fact _*_)).to (ax _ _ _).symm⟩;have e:(Hd.l ⟨id.toNat,d,row⟩)=id :: (d.l++row):=by show ((id.toNat:Int) :: _)=_;rw [N4 (by omega)]
          rw [e];exact (HT.out.to (by ac_rfl:_=pt i (Y (d.l.map (E2 H)).toArray 73 (0,0))*(pt j (Y (ints (id :: (d.l++row))) 137 (0,0))*(aE x u j1*(ak u*F))))).right
         .have Y0:=ae n0
          clear n0 E
          go_wp2_with fail
          exact ⟨rfl,o.out _ _ (by rw [g0.out.trans (vG h0.out Y0.out)];exact ⟨u,K0,DD.out,rfl,HT.out.right.right⟩)⟩
        .have X0:=ae m0
         clear m0 hA E
         go_wp2_with fail
         exact ⟨rfl,o.out _ _ (by rw [g0.out.trans (vX X0.out)];exact ⟨u,K0,DD.out,rfl,HT.out.right.right⟩)⟩
       .have g0:=ae (C.out.trans (T0.out rfl))
        (with_reducible refine (fK _ 4 (by decide)).mono ?_)
        rintro e w9 ⟨rfl,rfl⟩
        go_wp2_with fail
        exact ⟨rfl,o.out _ _ (by rw [g0.out];exact ⟨u,K0,D8.out,rfl,a1.out.right.right⟩)⟩
     .have Hn:=ae hn
      clear hn hC
      go_wp2_with fail
      exact ⟨rfl,o.out _ _ (by rw [C.out.trans (e0.out Hn.out)];exact ⟨t,G,D1.out,rfl,W0.out.right.right.right⟩)⟩
   .have C:=ae (f0.out rfl)
    clear S0 f0
    (with_reducible refine (fK _ 4 (by decide)).mono ?_)
    rintro e w4 ⟨rfl,rfl⟩
    go_wp2_with fail
    exact ⟨rfl,o.out _ _ (by rw [C.out];exact ⟨t,G,k1.out,rfl,B.right⟩)⟩
 .have Hp:=ae (JM (ask:=x.c.ask) (st:=st) l0)
  have o:=ae hQ;have HL:=ae (show q (.panicked (I8 1)) w from hQ _ _ (by rw [Hp.out];exact ⟨c0,Ext.refl c0,aj.refl w,rfl,h⟩));clear hQ
  by_cases h1:1<=id
  .have h2:decide (id<(x.n:Int))=N:=decide_eq_false (by omega)
   clear l0
   go_enter func82,ntmps82
   go_wp2_with fail
   (with_reducible refine (gF w).mono ?_)
   rintro e S ⟨rfl,rfl⟩
   go_wp2_with fail
   exact ⟨rfl,HL.out⟩
  .have h2:id<1:=by omega
   clear l0
   go_enter func82,ntmps82
   go_wp2_with fail
   (with_reducible refine (gF w).mono ?_)
   rintro e S ⟨rfl,rfl⟩
   go_wp2_with fail
   exact ⟨rfl,HL.out⟩
end
end Go.Proofs.Fs
namespace Go.SL
open Go.RowKit
section
variable {σ:Type}
def MH (h:Hd):WM σ Unit:=fun st=>
 if h.n.rw=0 then (.ok (),st) else if h.row.all cZ=L then bL h.n.rw (jF h.row) st else (.bad 1,st)
def dQ (h:Hd):WM σ Unit:=fun st=>
 if h.n.ok=L then (WM.bind (bL (h.id:Int) (iH h.n)) fun _=>MH h) st else (.bad 1,st)
theorem Mn {h:Hd} {st:eB σ} (d:h.n.ok=N):dQ h st=(.bad 1,st):=if_neg (by rw [d];decide)
theorem Ie {h:Hd} {st aR:eB σ} {c:Int} (d:h.n.ok=L) (e:bL (h.id:Int) (iH h.n) st=(.bad c,aR)):dQ h st=(.bad c,aR):=(if_pos d).trans (WM.bf e)
theorem NA {h:Hd} {st aR:eB σ} (d:h.n.ok=L) (e:bL (h.id:Int) (iH h.n) st=(.ok (),aR)) (f:h.n.rw=0):dQ h st=(.ok (),aR):=(if_pos d).trans ((WM.aX e).trans (if_pos f))
theorem J9 {h:Hd} {st aR:eB σ} (d:h.n.ok=L) (e:bL (h.id:Int) (iH h.n) st=(.ok (),aR)) (f:h.n.rw≠0) (g:h.row.all cZ=N):dQ h st=(.bad 1,aR):=
 (if_pos d).trans ((WM.aX e).trans ((if_neg f).trans (if_neg (by rw [g];decide))))
theorem Kn {h:Hd} {st aR:eB σ} (d:h.n.ok=L) (e:bL (h.id:Int) (iH h.n) st=(.ok (),aR)) (f:h.n.rw≠0) (g:h.row.all cZ=L):dQ h st=bL h.n.rw (jF h.row) aR:=
 (if_pos d).trans ((WM.aX e).trans ((if_neg f).trans (if_pos g)))
end
end Go.SL
namespace Go.Proofs.Fs
open Go.RowKit Go.SL Go.Proofs.Ba
section
variable {σ α:Type}
theorem se {w:O} {d:Nat} {h:Hd} {F:ai} (f:h.fit) (hs:ag w (pt d (Y (ints h.l) 137 (0,0))*F)):w.rangeAt d 1 (h.n.l.map (E2 H)):=fun j v e=>by
 rw [hs.cell,dH,<- X3,K4];show (List.map (E2 H) ((h.id:Int) :: (h.n.l++h.row)))[j+1]?=U v
 rw [List.map_cons,J3,List.map_append,L3 (List.getElem?_eq_some_iff.1 e).1];exact e
theorem BD {w:O} {d:Nat} {h:Hd} {F:ai} (e:h.fit) (hs:ag w (pt d (Y (ints h.l) 137 (0,0))*F)):w.rangeAt d 21 (h.row.map (E2 H)):=fun j v f=>by
 rw [hs.cell,dH,<- X3,show 21+j=(20+j)+1 by omega];show (List.map (E2 H) ((h.id:Int) :: (h.n.l++h.row)))[20+j+1]?=U v
 rw [List.map_cons,J3,List.map_append,V3 (by rw [O2,Nd.cells e.1];omega),O2,Nd.cells e.1,Nat.add_sub_cancel_left];exact f
theorem qa {w:O} {d:Nat} {h:Hd} {F:ai} (e:h.fit) (hs:ag w (pt d (Y (ints h.l) 137 (0,0))*F)):w.cell? ⟨d,20,V⟩=U (Z H h.n.rw):=by
 have:=se e hs 19 (Z H h.n.rw) (by
  have:=Nd.Gm e.1
  rwa [dH,<- X3] at this)
 exact this
theorem zA {w:O} {d:Nat} {h:Hd} {F:ai} (hs:ag w (pt d (Y (ints h.l) 137 (0,0))*F)):w.cell? ⟨d,0,V⟩=U (Z H (h.id:Int)):=hs.cell 0
theorem Bz (x:Wk σ) (w:O) (S:Hp) (st:eB σ) (i:Nat) (h:Hd) (F:ai) (hs:ag w (aO i h*(aE x S st*(ak S*F)))) (m0:Ending->O->Prop)
  (hQ:∀ e w',WQ x ji S (aO i h*F) w (dQ h st) e w'->m0 e w') :
  Calls Q 84 #[X (U ⟨x.k,0,V⟩),X (U ⟨i,0,V⟩)] w m0:=by
 obtain ⟨g,h0⟩:=ag.held.1 hs;have t:=ae hQ;have Hf:=ae g;have z:=ae (se g h0);have r0:(prog.info? 73).map (·.size)=U (h.n.l.map (E2 H)).length:=by rw [O2,Nd.cells g.1];exact bC
 have k0:=ae r0;have o0:h.n.v = .agg (h.n.l.map (E2 H)).toArray:=rfl;have Hs:=ae hs
 cases q:h.n.ok with
 | false=>
  have f:=rF w h.n g.1 q;rw [o0] at f;have j:=ae (Mn (st:=st) q)
  go_enter func84,ntmps84
  go_wp2_with (refine wpList_load_mid (by exact rfl) 73 (.tmp 9) (by exact rfl) i 1 (by exact rfl) (h.n.l.map (E2 H)) _ (by with_reducible exact z.out) underlying73 rfl (by with_reducible exact k0.out) ?_)
  (refine f.mono ?_)
  rintro e w2 ⟨rfl,h2,E⟩;have v:=h2.dN Hs.out
  go_wp2_with fail
  (refine (fK _ 1 (by decide)).mono ?_)
  rintro e u ⟨rfl,rfl⟩
  go_wp2_with fail
  exact ⟨rfl,t.out _ _ (by rw [j.out];exact ⟨S,Ext.refl S,E,rfl,v.to (by ac_rfl)⟩)⟩
 | true=>
  have f:=mq w h.n g.1 q;have D0:=fun d c=>Ie (h:=h) (st:=st) (aR:=d) (c:=c) q;have F0:=fun d=>NA (h:=h) (st:=st) (aR:=d) q;have G0:=fun d=>J9 (h:=h) (st:=st) (aR:=d) q;have H0:=fun d=>Kn (h:=h) (st:=st) (aR:=d) q;rw [o0] at f;have p0:=ae D0;have b0:=ae F0;have d0:=ae G0;have e0:=ae H0
  go_enter func84,ntmps84
  go_wp2_with (refine wpList_load_mid (by exact rfl) 73 (.tmp 9) (by exact rfl) i 1 (by exact rfl) (h.n.l.map (E2 H)) _ (by with_reducible exact z.out) underlying73 rfl (by with_reducible exact k0.out) ?_)
  (refine f.mono ?_)
  rintro e w2 ⟨v2,rfl,h2,E⟩;have v:=h2.under Hs.out;have u0:=v.mZ;have H3:=v.right.to (by ac_rfl:_=aE x S st*(ak S*(aO i h*F)));have c0:=zA (ag.held.1 v.right).2;have r:=mg x w2 S st (h.id:Int) _ (iH h.n) _ H3 u0;obtain ⟨⟨g0,d⟩,o⟩:∃ p,bL (h.id:Int) (iH h.n) st=p:=⟨_,rfl⟩
  rw [o] at r
  go_wp2_with fail
  (refine (j7 _).mono ?_)
  rintro e u ⟨rfl,rfl⟩
  cases g0 with
  | bad c=>
   have j:=ae (p0.out _ _ o)
   go_wp2_with fail
   (refine r.mono ?_)
   rintro e u ⟨l,hS,d3,rfl,h3⟩
   go_wp2_with fail
   exact ⟨rfl,t.out _ _ (by rw [j.out];exact ⟨l,hS,E.trans d3,rfl,h3⟩)⟩
  | ok K0=>
   have b0:=ae (b0.out _ o);have d0:=ae (d0.out _ o);have e0:=ae (e0.out _ o)
   go_wp2_with fail
   (with_reducible refine r.mono ?_)
   rintro e u ⟨l,v3,hS,d3,rfl,h3⟩;obtain ⟨rfl,h4⟩:=ag.aq.1 h3;have h5:ag u (aO i h*(aE x l d*(ak l*F))):=h4.to (by ac_rfl);obtain ⟨g,h6⟩:=ag.held.1 h5;have q0:=qa g h6;have B:=ae (E.trans d3);have C:=ae hS
   by_cases A:h.n.rw=0
   .have j:=ae (b0.out A)
    have H4:=ae h4;rw [A] at q0
    go_wp2_with fail
    go_end0
    refine t.out _ _ ?_;rw [j.out];exact ⟨l,_,C.out,B.out,rfl,ag.aq.2 ⟨rfl,H4.out⟩⟩
   .have N0:(h.n.rw != 0)=L:=by simpa using A
    have z:=ae (BD g h6);have s0:(prog.info? 135).map (·.size)=U (h.row.map (E2 H)).length:=by rw [O2,g.2];exact jZ
    have l0:=ae s0;have n0:Value.agg (ints h.row) = .agg (h.row.map (E2 H)).toArray:=rfl;have H5:=ae h5
    cases P:h.row.all cZ with
    | false=>
     have j:=ae (d0.out A P);have f:=yB u h.row g.2 P;rw [n0] at f
     go_wp2_with (refine wpList_load_mid (by exact rfl) 135 (.tmp 32) (by exact rfl) i 21 (by exact rfl) (h.row.map (E2 H)) _ (by with_reducible exact z.out) underlying135 rfl (by with_reducible exact l0.out) ?_)
     (with_reducible refine f.mono ?_)
     rintro e w4 ⟨rfl,h7,G⟩;have y:=h7.dN H5.out
     go_wp2_with fail
     (with_reducible refine (fK _ 1 (by decide)).mono ?_)
     rintro e w5 ⟨rfl,rfl⟩
     go_wp2_with fail
     exact ⟨rfl,t.out _ _ (by rw [j.out];exact ⟨l,C.out,B.out.trans G,rfl,y.to (by ac_rfl)⟩)⟩
    | true=>
     have j:=ae (e0.out A P);have f:=wU u h.row g.2 P;rw [n0] at f
     go_wp2_with (refine wpList_load_mid (by exact rfl) 135 (.tmp 32) (by exact rfl) i 21 (by exact rfl) (h.row.map (E2 H)) _ (by with_reducible exact z.out) underlying135 rfl (by with_reducible exact l0.out) ?_)
     (with_reducible refine f.mono ?_)
     rintro e w4 ⟨v4,rfl,h7,G⟩;have y:=h7.under H5.out;have x0:=y.mZ;have L0:=qa Hf.out (ag.held.1 y.right).2;have r:=mg x w4 l d h.n.rw _ (jF h.row) _ (y.right.to (by ac_rfl:_=aE x l d*(ak l*(aO i h*F)))) x0;obtain ⟨⟨g0,R0⟩,o⟩:∃ p,bL h.n.rw (jF h.row) d=p:=⟨_,rfl⟩
     rw [o] at r;have i0:=ae (j.out.trans o)
     go_wp2_with fail
     (with_reducible refine (j7 _).mono ?_)
     rintro e w5 ⟨rfl,rfl⟩
     cases g0 with
     | bad c=>
      go_wp2_with fail
      (with_reducible refine r.mono ?_)
      rintro e w5 ⟨S2,f0,d5,rfl,h8⟩
      go_wp2_with fail
      exact ⟨rfl,t.out _ _ (by rw [i0.out];exact ⟨S2,C.out.trans f0,(B.out.trans G).trans d5,rfl,h8⟩)⟩
     | ok K0=>
      go_wp2_with fail
      (with_reducible refine r.mono ?_)
      rintro e w5 ⟨S2,v5,f0,d5,rfl,h8⟩;obtain ⟨rfl,h9⟩:=ag.aq.1 h8
      go_wp2_with fail
      go_end0
      refine t.out _ _ ?_;rw [i0.out];exact ⟨S2,_,C.out.trans f0,(B.out.trans G).trans d5,rfl,ag.aq.2 ⟨rfl,h9⟩⟩
end
end Go.Proofs.Fs
namespace Go.SL
open Go.RowKit
section
variable {σ α:Type}
def nu:WM σ Unit:=fun st=>if st.dt=L then bL 0 (st.bits.getD []) st else (.ok (),st)
def Tf (d:gD σ):Rs α × eB σ->Rs α × gD σ
 | (.ok a,st)=>(.ok a,st.b)
 | (.bad c,st)=>(.bad c,{ d with s:=st.b.s })
def dK (m:WM σ α) (d:gD σ):Rs α × gD σ:=Tf d ((WM.bind m fun a=>WM.bind nu fun _=>WM.pure a) ⟨d,V,N⟩)
theorem kZ {m:WM σ α} {d:gD σ} {st:eB σ} {c:Int} (h:m ⟨d,V,N⟩=(.bad c,st)):dK m d=(.bad c,{ d with s:=st.b.s }):=by
 unfold dK;rw [WM.bf h];rfl
theorem oB {m:WM σ α} {d:gD σ} {st:eB σ} {a:α} (h:m ⟨d,V,N⟩=(.ok a,st)) (f:st.dt=N):dK m d=(.ok a,st.b):=by
 have e:(WM.bind nu fun _=>WM.pure a) st=(.ok a,st):=WM.aX (if_neg (by rw [f];decide));unfold dK;rw [WM.aX h,e];rfl
theorem qo {m:WM σ α} {d:gD σ} {st st':eB σ} {a:α} (h:m ⟨d,V,N⟩=(.ok a,st)) (f:st.dt=L) (g:bL 0 (st.bits.getD []) st=(.ok (),st')):dK m d=(.ok a,st'.b):=by
 have e:(WM.bind nu fun _=>WM.pure a) st=(.ok a,st'):=WM.aX ((if_pos f).trans g);unfold dK;rw [WM.aX h,e];rfl
theorem tR {m:WM σ α} {d:gD σ} {st st':eB σ} {a:α} {c:Int} (h:m ⟨d,V,N⟩=(.ok a,st)) (f:st.dt=L) (g:bL 0 (st.bits.getD []) st=(.bad c,st')):dK m d=(.bad c,{ d with s:=st'.b.s }):=by
 have e:(WM.bind nu fun _=>WM.pure a) st=(.bad c,st'):=WM.bf ((if_pos f).trans g);unfold dK;rw [WM.aX h,e];rfl
end
end Go.SL
namespace Go.Proofs.Fs
open Go.RowKit Go.SL Go.Proofs.Ba
variable {e v:M} {S:Hp}
theorem jB (v:M) (w:O):(Instr.typeAssert (.iface 219 v) 20 219 L).run Q w = .ok (I #[v,J L]) w:=by
 simp [Instr.typeAssert,run_underlying underlying219,go_sem,Result.andThen]
section
variable {σ α:Type}
theorem KI (w:O) (g i:Addr) :
    CallsD Q 155 #[X (U g),X (U i)] .returning w fun e u j=>e = K (I #[])/\u = .returning/\w=j:=by
  refine callsD_of_wpS func155 rfl fun d l f=>?_;apply wpS_seq;refine wpS_of_wp ?_
  simp only [ntmps155,P2,M2,R2,T2,V2,W2,
     X2,Y2,Z2,B3,G3]
  go_wp2
  apply wpS_seq;apply wpS_region;simp [wpOpsS,go_sem,recoverD,f,Exit.thenS];refine wpS_of_wp ?_
  go_wp2
  cases d
  simp_all [bodyPostS,results,Tryz.results155]
theorem JZ (w:O) (d f:Addr) (c x y:Int) (g:List PanicEntry) (t:w.cell? d=U (Z H x)) (v:w.cell? f=U (Z H y)) (q:w.frozen? d=N) (r:w.frozen? f=N) (z:d≠f) :
    CallsD Q 155 #[X (U d),X (U f)] (.panicking ({ v:=.iface 219 (Z H c),recovered:=N } :: g)) w fun e u j=>
      e = K (I #[])/\u = .panicking ({ v:=.iface 219 (Z H c),recovered:=L } :: g)/\j=(w.setCell d (Z H 0)).setCell f (Z H c):=by
  refine callsD_of_wpS func155 rfl fun o l i=>?_;apply wpS_seq;refine wpS_of_wp ?_
  simp only [ntmps155,P2,M2,R2,T2,V2,W2,
     X2,Y2,Z2,B3,G3]
  go_wp2
  apply wpS_seq;apply wpS_region;simp [wpOpsS,go_sem,recoverD,i,Exit.thenS];refine wpS_of_wp ?_;have A:=jB (Z H c)
  go_wp2
  exact ⟨rfl,_,rfl,_,results_none rfl _ _ _,rfl,rfl,rfl⟩
def AX (c:Cx σ) (i:Nat) (zero:M) (j:α->M->ai) (S:Hp) (F:ai) (w:O):Rs α × gD σ->Ending->O->Prop
 | (.ok a,g),e,f=>∃ d v,Ext S d/\aj w f/\e = K (I #[v,Z H 0])/\ag f (j a v*(cE c d i g*(ak d*F)))
 | (.bad n,g),e,f=>∃ d,Ext S d/\aj w f/\e = K (I #[zero,Z H n])/\ag f (cE c d i g*(ak d*F))
def Cn (c:Cx σ) (n:Nat) (f:FuncId) (e:Array M) (d:α->M->ai) (G:ai) (m:WM σ α):Prop:=
 ∀ (x:Wk σ) (w:O) (S:Hp) (st:eB σ) (F:ai),x.c=c->x.n=n->ag w (aE x S st*(ak S*(G*F)))->Calls Q f (#[X (U ⟨x.k,0,V⟩)]++e) w (WQ x d S (G*F) w (m st))
def fJ (d n:Nat):M:=.agg #[X (U ⟨d,0,V⟩),Z H (n:Int)]
theorem ri {w:O} {d:Array M} {a b:Nat} (f:d[4]?=U (ay a)) (g:d[5]?=U (ay b)) (i:w.cell? ⟨a,0,V⟩=U v) (j:w.cell? ⟨b,0,V⟩=U e) :
  (results Tryz.f93 d).run Q w = .ok (I #[v,e]) w:=by
 simp [results,Tryz.results93,f,g,go_sem,i,j]
theorem ub {w:O} {x:Wk σ} {st:eB σ} {F:ai} (h:ag w (aE x S st*F)):ag w (x.c.RI st.b.s*F):=by
 obtain ⟨v,d⟩:=ag.ft h;have e:ag w ((pt x.k (Y (x.cells v st.dt) 149 (0,0))*(aA 176 5 S x.b x.c.rd st.b.err st.b.W st.b.D*cu st.bits v))*(x.c.RI st.b.s*F)):=d.to (by unfold bD cE;ac_rfl);exact e.right
theorem ns {w:O} {c:Cx σ} {S e:Hp} {f:Nat} {d:gD σ} {s:σ} {F:ai} (g:Ext S e) (h:ag w (c.RI s*(aA 176 5 S f c.rd d.err d.W d.D*F))):ag w (cE c e f { d with s:=s }*F):=
 ((h.ah).fw (dG g)).to (by unfold cE;ac_rfl)
theorem tT {w:O} {c:Cx σ} {n k f:Nat} {d:gD σ} {F:ai} (h:ag w (pt k (Y #[X (U ⟨f,0,V⟩),Z H (n:Int),R V 0 0,J N] 149 (0,0))*(aA 176 5 S f c.rd d.err d.W d.D*(c.RI d.s*F)))) :
  ag w (aE (⟨c,n,k,f⟩:Wk σ) S ⟨d,V,N⟩*F):=
 ag.im (R V 0 0) ((ag.ED h).to (by unfold bD cE Wk.cells;ac_rfl))
theorem xW {w:O} {i:Array M} {d f:Nat} {y z c:Int} {P:ai} {l:Ending->O->Prop} (o:i[4]?=U (ay d)) (q:i[5]?=U (ay f))
  (h:ag w (pt d (Y #[Z H y] 3 (0,0))*(pt f (Y #[Z H z] 28 (0,0))*P))) (hR:∀ j,ag j P->aj w j->l (K (I #[Z H 0,Z H c])) j) :
  bodyPostD Q Tryz.f93 l (Exit.panic (I8 c)) { tmps:=i,defers:=[{ target:=.fn (.func 155) #[X (U ⟨d,0,V⟩),X (U ⟨f,0,V⟩)],args:=#[] }] } w:=by
 have r:=ag.ne h;refine leaves_cons (f:=155) (args:=#[X (U ⟨d,0,V⟩),X (U ⟨f,0,V⟩)]) (by simp) (by simp [go_sem]) ?_;refine (JZ w ⟨d,0,V⟩ ⟨f,0,V⟩ c y z [] (h.cell 0) (h.ah.cell 0) (h.frozen 0) (h.ah.frozen 0) (by intro h;injection h with h;exact r h)).mono ?_;rintro e u t ⟨rfl,rfl,rfl⟩;have g:=((h.setCell 0 (Z H 0)).ah.setCell 0 (Z H c))
 exact ⟨_,ri o q (g.ah.cell 0) (g.cell 0),hR _ g.right.right (((aj.refl w).setCell _ _).setCell _ _)⟩
theorem xI {w:O} {g:Array M} {d f:Nat} {i:Ending->O->Prop} (j:g[4]?=U (ay d)) (l:g[5]?=U (ay f))
  (o:w.cell? ⟨d,0,V⟩=U v) (q:w.cell? ⟨f,0,V⟩=U e) (hR:i (K (I #[v,e])) w) :
  bodyPostD Q Tryz.f93 i Exit.ret { tmps:=g,defers:=[{ target:=.fn (.func 155) #[X (U ⟨d,0,V⟩),X (U ⟨f,0,V⟩)],args:=#[] }] } w:=by
 refine leaves_cons (f:=155) (args:=#[X (U ⟨d,0,V⟩),X (U ⟨f,0,V⟩)]) (by simp) (by simp [go_sem]) ?_;refine (KI w ⟨d,0,V⟩ ⟨f,0,V⟩).mono ?_;rintro r u t ⟨rfl,rfl,rfl⟩;exact ⟨_,ri j l o q,hR⟩
theorem zw {w:O} {o:Option (List UInt8)} {F:ai} (h:ag w (cu o v*F)):Rd w v (o.getD []):=by
 rcases ag.oG h with ⟨rfl,rfl,_⟩|⟨l,rfl,_,d⟩
 .exact ⟨rfl,.inl ⟨rfl,rfl⟩⟩
 .exact d.mZ
theorem A2 (c:Cx σ) (hc:c.Ok) (n:Nat) (d1:4<=n) (f1:n<=3840) (jf:FuncId) (L0:Array M) (G:ai) (m:WM σ Nat)
  (mS:∀ (args:Array M) (w:O),(callFunc jf args).run Q w = .ok (.enter jf args) w) (hj:Cn c n jf L0 CC G m)
  (g:Nat) (d:gD σ) (w:O) (c0:Hp) (F:ai) (h:ag w (cE c c0 g d*(ak c0*(G*F)))) (K0:Ending->O->Prop)
  (hQ:∀ e A,AX c g (Z H 0) CC c0 (G*F) w (dK m d) e A->K0 e A) :
  Calls Q 93 #[fJ g n,.func (.func jf) #[] L0] w K0:=by
 have HQ:=ae hQ;clear hQ;have e1:¬ ((n:Int)<4):=by omega
 have g1:¬ ((n:Int) > 3840):=by omega
 have Hj:=ae hj;unfold fJ
 go_enter_defers func93,ntmps93
 have H3:=((h.alloc (Y #[X (U ⟨g,0,V⟩),Z H (n:Int)] 83 (0,0))).alloc (Y #[Z H 0] 3 (0,0))).alloc (Y #[Z H 0] 28 (0,0));have D3:=(((aj.refl w).alloc (Y #[X (U ⟨g,0,V⟩),Z H (n:Int)] 83 (0,0))).alloc (Y #[Z H 0] 3 (0,0))).alloc (Y #[Z H 0] 28 (0,0));simp only [K3] at H3
 go_wp2_with fail
 generalize ((w.alloc (Y #[X (U ⟨g,0,V⟩),Z H (n:Int)] 83 (0,0))).alloc (Y #[Z H 0] 3 (0,0))).alloc (Y #[Z H 0] 28 (0,0))=w3 at H3 D3 ⊢;clear h;generalize w.heap.size+1+1=o at *;generalize w.heap.size+1=j at *;generalize w.heap.size=v at *;have s0:=H3.au.cell 0;have s1:=H3.au.cell 1;have q:ag w3 (aA 176 5 c0 g c.rd d.err d.W d.D*(ak c0*(c.RI d.s*(pt o (Y #[Z H 0] 28 (0,0))*(pt j (Y #[Z H 0] 3 (0,0))*(pt v (Y #[X (U ⟨g,0,V⟩),Z H (n:Int)] 83 (0,0))*(G*F))))))):=H3.to (by unfold cE;ac_rfl);have V0:=nI w3.drew c0 g c.rd d.err d.W d.D _ q.drew ⟨_,_,rfl⟩;have Z0:=ae V0;clear V0
 go_region_held3 (fun A=>A.cell? ⟨v,0,V⟩=U (X (U ⟨g,0,V⟩))/\A.cell? ⟨v,1,V⟩=U (Z H (n:Int)))
  (first|exact ⟨s0,s1⟩|exact l0|go_keep)
  (first|(go_at_call 135;refine (Z0.out).mono ?_;rintro e w4 ⟨z,f,q0,rfl,h4,d4⟩;have l0:w4.cell? ⟨v,0,V⟩=U (X (U ⟨g,0,V⟩))/\w4.cell? ⟨v,1,V⟩=U (Z H (n:Int)):=⟨h4.bV.cell 0,h4.bV.cell 1⟩))
 have D5:=(D3.drew.trans d4).alloc (Y #[X (U ⟨f,0,V⟩),Z H (n:Int),R V 0 0,J N] 149 (0,0));have H5:=h4.alloc (Y #[X (U ⟨f,0,V⟩),Z H (n:Int),R V 0 0,J N] 149 (0,0))
 have X0:ag (w4.alloc (Y #[X (U ⟨f,0,V⟩),Z H (n:Int),R V 0 0,J N] 149 (0,0))) (aE (⟨c,n,w4.heap.size,f⟩:Wk σ) z ⟨d,V,N⟩*(ak z*(G*(aA 176 5 z g c.rd d.err d.W d.D*(pt o (Y #[Z H 0] 28 (0,0))*(pt j (Y #[Z H 0] 3 (0,0))*(pt v (Y #[X (U ⟨g,0,V⟩),Z H (n:Int)] 83 (0,0))*F))))))):=
  tT (H5.to (by ac_rfl))
 have r0:=Hj.out ⟨c,n,w4.heap.size,f⟩ _ z ⟨d,V,N⟩ _ rfl rfl X0;rename_i R0;generalize w4.heap.size=k at *;obtain ⟨⟨x0,i⟩,hp⟩:∃ p,m ⟨d,V,N⟩=p:=⟨_,rfl⟩
 rw [hp] at r0
 cases x0 with
 | bad cN=>
  have HE:=ae (kZ hp);clear hp
  go_wp2_with fail
  (with_reducible refine r0.mono ?_)
  rintro e w6 ⟨y,b0,d6,rfl,h6⟩;have h7:=ub h6
  have B:ag w6 (c.RI i.b.s*(aA 176 5 z g c.rd d.err d.W d.D*(pt o (Y #[Z H 0] 28 (0,0))*(pt j (Y #[Z H 0] 3 (0,0))*(ak y*(G*F)))))):=
   (h7.to (by ac_rfl:_=pt v (Y #[X (U ⟨g,0,V⟩),Z H (n:Int)] 83 (0,0))*(c.RI i.b.s*(aA 176 5 z g c.rd d.err d.W d.D*(pt o (Y #[Z H 0] 28 (0,0))*(pt j (Y #[Z H 0] 3 (0,0))*(ak y*(G*F)))))))).right
  have q:=ns b0 B;have u:ag w6 (pt j (Y #[Z H 0] 3 (0,0))*(pt o (Y #[Z H 0] 28 (0,0))*(cE c y g { d with s:=i.b.s }*(ak y*(G*F))))):=q.to (by ac_rfl)
  go_wp2_with fail
  exact xW rfl rfl u fun A d0 D0=>HQ.out _ _ (by rw [HE.out];exact ⟨y,q0.trans b0,(D5.trans d6).trans D0,rfl,d0⟩)
 | ok a=>
  go_wp2_with fail
  (with_reducible refine r0.mono ?_)
  rintro e w6 ⟨y,v6,b0,d6,rfl,h6⟩;obtain ⟨rfl,h7⟩:=ag.aq.1 h6;obtain ⟨C,B⟩:=ag.ft h7;clear r0 h6 h7;have q:ag w6 (pt j (Y #[Z H 0] 3 (0,0))*(pt o (Y #[Z H 0] 28 (0,0))*(pt v (Y #[X (U ⟨g,0,V⟩),Z H (n:Int)] 83 (0,0))*(pt k (Y #[X (U ⟨f,0,V⟩),Z H (n:Int),C,J i.dt] 149 (0,0))*(cE c y f i.b*(cu i.bits C*(ak y*(aA 176 5 z g c.rd d.err d.W d.D*(G*F))))))))):=B.to (by unfold bD Wk.cells;ac_rfl);have c9:w6.cell? ⟨j,0,V⟩=U (Z H 0):=q.cell 0;have f9:w6.frozen? ⟨j,0,V⟩=N:=q.frozen 0;have u:=q.setCell 0 (Z H (a:Int));have m0:=(D5.trans d6).setCell ⟨j,0,V⟩ (Z H (a:Int));have k3:=u.aC.cell 3;clear B q D5 d6
  cases E:i.dt with
  | false=>
   have HE:=ae (oB hp E);rw [E] at k3 u;clear hp E
   go_wp2_with fail
   generalize w6.setCell ⟨j,0,V⟩ (Z H (a:Int))=w7 at *;have i0:ag w7 (aA 176 5 z g c.rd d.err d.W d.D*(aA 176 5 y f c.rd i.b.err i.b.W i.b.D*(ak y*(c.RI i.b.s*(pt j (Y #[Z H (a:Int)] 3 (0,0))*(pt o (Y #[Z H 0] 28 (0,0))*(pt v (Y #[X (U ⟨g,0,V⟩),Z H (n:Int)] 83 (0,0))*(pt k (Y #[X (U ⟨f,0,V⟩),Z H (n:Int),C,J N] 149 (0,0))*(cu i.bits C*(G*F)))))))))):=u.to (by unfold cE;ac_rfl);have P:=i0.fw (dG b0);have s0:=P.bV.cell 0;have k0:=P.et.cell 0;have F0:=ae (iv w7.drew y g f c.rd c.rd i.b.err d.err i.b.W i.b.D d.W d.D _ P.drew ⟨_,_,rfl⟩);clear i0 P u
   go_region_held3 (fun A=>A.cell? ⟨v,0,V⟩=U (X (U ⟨g,0,V⟩))/\A.cell? ⟨k,0,V⟩=U (X (U ⟨f,0,V⟩)))
    (first|exact ⟨s0,k0⟩|exact l0|go_keep)
    (first|(go_at_call 138;refine (F0.out).mono ?_;rintro e x ⟨t,e0,rfl,B,S⟩;have l0:x.cell? ⟨v,0,V⟩=U (X (U ⟨g,0,V⟩))/\x.cell? ⟨k,0,V⟩=U (X (U ⟨f,0,V⟩)):=⟨B.bV.cell 0,B.et.cell 0⟩))
   all_goals
    rename_i R0;have q:ag x (pt j (Y #[Z H (a:Int)] 3 (0,0))*(pt o (Y #[Z H 0] 28 (0,0))*((cE c t g i.b*(ak t*(G*F)))*(pt v (Y #[X (U ⟨g,0,V⟩),Z H (n:Int)] 83 (0,0))*(pt k (Y #[X (U ⟨f,0,V⟩),Z H (n:Int),C,J N] 149 (0,0))*(aA 176 5 t f c.rd i.b.err i.b.W i.b.D*cu i.bits C)))))):=B.to (by unfold cE;ac_rfl);have c9:=q.cell 0;have f9:x.frozen? ⟨j,0,V⟩=N:=q.frozen 0;have e9:x.cell? ⟨o,0,V⟩=U (Z H 0):=q.ah.cell 0;have g9:x.frozen? ⟨o,0,V⟩=N:=q.ah.frozen 0;have G0:¬ (j=o):=ag.ne q;have c1:¬ (o=j):=fun h=>G0 h.symm;have u:=((q.setCell 0 (Z H (a:Int))).ah.setCell 0 (Z H 0))
    have ca:=u.ah.cell 0;have ce:=u.cell 0;have D9:=(((m0).drew.trans S).setCell ⟨j,0,V⟩ (Z H (a:Int))).setCell ⟨o,0,V⟩ (Z H 0);have hF:ag _ ((cE c t g i.b*(ak t*(G*F)))):=u.right.right.left;have HD:=ae D9;have HF:=ae hF;have Ca:=ae ca;have Ce:=ae ce
    go_wp2_with fail
    exact xI rfl rfl Ca.out Ce.out (HQ.out _ _ (by rw [HE.out];exact ⟨t,_,q0.trans (b0.trans e0),HD.out,rfl,ag.aq.2 ⟨rfl,HF.out.to (by ac_rfl)⟩⟩))
  | true=>
   have g0:=fun st'=>qo (st':=st') hp E;have h0:=fun st' c=>tR (st':=st') (c:=c) hp E;have g0:=ae g0;have h0:=ae h0;rw [E] at k3 u;have k2:=u.aC.cell 2;have H0:=zw u.dI
   have d0:ag (w6.setCell ⟨j,0,V⟩ (Z H (a:Int))) (bD (⟨c,n,k,f⟩:Wk σ) C y i*(ak y*(pt j (Y #[Z H (a:Int)] 3 (0,0))*(pt o (Y #[Z H 0] 28 (0,0))*(pt v (Y #[X (U ⟨g,0,V⟩),Z H (n:Int)] 83 (0,0))*(cu i.bits C*(aA 176 5 z g c.rd d.err d.W d.D*(G*F)))))))):=
    u.to (by unfold bD Wk.cells;rw [E];ac_rfl)
   have u0:=jS (⟨c,n,k,f⟩:Wk σ) _ C y i 0 C (i.bits.getD []) _ d0 H0
   obtain ⟨va,vl,vc,rfl⟩:∃ a l c,C = R a l c:=by
    obtain ⟨a,c,e⟩:=H0.shape;exact ⟨_,_,_,e⟩
   have S0:∀ st' x0,bL 0 (i.bits.getD []) i=(x0,st')->st'.dt=L:=fun st' x0 h=>by
    unfold bL at h
    split at h
    .simp only [Prod.mk.injEq] at h;rw [<- h.2];exact E
    .simp only [Prod.mk.injEq] at h;rw [<- h.2];exact E
   obtain ⟨⟨r2,r⟩,f0⟩:∃ p,bL 0 (i.bits.getD []) i=p:=⟨_,rfl⟩
   rw [f0] at u0;have T0:=S0 _ _ f0;have Y0:=ae T0;clear hp E d0 H0 S0 T0
   cases r2 with
   | bad cN=>
    have HE:=ae (h0.out _ _ f0);clear f0 g0 h0
    go_wp2_with fail
    (with_reducible refine u0.mono ?_)
    rintro e x ⟨t,e0,S,rfl,n0⟩
    have o0:ag x (c.RI r.b.s*(aA 176 5 z g c.rd d.err d.W d.D*(pt j (Y #[Z H (a:Int)] 3 (0,0))*(pt o (Y #[Z H 0] 28 (0,0))*(ak t*(G*F)))))):=
     (n0.to (by unfold bD cE;ac_rfl:_=(pt k (Y ((⟨c,n,k,f⟩:Wk σ).cells (R va vl vc) r.dt) 149 (0,0))*(aA 176 5 t f c.rd r.b.err r.b.W r.b.D*(pt v (Y #[X (U ⟨g,0,V⟩),Z H (n:Int)] 83 (0,0))*cu i.bits (R va vl vc))))*(c.RI r.b.s*(aA 176 5 z g c.rd d.err d.W d.D*(pt j (Y #[Z H (a:Int)] 3 (0,0))*(pt o (Y #[Z H 0] 28 (0,0))*(ak t*(G*F)))))))).right
    have p0:=ns (b0.trans e0) o0;have a1:ag x (pt j (Y #[Z H (a:Int)] 3 (0,0))*(pt o (Y #[Z H 0] 28 (0,0))*(cE c t g { d with s:=r.b.s }*(ak t*(G*F))))):=p0.to (by ac_rfl)
    go_wp2_with fail
    exact xW rfl rfl a1 fun A d0 D0=>HQ.out _ _ (by rw [HE.out];exact ⟨t,q0.trans (b0.trans e0),(m0.trans S).trans D0,rfl,d0⟩)
   | ok h1=>
    have HE:=ae (g0.out _ f0);clear f0 g0 h0
    go_wp2_with fail
    (with_reducible refine u0.mono ?_)
    rintro e w7 ⟨t,v8,e0,S,rfl,n0⟩;obtain ⟨rfl,o0⟩:=ag.aq.1 n0;have p0:ag w7 (pt j (Y #[Z H (a:Int)] 3 (0,0))*(pt o (Y #[Z H 0] 28 (0,0))*(pt v (Y #[X (U ⟨g,0,V⟩),Z H (n:Int)] 83 (0,0))*(pt k (Y #[X (U ⟨f,0,V⟩),Z H (n:Int),(R va vl vc),J L] 149 (0,0))*(cE c t f r.b*(cu i.bits (R va vl vc)*(ak t*(aA 176 5 z g c.rd d.err d.W d.D*(G*F))))))))):=o0.to (by unfold bD Wk.cells;rw [Y0.out];ac_rfl);have W0:=m0.trans S;have N0:=b0.trans e0;clear u0 n0 o0 m0 S u k2 k3
    go_wp2_with fail
    have i0:ag w7 (aA 176 5 z g c.rd d.err d.W d.D*(aA 176 5 t f c.rd r.b.err r.b.W r.b.D*(ak t*(c.RI r.b.s*(pt j (Y #[Z H (a:Int)] 3 (0,0))*(pt o (Y #[Z H 0] 28 (0,0))*(pt v (Y #[X (U ⟨g,0,V⟩),Z H (n:Int)] 83 (0,0))*(pt k (Y #[X (U ⟨f,0,V⟩),Z H (n:Int),(R va vl vc),J L] 149 (0,0))*(cu i.bits (R va vl vc)*(G*F)))))))))):=p0.to (by unfold cE;ac_rfl);have P:=i0.fw (dG N0);have s0:=P.bV.cell 0;have k0:=P.et.cell 0;have F0:=ae (iv w7.drew t g f c.rd c.rd r.b.err d.err r.b.W r.b.D d.W d.D _ P.drew ⟨_,_,rfl⟩);clear i0 P p0
    go_region_held3 (fun A=>A.cell? ⟨v,0,V⟩=U (X (U ⟨g,0,V⟩))/\A.cell? ⟨k,0,V⟩=U (X (U ⟨f,0,V⟩)))
     (first|exact ⟨s0,k0⟩|exact l0|go_keep)
     (first|(go_at_call 138;refine (F0.out).mono ?_;rintro e x ⟨S5,b1,rfl,B,S⟩;have l0:x.cell? ⟨v,0,V⟩=U (X (U ⟨g,0,V⟩))/\x.cell? ⟨k,0,V⟩=U (X (U ⟨f,0,V⟩)):=⟨B.bV.cell 0,B.et.cell 0⟩))
    all_goals
     rename_i R0;have q:ag x (pt j (Y #[Z H (a:Int)] 3 (0,0))*(pt o (Y #[Z H 0] 28 (0,0))*((cE c S5 g r.b*(ak S5*(G*F)))*(pt v (Y #[X (U ⟨g,0,V⟩),Z H (n:Int)] 83 (0,0))*(pt k (Y #[X (U ⟨f,0,V⟩),Z H (n:Int),(R va vl vc),J L] 149 (0,0))*(aA 176 5 S5 f c.rd r.b.err r.b.W r.b.D*cu i.bits (R va vl vc))))))):=B.to (by unfold cE;ac_rfl);have c9:x.cell? ⟨j,0,V⟩=U (Z H (a:Int)):=q.cell 0;have f9:x.frozen? ⟨j,0,V⟩=N:=q.frozen 0;have e9:x.cell? ⟨o,0,V⟩=U (Z H 0):=q.ah.cell 0;have g9:x.frozen? ⟨o,0,V⟩=N:=q.ah.frozen 0;have G0:¬ (j=o):=ag.ne q;have c1:¬ (o=j):=fun h=>G0 h.symm;have u:=((q.setCell 0 (Z H (a:Int))).ah.setCell 0 (Z H 0))
     have ca:=u.ah.cell 0;have ce:=u.cell 0;have D9:=(((W0).drew.trans S).setCell ⟨j,0,V⟩ (Z H (a:Int))).setCell ⟨o,0,V⟩ (Z H 0);have hF:ag _ ((cE c S5 g r.b*(ak S5*(G*F)))):=u.right.right.left;have HD:=ae D9;have HF:=ae hF;have Ca:=ae ca;have Ce:=ae ce
     go_wp2_with fail
     exact xI rfl rfl Ca.out Ce.out (HQ.out _ _ (by rw [HE.out];exact ⟨S5,_,q0.trans (N0.trans b1),HD.out,rfl,ag.aq.2 ⟨rfl,HF.out.to (by ac_rfl)⟩⟩))
end
section
variable {σ α:Type}
theorem Mr (w:O) (g i:Addr) :
    CallsD Q 209 #[X (U g),X (U i)] .returning w fun e u j=>e = K (I #[])/\u = .returning/\w=j:=by
  refine callsD_of_wpS func209 rfl fun d l f=>?_;apply wpS_seq;refine wpS_of_wp ?_
  simp only [ntmps209,P2,M2,R2,T2,V2,W2,
     X2,Y2,Z2,B3,G3]
  go_wp2
  apply wpS_seq;apply wpS_region;simp [wpOpsS,go_sem,recoverD,f,Exit.thenS];refine wpS_of_wp ?_
  go_wp2
  cases d
  simp_all [bodyPostS,results,Tryz.results209]
theorem MB (w:O) (d f:Addr) (c y:Int) (x:M) (g:List PanicEntry) (t:w.cell? d=U x) (B:x = R V 0 0\/∃ a n c,x = R a n c) (v:w.cell? f=U (Z H y)) (q:w.frozen? d=N) (r:w.frozen? f=N) (z:d≠f) :
    CallsD Q 209 #[X (U d),X (U f)] (.panicking ({ v:=.iface 219 (Z H c),recovered:=N } :: g)) w fun e u j=>
      e = K (I #[])/\u = .panicking ({ v:=.iface 219 (Z H c),recovered:=L } :: g)/\j=(w.setCell d (R V 0 0)).setCell f (Z H c):=by
  refine callsD_of_wpS func209 rfl fun o l i=>?_;apply wpS_seq;refine wpS_of_wp ?_
  simp only [ntmps209,P2,M2,R2,T2,V2,W2,
     X2,Y2,Z2,B3,G3]
  go_wp2
  apply wpS_seq;apply wpS_region;simp [wpOpsS,go_sem,recoverD,i,Exit.thenS];refine wpS_of_wp ?_;have A:=jB (Z H c)
  go_wp2
  exact ⟨rfl,_,rfl,_,results_none rfl _ _ _,rfl,rfl,rfl⟩
theorem rn {w:O} {d:Array M} {a b:Nat} (f:d[4]?=U (ay a)) (g:d[5]?=U (ay b)) (i:w.cell? ⟨a,0,V⟩=U v) (j:w.cell? ⟨b,0,V⟩=U e) :
  (results Tryz.f153 d).run Q w = .ok (I #[v,e]) w:=by
 simp [results,Tryz.results153,f,g,go_sem,i,j]
theorem yi {w:O} {i:Array M} {d f:Nat} {z c:Int} {P:ai} {l:Ending->O->Prop} (o:i[4]?=U (ay d)) (q:i[5]?=U (ay f))
  (h:ag w (pt d (Y #[v] 37 (0,0))*(pt f (Y #[Z H z] 28 (0,0))*P))) (t:v = R V 0 0\/∃ a n c,v = R a n c) (hR:∀ j,ag j P->aj w j->l (K (I #[R V 0 0,Z H c])) j) :
  bodyPostD Q Tryz.f153 l (Exit.panic (I8 c)) { tmps:=i,defers:=[{ target:=.fn (.func 209) #[X (U ⟨d,0,V⟩),X (U ⟨f,0,V⟩)],args:=#[] }] } w:=by
 have r:=ag.ne h;refine leaves_cons (f:=209) (args:=#[X (U ⟨d,0,V⟩),X (U ⟨f,0,V⟩)]) (by simp) (by simp [go_sem]) ?_;refine (MB w ⟨d,0,V⟩ ⟨f,0,V⟩ c z v [] (h.cell 0) t (h.ah.cell 0) (h.frozen 0) (h.ah.frozen 0) (by intro h;injection h with h;exact r h)).mono ?_;rintro e u x ⟨rfl,rfl,rfl⟩;have g:=((h.setCell 0 (R V 0 0)).ah.setCell 0 (Z H c))
 exact ⟨_,rn o q (g.ah.cell 0) (g.cell 0),hR _ g.right.right (((aj.refl w).setCell _ _).setCell _ _)⟩
theorem xn {w:O} {g:Array M} {d f:Nat} {i:Ending->O->Prop} (j:g[4]?=U (ay d)) (l:g[5]?=U (ay f))
  (o:w.cell? ⟨d,0,V⟩=U v) (q:w.cell? ⟨f,0,V⟩=U e) (hR:i (K (I #[v,e])) w) :
  bodyPostD Q Tryz.f153 i Exit.ret { tmps:=g,defers:=[{ target:=.fn (.func 209) #[X (U ⟨d,0,V⟩),X (U ⟨f,0,V⟩)],args:=#[] }] } w:=by
 refine leaves_cons (f:=209) (args:=#[X (U ⟨d,0,V⟩),X (U ⟨f,0,V⟩)]) (by simp) (by simp [go_sem]) ?_;refine (Mr w ⟨d,0,V⟩ ⟨f,0,V⟩).mono ?_;rintro r u t ⟨rfl,rfl,rfl⟩;exact ⟨_,rn j l o q,hR⟩
theorem ur (c:Cx σ) (hc:c.Ok) (n:Nat) (f1:4<=n) (h1:n<=3840) (jf:FuncId) (V0:Array M) (G:ai) (m:WM σ (List UInt8))
  (mS:∀ (args:Array M) (w:O),(callFunc jf args).run Q w = .ok (.enter jf args) w) (hj:Cn c n jf V0 fX G m)
  (g:Nat) (d:gD σ) (w:O) (e0:Hp) (F:ai) (h:ag w (cE c e0 g d*(ak e0*(G*F)))) (T0:Ending->O->Prop)
  (hQ:∀ e E,AX c g (R V 0 0) fX e0 (G*F) w (dK m d) e E->T0 e E) :
  Calls Q 153 #[fJ g n,.func (.func jf) #[] V0] w T0:=by
 have HQ:=ae hQ;clear hQ;have g1:¬ ((n:Int)<4):=by omega
 have i1:¬ ((n:Int) > 3840):=by omega
 have Hj:=ae hj;unfold fJ
 go_enter_defers func153,ntmps153
 have H3:=((h.alloc (Y #[X (U ⟨g,0,V⟩),Z H (n:Int)] 83 (0,0))).alloc (Y #[R V 0 0] 37 (0,0))).alloc (Y #[Z H 0] 28 (0,0));have D3:=(((aj.refl w).alloc (Y #[X (U ⟨g,0,V⟩),Z H (n:Int)] 83 (0,0))).alloc (Y #[R V 0 0] 37 (0,0))).alloc (Y #[Z H 0] 28 (0,0));simp only [K3] at H3
 go_wp2_with fail
 generalize ((w.alloc (Y #[X (U ⟨g,0,V⟩),Z H (n:Int)] 83 (0,0))).alloc (Y #[R V 0 0] 37 (0,0))).alloc (Y #[Z H 0] 28 (0,0))=w3 at H3 D3 ⊢;clear h;generalize w.heap.size+1+1=t at *;generalize w.heap.size+1=o at *;generalize w.heap.size=v at *;have s0:=H3.au.cell 0;have s1:w3.cell? ⟨v,1,V⟩=U (Z H (n:Int)):=H3.au.cell 1;have u:ag w3 (aA 176 5 e0 g c.rd d.err d.W d.D*(ak e0*(c.RI d.s*(pt t (Y #[Z H 0] 28 (0,0))*(pt o (Y #[R V 0 0] 37 (0,0))*(pt v (Y #[X (U ⟨g,0,V⟩),Z H (n:Int)] 83 (0,0))*(G*F))))))):=H3.to (by unfold cE;ac_rfl);have Z0:=nI w3.drew e0 g c.rd d.err d.W d.D _ u.drew ⟨_,_,rfl⟩;have S0:=ae Z0;clear Z0
 go_region_held3 (fun E=>E.cell? ⟨v,0,V⟩=U (X (U ⟨g,0,V⟩))/\E.cell? ⟨v,1,V⟩=U (Z H (n:Int)))
  (first|exact ⟨s0,s1⟩|exact i0|go_keep)
  (first|(go_at_call 135;refine (S0.out).mono ?_;rintro e w4 ⟨C,f,u0,rfl,h4,d4⟩;have i0:w4.cell? ⟨v,0,V⟩=U (X (U ⟨g,0,V⟩))/\w4.cell? ⟨v,1,V⟩=U (Z H (n:Int)):=⟨h4.bV.cell 0,h4.bV.cell 1⟩))
 have D5:=(D3.drew.trans d4).alloc (Y #[X (U ⟨f,0,V⟩),Z H (n:Int),R V 0 0,J N] 149 (0,0));have H5:=h4.alloc (Y #[X (U ⟨f,0,V⟩),Z H (n:Int),R V 0 0,J N] 149 (0,0))
 have R0:ag (w4.alloc (Y #[X (U ⟨f,0,V⟩),Z H (n:Int),R V 0 0,J N] 149 (0,0))) (aE (⟨c,n,w4.heap.size,f⟩:Wk σ) C ⟨d,V,N⟩*(ak C*(G*(aA 176 5 C g c.rd d.err d.W d.D*(pt t (Y #[Z H 0] 28 (0,0))*(pt o (Y #[R V 0 0] 37 (0,0))*(pt v (Y #[X (U ⟨g,0,V⟩),Z H (n:Int)] 83 (0,0))*F))))))):=
  tT (H5.to (by ac_rfl))
 have x0:=Hj.out ⟨c,n,w4.heap.size,f⟩ _ C ⟨d,V,N⟩ _ rfl rfl R0;rename_i H0;clear s0 s1 u S0 i0 H0 D3 d4 h4 H5 R0 Hj hj H3;generalize w4.heap.size=k at *;obtain ⟨⟨F0,i⟩,hp⟩:∃ p,m ⟨d,V,N⟩=p:=⟨_,rfl⟩
 rw [hp] at x0
 cases F0 with
 | bad cN=>
  have HE:=ae (kZ hp);clear hp
  go_wp2_with fail
  (with_reducible refine x0.mono ?_)
  rintro e w6 ⟨B,d0,d6,rfl,h6⟩;have h7:=ub h6
  have P:ag w6 (c.RI i.b.s*(aA 176 5 C g c.rd d.err d.W d.D*(pt t (Y #[Z H 0] 28 (0,0))*(pt o (Y #[R V 0 0] 37 (0,0))*(ak B*(G*F)))))):=
   (h7.to (by ac_rfl:_=pt v (Y #[X (U ⟨g,0,V⟩),Z H (n:Int)] 83 (0,0))*(c.RI i.b.s*(aA 176 5 C g c.rd d.err d.W d.D*(pt t (Y #[Z H 0] 28 (0,0))*(pt o (Y #[R V 0 0] 37 (0,0))*(ak B*(G*F)))))))).right
  have u:=ns d0 P;have z:ag w6 (pt o (Y #[R V 0 0] 37 (0,0))*(pt t (Y #[Z H 0] 28 (0,0))*(cE c B g { d with s:=i.b.s }*(ak B*(G*F))))):=u.to (by ac_rfl)
  go_wp2_with fail
  exact yi rfl rfl z (.inl rfl) fun E f0 G0=>HQ.out _ _ (by rw [HE.out];exact ⟨B,u0.trans d0,(D5.trans d6).trans G0,rfl,f0⟩)
 | ok a=>
  go_wp2_with fail
  (with_reducible refine x0.mono ?_)
  rintro e w6 ⟨B,v6,d0,d6,rfl,h6⟩;unfold fX at h6;obtain ⟨j,q,rfl⟩:=aD h6;generalize a.length=r at h6 ⊢;have h7:ag w6 (aE (⟨c,n,k,f⟩:Wk σ) B i*(ak B*((bs 5 (R j r q) a*G)*(aA 176 5 C g c.rd d.err d.W d.D*(pt t (Y #[Z H 0] 28 (0,0))*(pt o (Y #[R V 0 0] 37 (0,0))*(pt v (Y #[X (U ⟨g,0,V⟩),Z H (n:Int)] 83 (0,0))*F))))))):=h6.to (by ac_rfl);obtain ⟨S,P⟩:=ag.ft h7;clear x0 h6 h7;have u:ag w6 (pt o (Y #[R V 0 0] 37 (0,0))*(pt t (Y #[Z H 0] 28 (0,0))*(pt v (Y #[X (U ⟨g,0,V⟩),Z H (n:Int)] 83 (0,0))*(pt k (Y #[X (U ⟨f,0,V⟩),Z H (n:Int),S,J i.dt] 149 (0,0))*(cE c B f i.b*(cu i.bits S*(ak B*(aA 176 5 C g c.rd d.err d.W d.D*((bs 5 (R j r q) a*G)*F))))))))):=P.to (by unfold bD Wk.cells;ac_rfl);have c9:w6.cell? ⟨o,0,V⟩=U (R V 0 0):=u.cell 0;have f9:w6.frozen? ⟨o,0,V⟩=N:=u.frozen 0;have z:=u.setCell 0 (R j r q);have o0:=(D5.trans d6).setCell ⟨o,0,V⟩ (R j r q);have k3:=z.aC.cell 3;clear P u D5 d6
  cases b0:i.dt with
  | false=>
   have HE:=ae (oB hp b0);rw [b0] at k3 z;clear hp b0
   go_wp2_with fail
   generalize w6.setCell ⟨o,0,V⟩ (R j r q)=w7 at *;have n0:ag w7 (aA 176 5 C g c.rd d.err d.W d.D*(aA 176 5 B f c.rd i.b.err i.b.W i.b.D*(ak B*(c.RI i.b.s*(pt o (Y #[R j r q] 37 (0,0))*(pt t (Y #[Z H 0] 28 (0,0))*(pt v (Y #[X (U ⟨g,0,V⟩),Z H (n:Int)] 83 (0,0))*(pt k (Y #[X (U ⟨f,0,V⟩),Z H (n:Int),S,J N] 149 (0,0))*(cu i.bits S*((bs 5 (R j r q) a*G)*F)))))))))):=z.to (by unfold cE;ac_rfl);have c0:=n0.fw (dG d0);have s0:=c0.bV.cell 0;have k0:=c0.et.cell 0;have K0:=ae (iv w7.drew B g f c.rd c.rd i.b.err d.err i.b.W i.b.D d.W d.D _ c0.drew ⟨_,_,rfl⟩);clear n0 c0 z
   go_region_held3 (fun E=>E.cell? ⟨v,0,V⟩=U (X (U ⟨g,0,V⟩))/\E.cell? ⟨k,0,V⟩=U (X (U ⟨f,0,V⟩)))
    (first|exact ⟨s0,k0⟩|exact i0|go_keep)
    (first|(go_at_call 138;refine (K0.out).mono ?_;rintro e A ⟨y,g0,rfl,P,d8⟩;have i0:A.cell? ⟨v,0,V⟩=U (X (U ⟨g,0,V⟩))/\A.cell? ⟨k,0,V⟩=U (X (U ⟨f,0,V⟩)):=⟨P.bV.cell 0,P.et.cell 0⟩))
   all_goals
    rename_i H0;have u:ag A (pt o (Y #[R j r q] 37 (0,0))*(pt t (Y #[Z H 0] 28 (0,0))*((cE c y g i.b*(ak y*((bs 5 (R j r q) a*G)*F)))*(pt v (Y #[X (U ⟨g,0,V⟩),Z H (n:Int)] 83 (0,0))*(pt k (Y #[X (U ⟨f,0,V⟩),Z H (n:Int),S,J N] 149 (0,0))*(aA 176 5 y f c.rd i.b.err i.b.W i.b.D*cu i.bits S)))))):=P.to (by unfold cE;ac_rfl);have c9:A.cell? ⟨o,0,V⟩=U (R j r q):=u.cell 0;have f9:A.frozen? ⟨o,0,V⟩=N:=u.frozen 0;have e9:A.cell? ⟨t,0,V⟩=U (Z H 0):=u.ah.cell 0;have g9:A.frozen? ⟨t,0,V⟩=N:=u.ah.frozen 0;have L0:¬ (o=t):=ag.ne u;have e1:¬ (t=o):=fun h=>L0 h.symm;have z:=((u.setCell 0 (R j r q)).ah.setCell 0 (Z H 0))
    have ca:=z.ah.cell 0;have ce:=z.cell 0;have D9:=(((o0).drew.trans d8).setCell ⟨o,0,V⟩ (R j r q)).setCell ⟨t,0,V⟩ (Z H 0);have hF:=z.right.right.left;have HD:=ae D9;have HF:=ae hF;have Ca:=ae ca;have Ce:=ae ce
    go_wp2_with fail
    exact xn rfl rfl Ca.out Ce.out (HQ.out _ _ (by rw [HE.out];exact ⟨y,_,u0.trans (d0.trans g0),HD.out,rfl,HF.out.to (by unfold fX;ac_rfl)⟩))
  | true=>
   have l0:=fun st'=>qo (st':=st') hp b0;have m0:=fun st' c=>tR (st':=st') (c:=c) hp b0;have l0:=ae l0;have m0:=ae m0;rw [b0] at k3 z;have k2:=z.aC.cell 2;have N0:=zw z.dI
   have f0:ag (w6.setCell ⟨o,0,V⟩ (R j r q)) (bD (⟨c,n,k,f⟩:Wk σ) S B i*(ak B*(pt o (Y #[R j r q] 37 (0,0))*(pt t (Y #[Z H 0] 28 (0,0))*(pt v (Y #[X (U ⟨g,0,V⟩),Z H (n:Int)] 83 (0,0))*(cu i.bits S*(aA 176 5 C g c.rd d.err d.W d.D*((bs 5 (R j r q) a*G)*F)))))))):=
    z.to (by unfold bD Wk.cells;rw [b0];ac_rfl)
   have D0:=jS (⟨c,n,k,f⟩:Wk σ) _ S B i 0 S (i.bits.getD []) _ f0 N0
   obtain ⟨va,vl,vc,rfl⟩:∃ a l c,S = R a l c:=by
    obtain ⟨a,c,e⟩:=N0.shape;exact ⟨_,_,_,e⟩
   have X0:∀ st' F0,bL 0 (i.bits.getD []) i=(F0,st')->st'.dt=L:=fun st' F0 h=>by
    unfold bL at h
    split at h
    .simp only [Prod.mk.injEq] at h;rw [<- h.2];exact b0
    .simp only [Prod.mk.injEq] at h;rw [<- h.2];exact b0
   obtain ⟨⟨r2,x⟩,h0⟩:∃ p,bL 0 (i.bits.getD []) i=p:=⟨_,rfl⟩
   rw [h0] at D0;have Y0:=X0 _ _ h0;have b1:=ae Y0;clear hp b0 f0 N0 X0 Y0
   cases r2 with
   | bad cN=>
    have HE:=ae (m0.out _ _ h0);clear h0 l0 m0
    go_wp2_with fail
    (with_reducible refine D0.mono ?_)
    rintro e A ⟨y,g0,d8,rfl,p0⟩
    have q0:ag A (c.RI x.b.s*(aA 176 5 C g c.rd d.err d.W d.D*(pt o (Y #[R j r q] 37 (0,0))*(pt t (Y #[Z H 0] 28 (0,0))*(ak y*((bs 5 (R j r q) a*G)*F)))))):=
     (p0.to (by unfold bD cE;ac_rfl:_=(pt k (Y ((⟨c,n,k,f⟩:Wk σ).cells (R va vl vc) x.dt) 149 (0,0))*(aA 176 5 y f c.rd x.b.err x.b.W x.b.D*(pt v (Y #[X (U ⟨g,0,V⟩),Z H (n:Int)] 83 (0,0))*cu i.bits (R va vl vc))))*(c.RI x.b.s*(aA 176 5 C g c.rd d.err d.W d.D*(pt o (Y #[R j r q] 37 (0,0))*(pt t (Y #[Z H 0] 28 (0,0))*(ak y*((bs 5 (R j r q) a*G)*F)))))))).right
    have r0:=ns (d0.trans g0) q0;have c1:ag A (pt o (Y #[R j r q] 37 (0,0))*(pt t (Y #[Z H 0] 28 (0,0))*(cE c y g { d with s:=x.b.s }*(ak y*((bs 5 (R j r q) a*G)*F))))):=r0.to (by ac_rfl)
    go_wp2_with fail
    exact yi rfl rfl c1 (.inr ⟨_,_,_,rfl⟩) fun E f0 G0=>HQ.out _ _ (by rw [HE.out];exact ⟨y,u0.trans (d0.trans g0),(o0.trans d8).trans G0,rfl,(f0.to (by ac_rfl:_=bs 5 (R j r q) a*(cE c y g { d with s:=x.b.s }*(ak y*(G*F))))).right⟩)
   | ok j1=>
    have HE:=ae (l0.out _ h0);clear h0 l0 m0
    go_wp2_with fail
    (with_reducible refine D0.mono ?_)
    rintro e w7 ⟨y,v8,g0,d8,rfl,p0⟩;obtain ⟨rfl,q0⟩:=ag.aq.1 p0;have r0:ag w7 (pt o (Y #[R j r q] 37 (0,0))*(pt t (Y #[Z H 0] 28 (0,0))*(pt v (Y #[X (U ⟨g,0,V⟩),Z H (n:Int)] 83 (0,0))*(pt k (Y #[X (U ⟨f,0,V⟩),Z H (n:Int),(R va vl vc),J L] 149 (0,0))*(cE c y f x.b*(cu i.bits (R va vl vc)*(ak y*(aA 176 5 C g c.rd d.err d.W d.D*((bs 5 (R j r q) a*G)*F))))))))):=q0.to (by unfold bD Wk.cells;rw [b1.out];ac_rfl);have a1:=o0.trans d8;have W0:=d0.trans g0;clear D0 p0 q0 o0 d8 z k2 k3
    go_wp2_with fail
    have n0:ag w7 (aA 176 5 C g c.rd d.err d.W d.D*(aA 176 5 y f c.rd x.b.err x.b.W x.b.D*(ak y*(c.RI x.b.s*(pt o (Y #[R j r q] 37 (0,0))*(pt t (Y #[Z H 0] 28 (0,0))*(pt v (Y #[X (U ⟨g,0,V⟩),Z H (n:Int)] 83 (0,0))*(pt k (Y #[X (U ⟨f,0,V⟩),Z H (n:Int),(R va vl vc),J L] 149 (0,0))*(cu i.bits (R va vl vc)*((bs 5 (R j r q) a*G)*F)))))))))):=r0.to (by unfold cE;ac_rfl);have c0:=n0.fw (dG W0);have s0:=c0.bV.cell 0;have k0:=c0.et.cell 0;have K0:=ae (iv w7.drew y g f c.rd c.rd x.b.err d.err x.b.W x.b.D d.W d.D _ c0.drew ⟨_,_,rfl⟩);clear n0 c0 r0
    go_region_held3 (fun E=>E.cell? ⟨v,0,V⟩=U (X (U ⟨g,0,V⟩))/\E.cell? ⟨k,0,V⟩=U (X (U ⟨f,0,V⟩)))
     (first|exact ⟨s0,k0⟩|exact i0|go_keep)
     (first|(go_at_call 138;refine (K0.out).mono ?_;rintro e A ⟨S5,d1,rfl,P,d8⟩;have i0:A.cell? ⟨v,0,V⟩=U (X (U ⟨g,0,V⟩))/\A.cell? ⟨k,0,V⟩=U (X (U ⟨f,0,V⟩)):=⟨P.bV.cell 0,P.et.cell 0⟩))
    all_goals
     rename_i H0;have u:ag A (pt o (Y #[R j r q] 37 (0,0))*(pt t (Y #[Z H 0] 28 (0,0))*((cE c S5 g x.b*(ak S5*((bs 5 (R j r q) a*G)*F)))*(pt v (Y #[X (U ⟨g,0,V⟩),Z H (n:Int)] 83 (0,0))*(pt k (Y #[X (U ⟨f,0,V⟩),Z H (n:Int),(R va vl vc),J L] 149 (0,0))*(aA 176 5 S5 f c.rd x.b.err x.b.W x.b.D*cu i.bits (R va vl vc))))))):=P.to (by unfold cE;ac_rfl);have c9:A.cell? ⟨o,0,V⟩=U (R j r q):=u.cell 0;have f9:A.frozen? ⟨o,0,V⟩=N:=u.frozen 0;have e9:A.cell? ⟨t,0,V⟩=U (Z H 0):=u.ah.cell 0;have g9:A.frozen? ⟨t,0,V⟩=N:=u.ah.frozen 0;have L0:¬ (o=t):=ag.ne u;have e1:¬ (t=o):=fun h=>L0 h.symm;have z:=((u.setCell 0 (R j r q)).ah.setCell 0 (Z H 0))
     have ca:=z.ah.cell 0;have ce:=z.cell 0;have D9:=(((a1).drew.trans d8).setCell ⟨o,0,V⟩ (R j r q)).setCell ⟨t,0,V⟩ (Z H 0);have hF:=z.right.right.left;have HD:=ae D9;have HF:=ae hF;have Ca:=ae ca;have Ce:=ae ce
     go_wp2_with fail
     exact xn rfl rfl Ca.out Ce.out (HQ.out _ _ (by rw [HE.out];exact ⟨S5,_,u0.trans (W0.trans d1),HD.out,rfl,HF.out.to (by unfold fX;ac_rfl)⟩))
end
theorem dP:(prog.info? 202).map (·.size)=U 0:=by kernel_rfl
section
variable {σ α:Type}
theorem Lu (w:O) (g:Nat) (i:Addr) :
    CallsD Q 193 #[X (U ⟨g,0,V⟩),X (U i)] .returning w fun e u j=>e = K (I #[])/\u = .returning/\j=w.alloc (Y #[] 202 (0,0)):=by
  refine callsD_of_wpS func193 rfl fun d l f=>?_;apply wpS_seq;refine wpS_of_wp ?_
  simp only [ntmps193,P2,M2,R2,T2,V2,W2,
     X2,Y2,Z2,B3,G3]
  go_wp2
  apply wpS_seq;apply wpS_region;simp [wpOpsS,go_sem,recoverD,f,Exit.thenS];refine wpS_of_wp ?_
  go_wp2
  cases d
  simp_all [bodyPostS,results,Tryz.results193]
theorem LH (w:O) (g d:Nat) (c y:Int) (f:List PanicEntry) (t:w.cell? ⟨d,0,V⟩=U (Z H y)) (r:w.frozen? ⟨d,0,V⟩=N) (x:d<w.heap.size) :
    CallsD Q 193 #[X (U ⟨g,0,V⟩),X (U ⟨d,0,V⟩)] (.panicking ({ v:=.iface 219 (Z H c),recovered:=N } :: f)) w fun e u l=>
      e = K (I #[])/\u = .panicking ({ v:=.iface 219 (Z H c),recovered:=L } :: f)/\l=(w.setCell ⟨d,0,V⟩ (Z H c)).alloc (Y #[] 202 (0,0)):=by
  refine callsD_of_wpS func193 rfl fun q o i=>?_;apply wpS_seq;refine wpS_of_wp ?_
  simp only [ntmps193,P2,M2,R2,T2,V2,W2,
     X2,Y2,Z2,B3,G3]
  go_wp2
  apply wpS_seq;apply wpS_region;simp [wpOpsS,go_sem,recoverD,i,Exit.thenS];refine wpS_of_wp ?_;have z:=jB (Z H c)
  go_wp2_with (first|(refine wpList_load_mid (by exact rfl) 202 (.tmp 2) (by exact rfl) w.heap.size 0 (by exact rfl) [] _ (by exact fun j v h=>by cases h) underlying202 rfl (by exact dP) ?_)|(refine wpList_store_mid (by exact rfl) 202 (.tmp 0) (.tmp 12) (by exact rfl) g 0 #[] (by exact rfl) (by exact rfl) (by exact fun j h=>absurd h (N2 _)) (by exact dP) (by exact rfl) ?_))
  exact ⟨rfl,_,rfl,_,results_none rfl _ _ _,rfl,rfl,rfl⟩
theorem qj {w:O} {d:Array M} {a b:Nat} {F:ai} (e:d[4]?=U (ay a)) (f:d[5]?=U (ay b)) (g:ag w (pt a (Y #[] 202 (0,0))*F)) (i:w.cell? ⟨b,0,V⟩=U v) :
  (results Tryz.f139 d).run Q w = .ok (I #[.agg #[],v]) w:=by
 have j:=run_loadVar_row (P:=Q) w a 202 202 #[] (0,0) _ g.heap underlying202 rfl dP;simp [results,Tryz.results139,e,f,go_sem,asAddr,j,i]
theorem xP {w:O} {i:Array M} {d f:Nat} {z c:Int} {P:ai} {l:Ending->O->Prop} (o:i[4]?=U (ay d)) (q:i[5]?=U (ay f))
  (h:ag w (pt d (Y #[] 202 (0,0))*(pt f (Y #[Z H z] 28 (0,0))*P))) (hR:∀ j,ag j P->aj w j->l (K (I #[.agg #[],Z H c])) j) :
  bodyPostD Q Tryz.f139 l (Exit.panic (I8 c)) { tmps:=i,defers:=[{ target:=.fn (.func 193) #[X (U ⟨d,0,V⟩),X (U ⟨f,0,V⟩)],args:=#[] }] } w:=by
 refine leaves_cons (f:=193) (args:=#[X (U ⟨d,0,V⟩),X (U ⟨f,0,V⟩)]) (by simp) (by simp [go_sem]) ?_;refine (LH w d f c z [] (h.ah.cell 0) (h.ah.frozen 0) h.ah.lt).mono ?_;rintro e u r ⟨rfl,rfl,rfl⟩;have g:=((h.ah.setCell 0 (Z H c)).alloc (Y #[] 202 (0,0))).right;exact ⟨_,qj o q g.ah (g.cell 0),hR _ g.right.right (((aj.refl w).setCell _ _).alloc _)⟩
theorem xB {w:O} {i:Array M} {d f:Nat} {z:Int} {P:ai} {l:Ending->O->Prop} (o:i[4]?=U (ay d)) (q:i[5]?=U (ay f))
  (h:ag w (pt d (Y #[] 202 (0,0))*(pt f (Y #[Z H z] 28 (0,0))*P))) (hR:∀ j,ag j P->aj w j->l (K (I #[.agg #[],Z H z])) j) :
  bodyPostD Q Tryz.f139 l Exit.ret { tmps:=i,defers:=[{ target:=.fn (.func 193) #[X (U ⟨d,0,V⟩),X (U ⟨f,0,V⟩)],args:=#[] }] } w:=by
 refine leaves_cons (f:=193) (args:=#[X (U ⟨d,0,V⟩),X (U ⟨f,0,V⟩)]) (by simp) (by simp [go_sem]) ?_;refine (Lu w d ⟨f,0,V⟩).mono ?_;rintro e u r ⟨rfl,rfl,rfl⟩;have g:=(h.alloc (Y #[] 202 (0,0))).right;exact ⟨_,qj o q g (g.ah.cell 0),hR _ g.right.right ((aj.refl w).alloc _)⟩
def Nh (a:Unit) (v:M):ai:=fact (v = .agg #[])
theorem Lo (c:Cx σ) (hc:c.Ok) (n:Nat) (h1:4<=n) (j1:n<=3840) (jf:FuncId) (W0:Array M) (G:ai) (m:WM σ Unit)
  (mS:∀ (args:Array M) (w:O),(callFunc jf args).run Q w = .ok (.enter jf args) w) (hj:Cn c n jf W0 Nh G m)
  (g:Nat) (d:gD σ) (w:O) (h0:Hp) (F:ai) (h:ag w (cE c h0 g d*(ak h0*(G*F)))) (V0:Ending->O->Prop)
  (hQ:∀ e y,AX c g (.agg #[]) Nh h0 (G*F) w (dK m d) e y->V0 e y) :
  Calls Q 139 #[fJ g n,.func (.func jf) #[] W0] w V0:=by
 have HQ:=ae hQ;clear hQ;have g1:=mK Q;have i1:¬ ((n:Int)<4):=by omega
 have k1:¬ ((n:Int) > 3840):=by omega
 have Hj:=ae hj;unfold fJ
 go_enter_defers func139,ntmps139
 have H3:=((h.alloc (Y #[X (U ⟨g,0,V⟩),Z H (n:Int)] 83 (0,0))).alloc (Y #[] 202 (0,0))).alloc (Y #[Z H 0] 28 (0,0));have D3:=(((aj.refl w).alloc (Y #[X (U ⟨g,0,V⟩),Z H (n:Int)] 83 (0,0))).alloc (Y #[] 202 (0,0))).alloc (Y #[Z H 0] 28 (0,0));simp only [K3] at H3
 go_wp2_with fail
 generalize ((w.alloc (Y #[X (U ⟨g,0,V⟩),Z H (n:Int)] 83 (0,0))).alloc (Y #[] 202 (0,0))).alloc (Y #[Z H 0] 28 (0,0))=w3 at H3 D3 ⊢;clear h;generalize w.heap.size+1+1=q at *;generalize w.heap.size+1=o at *;generalize w.heap.size=j at *;have s0:w3.cell? ⟨j,0,V⟩=U (X (U ⟨g,0,V⟩)):=H3.au.cell 0;have s1:w3.cell? ⟨j,1,V⟩=U (Z H (n:Int)):=H3.au.cell 1;have x:ag w3 (aA 176 5 h0 g c.rd d.err d.W d.D*(ak h0*(c.RI d.s*(pt q (Y #[Z H 0] 28 (0,0))*(pt o (Y #[] 202 (0,0))*(pt j (Y #[X (U ⟨g,0,V⟩),Z H (n:Int)] 83 (0,0))*(G*F))))))):=H3.to (by unfold cE;ac_rfl);have a1:=nI w3.drew h0 g c.rd d.err d.W d.D _ x.drew ⟨_,_,rfl⟩;have T0:=ae a1;clear a1
 go_region_held3 (fun y=>y.cell? ⟨j,0,V⟩=U (X (U ⟨g,0,V⟩))/\y.cell? ⟨j,1,V⟩=U (Z H (n:Int)))
  (first|exact ⟨s0,s1⟩|exact f0|go_keep)
  (first|(go_at_call 135;refine (T0.out).mono ?_;rintro e w4 ⟨C,f,G0,rfl,h4,d4⟩;have f0:w4.cell? ⟨j,0,V⟩=U (X (U ⟨g,0,V⟩))/\w4.cell? ⟨j,1,V⟩=U (Z H (n:Int)):=⟨h4.bV.cell 0,h4.bV.cell 1⟩))
 have D5:=(D3.drew.trans d4).alloc (Y #[X (U ⟨f,0,V⟩),Z H (n:Int),R V 0 0,J N] 149 (0,0));have H5:=h4.alloc (Y #[X (U ⟨f,0,V⟩),Z H (n:Int),R V 0 0,J N] 149 (0,0))
 have S0:ag (w4.alloc (Y #[X (U ⟨f,0,V⟩),Z H (n:Int),R V 0 0,J N] 149 (0,0))) (aE (⟨c,n,w4.heap.size,f⟩:Wk σ) C ⟨d,V,N⟩*(ak C*(G*(aA 176 5 C g c.rd d.err d.W d.D*(pt q (Y #[Z H 0] 28 (0,0))*(pt o (Y #[] 202 (0,0))*(pt j (Y #[X (U ⟨g,0,V⟩),Z H (n:Int)] 83 (0,0))*F))))))):=
  tT (H5.to (by ac_rfl))
 have H0:=Hj.out ⟨c,n,w4.heap.size,f⟩ _ C ⟨d,V,N⟩ _ rfl rfl S0;rename_i p0;clear s0 s1 x T0 f0 p0 D3 d4 h4 H5 S0 Hj hj H3;generalize w4.alloc (Y #[X (U ⟨f,0,V⟩),Z H (n:Int),R V 0 0,J N] 149 (0,0))=w5 at *;generalize w4.heap.size=k at *;obtain ⟨⟨L0,i⟩,hp⟩:∃ p,m ⟨d,V,N⟩=p:=⟨_,rfl⟩
 rw [hp] at H0
 cases L0 with
 | bad cN=>
  have HE:=ae (kZ hp);clear hp
  go_wp2_with fail
  (with_reducible refine H0.mono ?_)
  rintro e w6 ⟨z,e0,d6,rfl,h6⟩;have h7:=ub h6
  have A:ag w6 (c.RI i.b.s*(aA 176 5 C g c.rd d.err d.W d.D*(pt q (Y #[Z H 0] 28 (0,0))*(pt o (Y #[] 202 (0,0))*(ak z*(G*F)))))):=
   (h7.to (by ac_rfl:_=pt j (Y #[X (U ⟨g,0,V⟩),Z H (n:Int)] 83 (0,0))*(c.RI i.b.s*(aA 176 5 C g c.rd d.err d.W d.D*(pt q (Y #[Z H 0] 28 (0,0))*(pt o (Y #[] 202 (0,0))*(ak z*(G*F)))))))).right
  have x:=ns e0 A;have u:ag w6 (pt o (Y #[] 202 (0,0))*(pt q (Y #[Z H 0] 28 (0,0))*(cE c z g { d with s:=i.b.s }*(ak z*(G*F))))):=x.to (by ac_rfl)
  go_wp2_with fail
  exact xP rfl rfl u fun y b0 g0=>HQ.out _ _ (by rw [HE.out];exact ⟨z,G0.trans e0,(D5.trans d6).trans g0,rfl,b0⟩)
 | ok a=>
  go_wp2_with fail
  (with_reducible refine H0.mono ?_)
  rintro e w6 ⟨z,v6,e0,d6,rfl,h6⟩;obtain ⟨rfl,h7⟩:=ag.aq.1 h6;obtain ⟨E,A⟩:=ag.ft h7;clear H0 h6 h7;have x:ag w6 (pt o (Y #[] 202 (0,0))*(pt q (Y #[Z H 0] 28 (0,0))*(pt j (Y #[X (U ⟨g,0,V⟩),Z H (n:Int)] 83 (0,0))*(pt k (Y #[X (U ⟨f,0,V⟩),Z H (n:Int),E,J i.dt] 149 (0,0))*(cE c z f i.b*(cu i.bits E*(ak z*(aA 176 5 C g c.rd d.err d.W d.D*(G*F))))))))):=A.to (by unfold bD Wk.cells;ac_rfl);have u:=x;have u0:=D5.trans d6;have k3:w6.cell? ⟨k,3,V⟩=U (J i.dt):=u.aC.cell 3;clear A x D5 d6
  cases c0:i.dt with
  | false=>
   have HE:=ae (oB hp c0);rw [c0] at k3 u;clear hp c0
   go_wp2_with (refine wpList_store_mid (by exact rfl) 202 (.tmp 4) (.tmp 31) (by exact rfl) o 0 #[] (by exact rfl) (by exact rfl) (by exact fun m0 h=>absurd h (N2 _)) (by exact dP) (by exact rfl) ?_)
   have d1:∃ P,P=w6:=⟨_,rfl⟩
   obtain ⟨P,rfl⟩:=d1;have q0:ag P (aA 176 5 C g c.rd d.err d.W d.D*(aA 176 5 z f c.rd i.b.err i.b.W i.b.D*(ak z*(c.RI i.b.s*(pt o (Y #[] 202 (0,0))*(pt q (Y #[Z H 0] 28 (0,0))*(pt j (Y #[X (U ⟨g,0,V⟩),Z H (n:Int)] 83 (0,0))*(pt k (Y #[X (U ⟨f,0,V⟩),Z H (n:Int),E,J N] 149 (0,0))*(cu i.bits E*(G*F)))))))))):=u.to (by unfold cE;ac_rfl);have d0:=q0.fw (dG e0);have s0:P.cell? ⟨j,0,V⟩=U (X (U ⟨g,0,V⟩)):=d0.bV.cell 0;have k0:P.cell? ⟨k,0,V⟩=U (X (U ⟨f,0,V⟩)):=d0.et.cell 0;have r0:=ae (iv P.drew z g f c.rd c.rd i.b.err d.err i.b.W i.b.D d.W d.D _ d0.drew ⟨_,_,rfl⟩);clear q0 d0 u
   go_region_held3 (fun y=>y.cell? ⟨j,0,V⟩=U (X (U ⟨g,0,V⟩))/\y.cell? ⟨k,0,V⟩=U (X (U ⟨f,0,V⟩)))
    (first|exact ⟨s0,k0⟩|exact f0|go_keep)
    (first|(go_at_call 138;refine (r0.out).mono ?_;rintro e B ⟨t,i0,rfl,A,S⟩;have f0:B.cell? ⟨j,0,V⟩=U (X (U ⟨g,0,V⟩))/\B.cell? ⟨k,0,V⟩=U (X (U ⟨f,0,V⟩)):=⟨A.bV.cell 0,A.et.cell 0⟩))
   all_goals
    rename_i p0;have x:ag B (pt o (Y #[] 202 (0,0))*(pt q (Y #[Z H 0] 28 (0,0))*((cE c t g i.b*(ak t*(G*F)))*(pt j (Y #[X (U ⟨g,0,V⟩),Z H (n:Int)] 83 (0,0))*(pt k (Y #[X (U ⟨f,0,V⟩),Z H (n:Int),E,J N] 149 (0,0))*(aA 176 5 t f c.rd i.b.err i.b.W i.b.D*cu i.bits E)))))):=A.to (by unfold cE;ac_rfl);have e9:B.cell? ⟨q,0,V⟩=U (Z H 0):=x.ah.cell 0;have g9:B.frozen? ⟨q,0,V⟩=N:=x.ah.frozen 0;have u:=((x.ah.setCell 0 (Z H 0)).ah)
    have D9:=((u0).drew.trans S).setCell ⟨q,0,V⟩ (Z H 0);have HD:=ae D9;have N0:=ae u;clear r0 s0 k0 f0 A x u D9 p0 S
    go_wp2_with (first|(refine wpList_load_mid (by exact rfl) 202 (.tmp 4) (by exact rfl) o 0 (by exact rfl) [] _ (by exact fun m0 v h=>by cases h) underlying202 rfl (by exact dP) ?_)|(refine wpList_store_mid (by exact rfl) 202 (.tmp 4) (.tmp 49) (by exact rfl) o 0 #[] (by exact rfl) (by exact rfl) (by exact fun m0 h=>absurd h (N2 _)) (by exact dP) (by exact rfl) ?_))
    exact xB rfl rfl N0.out fun y b0 g0=>HQ.out _ _ (by rw [HE.out];exact ⟨t,_,G0.trans (e0.trans i0),HD.out.trans g0,rfl,ag.aq.2 ⟨rfl,(b0.left).to (by ac_rfl)⟩⟩)
  | true=>
   have n0:=fun st'=>qo (st':=st') hp c0;have o0:=fun st' c=>tR (st':=st') (c:=c) hp c0;have n0:=ae n0;have o0:=ae o0;rw [c0] at k3 u;have k2:w6.cell? ⟨k,2,V⟩=U E:=u.aC.cell 2;have R0:Rd w6 E (i.bits.getD []):=zw u.dI
   have b0:ag w6 (bD (⟨c,n,k,f⟩:Wk σ) E z i*(ak z*(pt o (Y #[] 202 (0,0))*(pt q (Y #[Z H 0] 28 (0,0))*(pt j (Y #[X (U ⟨g,0,V⟩),Z H (n:Int)] 83 (0,0))*(cu i.bits E*(aA 176 5 C g c.rd d.err d.W d.D*(G*F)))))))):=
    u.to (by unfold bD Wk.cells;rw [c0];ac_rfl)
   have K0:=jS (⟨c,n,k,f⟩:Wk σ) _ E z i 0 E (i.bits.getD []) _ b0 R0
   obtain ⟨va,vl,vc,rfl⟩:∃ a l c,E = R a l c:=by
    obtain ⟨a,c,e⟩:=R0.shape;exact ⟨_,_,_,e⟩
   have Y0:∀ st' L0,bL 0 (i.bits.getD []) i=(L0,st')->st'.dt=L:=fun st' L0 h=>by
    unfold bL at h
    split at h
    .simp only [Prod.mk.injEq] at h;rw [<- h.2];exact c0
    .simp only [Prod.mk.injEq] at h;rw [<- h.2];exact c0
   obtain ⟨⟨r2,r⟩,l0⟩:∃ p,bL 0 (i.bits.getD []) i=p:=⟨_,rfl⟩
   rw [l0] at K0;have Z0:=Y0 _ _ l0;have c1:=ae Z0;clear hp c0 b0 R0 Y0 Z0
   cases r2 with
   | bad cN=>
    have HE:=ae (o0.out _ _ l0);clear l0 n0 o0
    go_wp2_with (refine wpList_store_mid (by exact rfl) 202 (.tmp 4) (.tmp 31) (by exact rfl) o 0 #[] (by exact rfl) (by exact rfl) (by exact fun m0 h=>absurd h (N2 _)) (by exact dP) (by exact rfl) ?_)
    (with_reducible refine K0.mono ?_)
    rintro e B ⟨t,i0,S,rfl,x0⟩
    have D0:ag B (c.RI r.b.s*(aA 176 5 C g c.rd d.err d.W d.D*(pt o (Y #[] 202 (0,0))*(pt q (Y #[Z H 0] 28 (0,0))*(ak t*(G*F)))))):=
     (x0.to (by unfold bD cE;ac_rfl:_=(pt k (Y ((⟨c,n,k,f⟩:Wk σ).cells (R va vl vc) r.dt) 149 (0,0))*(aA 176 5 t f c.rd r.b.err r.b.W r.b.D*(pt j (Y #[X (U ⟨g,0,V⟩),Z H (n:Int)] 83 (0,0))*cu i.bits (R va vl vc))))*(c.RI r.b.s*(aA 176 5 C g c.rd d.err d.W d.D*(pt o (Y #[] 202 (0,0))*(pt q (Y #[Z H 0] 28 (0,0))*(ak t*(G*F)))))))).right
    have F0:=ns (e0.trans i0) D0;have e1:ag B (pt o (Y #[] 202 (0,0))*(pt q (Y #[Z H 0] 28 (0,0))*(cE c t g { d with s:=r.b.s }*(ak t*(G*F))))):=F0.to (by ac_rfl)
    go_wp2_with fail
    exact xP rfl rfl e1 fun y b0 g0=>HQ.out _ _ (by rw [HE.out];exact ⟨t,G0.trans (e0.trans i0),(u0.trans S).trans g0,rfl,b0⟩)
   | ok l1=>
    have HE:=ae (n0.out _ l0);clear l0 n0 o0
    go_wp2_with (refine wpList_store_mid (by exact rfl) 202 (.tmp 4) (.tmp 31) (by exact rfl) o 0 #[] (by exact rfl) (by exact rfl) (by exact fun m0 h=>absurd h (N2 _)) (by exact dP) (by exact rfl) ?_)
    (with_reducible refine K0.mono ?_)
    rintro e P ⟨t,v8,i0,S,rfl,x0⟩;obtain ⟨rfl,D0⟩:=ag.aq.1 x0;have F0:ag P (pt o (Y #[] 202 (0,0))*(pt q (Y #[Z H 0] 28 (0,0))*(pt j (Y #[X (U ⟨g,0,V⟩),Z H (n:Int)] 83 (0,0))*(pt k (Y #[X (U ⟨f,0,V⟩),Z H (n:Int),(R va vl vc),J L] 149 (0,0))*(cE c t f r.b*(cu i.bits (R va vl vc)*(ak t*(aA 176 5 C g c.rd d.err d.W d.D*(G*F))))))))):=D0.to (by unfold bD Wk.cells;rw [c1.out];ac_rfl);have b1:=u0.trans S;have X0:=e0.trans i0;clear K0 x0 D0 u0 S u k2 k3
    go_wp2_with fail
    have q0:ag P (aA 176 5 C g c.rd d.err d.W d.D*(aA 176 5 t f c.rd r.b.err r.b.W r.b.D*(ak t*(c.RI r.b.s*(pt o (Y #[] 202 (0,0))*(pt q (Y #[Z H 0] 28 (0,0))*(pt j (Y #[X (U ⟨g,0,V⟩),Z H (n:Int)] 83 (0,0))*(pt k (Y #[X (U ⟨f,0,V⟩),Z H (n:Int),(R va vl vc),J L] 149 (0,0))*(cu i.bits (R va vl vc)*(G*F)))))))))):=F0.to (by unfold cE;ac_rfl);have d0:=q0.fw (dG X0);have s0:P.cell? ⟨j,0,V⟩=U (X (U ⟨g,0,V⟩)):=d0.bV.cell 0;have k0:P.cell? ⟨k,0,V⟩=U (X (U ⟨f,0,V⟩)):=d0.et.cell 0;have r0:=ae (iv P.drew t g f c.rd c.rd r.b.err d.err r.b.W r.b.D d.W d.D _ d0.drew ⟨_,_,rfl⟩);clear q0 d0 F0
    go_region_held3 (fun y=>y.cell? ⟨j,0,V⟩=U (X (U ⟨g,0,V⟩))/\y.cell? ⟨k,0,V⟩=U (X (U ⟨f,0,V⟩)))
     (first|exact ⟨s0,k0⟩|exact f0|go_keep)
     (first|(go_at_call 138;refine (r0.out).mono ?_;rintro e B ⟨S5,f1,rfl,A,S⟩;have f0:B.cell? ⟨j,0,V⟩=U (X (U ⟨g,0,V⟩))/\B.cell? ⟨k,0,V⟩=U (X (U ⟨f,0,V⟩)):=⟨A.bV.cell 0,A.et.cell 0⟩))
    all_goals
     rename_i p0;have x:ag B (pt o (Y #[] 202 (0,0))*(pt q (Y #[Z H 0] 28 (0,0))*((cE c S5 g r.b*(ak S5*(G*F)))*(pt j (Y #[X (U ⟨g,0,V⟩),Z H (n:Int)] 83 (0,0))*(pt k (Y #[X (U ⟨f,0,V⟩),Z H (n:Int),(R va vl vc),J L] 149 (0,0))*(aA 176 5 S5 f c.rd r.b.err r.b.W r.b.D*cu i.bits (R va vl vc))))))):=A.to (by unfold cE;ac_rfl);have e9:B.cell? ⟨q,0,V⟩=U (Z H 0):=x.ah.cell 0;have g9:B.frozen? ⟨q,0,V⟩=N:=x.ah.frozen 0;have u:=((x.ah.setCell 0 (Z H 0)).ah)
     have D9:=((b1).drew.trans S).setCell ⟨q,0,V⟩ (Z H 0);have HD:=ae D9;have N0:=ae u;clear r0 s0 k0 f0 A x u D9 p0 S
     go_wp2_with (first|(refine wpList_load_mid (by exact rfl) 202 (.tmp 4) (by exact rfl) o 0 (by exact rfl) [] _ (by exact fun m0 v h=>by cases h) underlying202 rfl (by exact dP) ?_)|(refine wpList_store_mid (by exact rfl) 202 (.tmp 4) (.tmp 49) (by exact rfl) o 0 #[] (by exact rfl) (by exact rfl) (by exact fun m0 h=>absurd h (N2 _)) (by exact dP) (by exact rfl) ?_))
     exact xB rfl rfl N0.out fun y b0 g0=>HQ.out _ _ (by rw [HE.out];exact ⟨S5,_,G0.trans (X0.trans f1),HD.out.trans g0,rfl,ag.aq.2 ⟨rfl,(b0.left).to (by ac_rfl)⟩⟩)
end
section
variable {σ α:Type}
theorem La (w:O) (g:Nat) (i:Addr) :
    CallsD Q 208 #[X (U ⟨g,0,V⟩),X (U i)] .returning w fun e u j=>e = K (I #[])/\u = .returning/\j=w.alloc (Y #[Z H 0,Z H 0,Z H 0,Z H 0,Z H 0,Z H 0,Z H 0,Z H 0,Z H 0,Z H 0,Z H 0,Z H 0,Z H 0,Z H 0,Z H 0,Z H 0,Z H 0,Z H 0,Z H 0,Z H 0] 73 (0,0)):=by
  refine callsD_of_wpS func208 rfl fun d l f=>?_;apply wpS_seq;refine wpS_of_wp ?_
  simp only [ntmps208,P2,M2,R2,T2,V2,W2,
     X2,Y2,Z2,B3,G3]
  go_wp2
  simp only [Exit.thenS];apply wpS_seq;apply wpS_region;simp [wpOpsS,go_sem,recoverD,f,Exit.thenS];refine wpS_of_wp ?_
  go_wp2
  cases d
  simp_all [bodyPostS,results,Tryz.results208]
  try rfl
theorem JL (w:O) (d f:Nat) (j:Array M) (E:j.size=20) (c y:Int) (v:List PanicEntry) (P:ai) (h:ag w (pt d (Y j 73 (0,0))*(pt f (Y #[Z H y] 28 (0,0))*P))) :
    CallsD Q 208 #[X (U ⟨d,0,V⟩),X (U ⟨f,0,V⟩)] (.panicking ({ v:=.iface 219 (Z H c),recovered:=N } :: v)) w fun e u x=>
      e = K (I #[])/\u = .panicking ({ v:=.iface 219 (Z H c),recovered:=L } :: v)/\ag x (pt d (Y #[Z H 0,Z H 0,Z H 0,Z H 0,Z H 0,Z H 0,Z H 0,Z H 0,Z H 0,Z H 0,Z H 0,Z H 0,Z H 0,Z H 0,Z H 0,Z H 0,Z H 0,Z H 0,Z H 0,Z H 0] 73 (0,0))*(pt f (Y #[Z H c] 28 (0,0))*P))/\aj w x:=by
  refine callsD_of_wpS func208 rfl fun b0 S G=>?_;apply wpS_seq;refine wpS_of_wp ?_
  simp only [ntmps208,P2,M2,R2,T2,V2,W2,
     X2,Y2,Z2,B3,G3]
  go_wp2
  simp only [Exit.thenS];apply wpS_seq;apply wpS_region;simp [wpOpsS,go_sem,recoverD,G,Exit.thenS];refine wpS_of_wp ?_;have c0:=jB (Z H c);have g:=h.alloc (Y #[Z H 0,Z H 0,Z H 0,Z H 0,Z H 0,Z H 0,Z H 0,Z H 0,Z H 0,Z H 0,Z H 0,Z H 0,Z H 0,Z H 0,Z H 0,Z H 0,Z H 0,Z H 0,Z H 0,Z H 0] 73 (0,0));have l:=(aj.refl w).alloc (Y #[Z H 0,Z H 0,Z H 0,Z H 0,Z H 0,Z H 0,Z H 0,Z H 0,Z H 0,Z H 0,Z H 0,Z H 0,Z H 0,Z H 0,Z H 0,Z H 0,Z H 0,Z H 0,Z H 0,Z H 0] 73 (0,0));have q:=g.heap;have r:=g.ah.heap;have i:=g.ah.setRow (cs':=#[Z H 0,Z H 0,Z H 0,Z H 0,Z H 0,Z H 0,Z H 0,Z H 0,Z H 0,Z H 0,Z H 0,Z H 0,Z H 0,Z H 0,Z H 0,Z H 0,Z H 0,Z H 0,Z H 0,Z H 0]);have z:=ae (((l.setRow d #[Z H 0,Z H 0,Z H 0,Z H 0,Z H 0,Z H 0,Z H 0,Z H 0,Z H 0,Z H 0,Z H 0,Z H 0,Z H 0,Z H 0,Z H 0,Z H 0,Z H 0,Z H 0,Z H 0,Z H 0])).setCell ⟨f,0,V⟩ (Z H c));have o:=(i.au.setCell 0 (Z H c))
  generalize w.alloc (Y #[Z H 0,Z H 0,Z H 0,Z H 0,Z H 0,Z H 0,Z H 0,Z H 0,Z H 0,Z H 0,Z H 0,Z H 0,Z H 0,Z H 0,Z H 0,Z H 0,Z H 0,Z H 0,Z H 0,Z H 0] 73 (0,0))=w1 at *;generalize w.heap.size=t at *;have e1:=i.au.cell 0;have f1:=i.au.frozen 0;have B:=ae q;have C:=ae r;have A:=ae o;clear h g i o l q r
  go_wp2_with (first|(refine wpList_load_row (by exact rfl) 73 (.tmp 2) (by exact rfl) t (by exact rfl) 73 #[Z H 0,Z H 0,Z H 0,Z H 0,Z H 0,Z H 0,Z H 0,Z H 0,Z H 0,Z H 0,Z H 0,Z H 0,Z H 0,Z H 0,Z H 0,Z H 0,Z H 0,Z H 0,Z H 0,Z H 0] (0,0) _ (by with_reducible exact B.out) underlying73 rfl bC ?_)|(refine wpList_store_row (by exact rfl) 73 (.tmp 0) (.tmp 12) (by exact rfl) d #[Z H 0,Z H 0,Z H 0,Z H 0,Z H 0,Z H 0,Z H 0,Z H 0,Z H 0,Z H 0,Z H 0,Z H 0,Z H 0,Z H 0,Z H 0,Z H 0,Z H 0,Z H 0,Z H 0,Z H 0] (by exact rfl) (by exact rfl) 73 j (by with_reducible exact C.out) bC E EW ?_))
  exact ⟨rfl,_,rfl,_,results_none rfl _ _ _,rfl,rfl,(A.out.to (by ac_rfl:_=pt t (Y #[Z H 0,Z H 0,Z H 0,Z H 0,Z H 0,Z H 0,Z H 0,Z H 0,Z H 0,Z H 0,Z H 0,Z H 0,Z H 0,Z H 0,Z H 0,Z H 0,Z H 0,Z H 0,Z H 0,Z H 0] 73 (0,0))*(pt d (Y #[Z H 0,Z H 0,Z H 0,Z H 0,Z H 0,Z H 0,Z H 0,Z H 0,Z H 0,Z H 0,Z H 0,Z H 0,Z H 0,Z H 0,Z H 0,Z H 0,Z H 0,Z H 0,Z H 0,Z H 0] 73 (0,0))*(pt f (Y #[Z H c] 28 (0,0))*P)))).right,z.out⟩
theorem qm {w:O} {d:Array M} {a b:Nat} {e:Array M} {F:ai} (f:d[4]?=U (ay a)) (g:d[5]?=U (ay b)) (j:ag w (pt a (Y e 73 (0,0))*F)) (i:e.size=20) (l:w.cell? ⟨b,0,V⟩=U v) :
  (results Tryz.f151 d).run Q w = .ok (I #[.agg e,v]) w:=by
 have o:=run_loadVar_row (P:=Q) w a 73 73 e (0,0) _ j.heap underlying73 rfl (by rw [i];exact bC);have r:d.getD 4 undef = X (U ⟨a,0,V⟩):=by simp [f]
 have t:d.getD 5 undef = X (U ⟨b,0,V⟩):=by simp [g]
 have q:(loadVar 28 ⟨b,0,V⟩).run Q w = .ok v w:=by simp [go_sem,l]
 simp [results,Tryz.results151,f,g,asAddr,o,q]
theorem xG {w:O} {j:Array M} {d f:Nat} {g:Array M} {z c:Int} {P:ai} {o:Ending->O->Prop} (r:j[4]?=U (ay d)) (t:j[5]?=U (ay f))
  (h:ag w (pt d (Y g 73 (0,0))*(pt f (Y #[Z H z] 28 (0,0))*P))) (v:g.size=20) (hR:∀ l,ag l P->aj w l->o (K (I #[.agg #[Z H 0,Z H 0,Z H 0,Z H 0,Z H 0,Z H 0,Z H 0,Z H 0,Z H 0,Z H 0,Z H 0,Z H 0,Z H 0,Z H 0,Z H 0,Z H 0,Z H 0,Z H 0,Z H 0,Z H 0],Z H c])) l) :
  bodyPostD Q Tryz.f151 o (Exit.panic (I8 c)) { tmps:=j,defers:=[{ target:=.fn (.func 208) #[X (U ⟨d,0,V⟩),X (U ⟨f,0,V⟩)],args:=#[] }] } w:=by
 refine leaves_cons (f:=208) (args:=#[X (U ⟨d,0,V⟩),X (U ⟨f,0,V⟩)]) (by simp) (by simp [go_sem]) ?_;refine (JL w d f g v c z [] P h).mono ?_;rintro e u x ⟨rfl,rfl,i,q⟩;exact ⟨_,qm r t i rfl (i.ah.cell 0),hR _ i.right.right q⟩
theorem xk {w:O} {j:Array M} {d f:Nat} {g:Array M} {z:Int} {P:ai} {o:Ending->O->Prop} (q:j[4]?=U (ay d)) (r:j[5]?=U (ay f))
  (h:ag w (pt d (Y g 73 (0,0))*(pt f (Y #[Z H z] 28 (0,0))*P))) (t:g.size=20) (hR:∀ l,ag l P->aj w l->o (K (I #[.agg g,Z H z])) l) :
  bodyPostD Q Tryz.f151 o Exit.ret { tmps:=j,defers:=[{ target:=.fn (.func 208) #[X (U ⟨d,0,V⟩),X (U ⟨f,0,V⟩)],args:=#[] }] } w:=by
 refine leaves_cons (f:=208) (args:=#[X (U ⟨d,0,V⟩),X (U ⟨f,0,V⟩)]) (by simp) (by simp [go_sem]) ?_;refine (La w d ⟨f,0,V⟩).mono ?_;rintro e u v ⟨rfl,rfl,rfl⟩;have i:=(h.alloc (Y #[Z H 0,Z H 0,Z H 0,Z H 0,Z H 0,Z H 0,Z H 0,Z H 0,Z H 0,Z H 0,Z H 0,Z H 0,Z H 0,Z H 0,Z H 0,Z H 0,Z H 0,Z H 0,Z H 0,Z H 0] 73 (0,0))).right;exact ⟨_,qm q r i t (i.ah.cell 0),hR _ i.right.right ((aj.refl w).alloc _)⟩
def Ch (a:Nd) (v:M):ai:=fact (v=a.v/\a.dr.length=16)
theorem JH (c:Cx σ) (hc:c.Ok) (n:Nat) (q1:4<=n) (t1:n<=3840) (jf:FuncId) (c1:Array M) (G:ai) (m:WM σ Nd)
  (mS:∀ (args:Array M) (w:O),(callFunc jf args).run Q w = .ok (.enter jf args) w) (hj:Cn c n jf c1 Ch G m)
  (g:Nat) (d:gD σ) (w:O) (i0:Hp) (F:ai) (h:ag w (cE c i0 g d*(ak i0*(G*F)))) (b1:Ending->O->Prop)
  (hQ:∀ e y,AX c g (.agg #[Z H 0,Z H 0,Z H 0,Z H 0,Z H 0,Z H 0,Z H 0,Z H 0,Z H 0,Z H 0,Z H 0,Z H 0,Z H 0,Z H 0,Z H 0,Z H 0,Z H 0,Z H 0,Z H 0,Z H 0]) Ch i0 (G*F) w (dK m d) e y->b1 e y) :
  Calls Q 151 #[fJ g n,.func (.func jf) #[] c1] w b1:=by
 have HQ:=ae hQ;clear hQ;have p1:=mK Q;have r1:¬ ((n:Int)<4):=by omega
 have u1:¬ ((n:Int) > 3840):=by omega
 have Hj:=ae hj;unfold fJ
 go_enter_defers func151,ntmps151
 have H3:=((h.alloc (Y #[X (U ⟨g,0,V⟩),Z H (n:Int)] 83 (0,0))).alloc (Y #[Z H 0,Z H 0,Z H 0,Z H 0,Z H 0,Z H 0,Z H 0,Z H 0,Z H 0,Z H 0,Z H 0,Z H 0,Z H 0,Z H 0,Z H 0,Z H 0,Z H 0,Z H 0,Z H 0,Z H 0] 73 (0,0))).alloc (Y #[Z H 0] 28 (0,0));have D3:=(((aj.refl w).alloc (Y #[X (U ⟨g,0,V⟩),Z H (n:Int)] 83 (0,0))).alloc (Y #[Z H 0,Z H 0,Z H 0,Z H 0,Z H 0,Z H 0,Z H 0,Z H 0,Z H 0,Z H 0,Z H 0,Z H 0,Z H 0,Z H 0,Z H 0,Z H 0,Z H 0,Z H 0,Z H 0,Z H 0] 73 (0,0))).alloc (Y #[Z H 0] 28 (0,0));simp only [K3] at H3
 go_wp2_with fail
 generalize ((w.alloc (Y #[X (U ⟨g,0,V⟩),Z H (n:Int)] 83 (0,0))).alloc (Y #[Z H 0,Z H 0,Z H 0,Z H 0,Z H 0,Z H 0,Z H 0,Z H 0,Z H 0,Z H 0,Z H 0,Z H 0,Z H 0,Z H 0,Z H 0,Z H 0,Z H 0,Z H 0,Z H 0,Z H 0] 73 (0,0))).alloc (Y #[Z H 0] 28 (0,0))=w3 at H3 D3 ⊢;clear h;generalize w.heap.size+1+1=r at *;generalize w.heap.size+1=o at *;generalize w.heap.size=q at *;have s0:w3.cell? ⟨q,0,V⟩=U (X (U ⟨g,0,V⟩)):=H3.au.cell 0;have s1:w3.cell? ⟨q,1,V⟩=U (Z H (n:Int)):=H3.au.cell 1;have x:ag w3 (aA 176 5 i0 g c.rd d.err d.W d.D*(ak i0*(c.RI d.s*(pt r (Y #[Z H 0] 28 (0,0))*(pt o (Y #[Z H 0,Z H 0,Z H 0,Z H 0,Z H 0,Z H 0,Z H 0,Z H 0,Z H 0,Z H 0,Z H 0,Z H 0,Z H 0,Z H 0,Z H 0,Z H 0,Z H 0,Z H 0,Z H 0,Z H 0] 73 (0,0))*(pt q (Y #[X (U ⟨g,0,V⟩),Z H (n:Int)] 83 (0,0))*(G*F))))))):=H3.to (by unfold cE;ac_rfl);have i1:=nI w3.drew i0 g c.rd d.err d.W d.D _ x.drew ⟨_,_,rfl⟩;have a1:=ae i1;clear i1
 go_region_held3 (fun y=>y.cell? ⟨q,0,V⟩=U (X (U ⟨g,0,V⟩))/\y.cell? ⟨q,1,V⟩=U (Z H (n:Int)))
  (first|exact ⟨s0,s1⟩|exact f0|go_keep)
  (first|(go_at_call 135;refine (a1.out).mono ?_;rintro e w4 ⟨C,f,K0,rfl,h4,d4⟩;have f0:w4.cell? ⟨q,0,V⟩=U (X (U ⟨g,0,V⟩))/\w4.cell? ⟨q,1,V⟩=U (Z H (n:Int)):=⟨h4.bV.cell 0,h4.bV.cell 1⟩))
 have D5:=(D3.drew.trans d4).alloc (Y #[X (U ⟨f,0,V⟩),Z H (n:Int),R V 0 0,J N] 149 (0,0));have H5:=h4.alloc (Y #[X (U ⟨f,0,V⟩),Z H (n:Int),R V 0 0,J N] 149 (0,0))
 have Y0:ag (w4.alloc (Y #[X (U ⟨f,0,V⟩),Z H (n:Int),R V 0 0,J N] 149 (0,0))) (aE (⟨c,n,w4.heap.size,f⟩:Wk σ) C ⟨d,V,N⟩*(ak C*(G*(aA 176 5 C g c.rd d.err d.W d.D*(pt r (Y #[Z H 0] 28 (0,0))*(pt o (Y #[Z H 0,Z H 0,Z H 0,Z H 0,Z H 0,Z H 0,Z H 0,Z H 0,Z H 0,Z H 0,Z H 0,Z H 0,Z H 0,Z H 0,Z H 0,Z H 0,Z H 0,Z H 0,Z H 0,Z H 0] 73 (0,0))*(pt q (Y #[X (U ⟨g,0,V⟩),Z H (n:Int)] 83 (0,0))*F))))))):=
  tT (H5.to (by ac_rfl))
 have L0:=Hj.out ⟨c,n,w4.heap.size,f⟩ _ C ⟨d,V,N⟩ _ rfl rfl Y0;rename_i r0;clear s0 s1 x a1 f0 r0 D3 d4 h4 H5 Y0 Hj hj H3;generalize w4.alloc (Y #[X (U ⟨f,0,V⟩),Z H (n:Int),R V 0 0,J N] 149 (0,0))=w5 at *;generalize w4.heap.size=k at *;obtain ⟨⟨R0,j⟩,hp⟩:∃ p,m ⟨d,V,N⟩=p:=⟨_,rfl⟩
 rw [hp] at L0
 cases R0 with
 | bad cN=>
  have HE:=ae (kZ hp);clear hp
  go_wp2_with fail
  (with_reducible refine L0.mono ?_)
  rintro e w6 ⟨z,e0,d6,rfl,h6⟩;have h7:=ub h6
  have A:ag w6 (c.RI j.b.s*(aA 176 5 C g c.rd d.err d.W d.D*(pt r (Y #[Z H 0] 28 (0,0))*(pt o (Y #[Z H 0,Z H 0,Z H 0,Z H 0,Z H 0,Z H 0,Z H 0,Z H 0,Z H 0,Z H 0,Z H 0,Z H 0,Z H 0,Z H 0,Z H 0,Z H 0,Z H 0,Z H 0,Z H 0,Z H 0] 73 (0,0))*(ak z*(G*F)))))):=
   (h7.to (by ac_rfl:_=pt q (Y #[X (U ⟨g,0,V⟩),Z H (n:Int)] 83 (0,0))*(c.RI j.b.s*(aA 176 5 C g c.rd d.err d.W d.D*(pt r (Y #[Z H 0] 28 (0,0))*(pt o (Y #[Z H 0,Z H 0,Z H 0,Z H 0,Z H 0,Z H 0,Z H 0,Z H 0,Z H 0,Z H 0,Z H 0,Z H 0,Z H 0,Z H 0,Z H 0,Z H 0,Z H 0,Z H 0,Z H 0,Z H 0] 73 (0,0))*(ak z*(G*F)))))))).right
  have x:=ns e0 A;have v:ag w6 (pt o (Y #[Z H 0,Z H 0,Z H 0,Z H 0,Z H 0,Z H 0,Z H 0,Z H 0,Z H 0,Z H 0,Z H 0,Z H 0,Z H 0,Z H 0,Z H 0,Z H 0,Z H 0,Z H 0,Z H 0,Z H 0] 73 (0,0))*(pt r (Y #[Z H 0] 28 (0,0))*(cE c z g { d with s:=j.b.s }*(ak z*(G*F))))):=x.to (by ac_rfl)
  go_wp2_with fail
  exact xG rfl rfl v rfl fun y S h0=>HQ.out _ _ (by rw [HE.out];exact ⟨z,K0.trans e0,(D5.trans d6).trans h0,rfl,S⟩)
 | ok a=>
  go_wp2_with fail
  (with_reducible refine L0.mono ?_)
  rintro e w6 ⟨z,v6,e0,d6,rfl,h6⟩;obtain ⟨⟨rfl,W0⟩,h7⟩:=ag.aq.1 h6;have e1:a.v = .agg (ints a.l):=rfl;have hX:(ints a.l).size=20:=by rw [dM,Nd.cells W0]
  have k1:(ints a.l).all (·.oneCell')=L:=by simp [ints,Y3]
  have h1:∀ w (V0:ai),ag w V0->ag w (Ch a (.agg (ints a.l))*V0):=fun w V0 h=>ag.aq.2 ⟨⟨rfl,W0⟩,h⟩;rw [e1];clear W0 h6 e1;generalize ints a.l=i at *;have j1:(prog.info? 73).map (·.size)=U i.size:=by rw [hX];exact bC
  have g0:=ae j1;have p0:=ae k1;have HX:=ae hX;have Z0:=ae h1;clear j1 k1 hX h1;obtain ⟨E,A⟩:=ag.ft h7;clear L0 h7;have x:ag w6 (pt o (Y #[Z H 0,Z H 0,Z H 0,Z H 0,Z H 0,Z H 0,Z H 0,Z H 0,Z H 0,Z H 0,Z H 0,Z H 0,Z H 0,Z H 0,Z H 0,Z H 0,Z H 0,Z H 0,Z H 0,Z H 0] 73 (0,0))*(pt r (Y #[Z H 0] 28 (0,0))*(pt q (Y #[X (U ⟨g,0,V⟩),Z H (n:Int)] 83 (0,0))*(pt k (Y #[X (U ⟨f,0,V⟩),Z H (n:Int),E,J j.dt] 149 (0,0))*(cE c z f j.b*(cu j.bits E*(ak z*(aA 176 5 C g c.rd d.err d.W d.D*(G*F))))))))):=A.to (by unfold bD Wk.cells;ac_rfl);have T0:=ae x.heap;have v:=x.setRow (cs':=i);have D0:=(D5.trans d6).setRow o i;have k3:(w6.setRow o i).cell? ⟨k,3,V⟩=U (J j.dt):=v.aC.cell 3;clear A x D5 d6
  cases b0:j.dt with
  | false=>
   have HE:=ae (oB hp b0);rw [b0] at k3 v;clear hp b0
   go_wp2_with (refine wpList_store_row (by exact rfl) 73 (.tmp 4) (.tmp 31) (by exact rfl) o i (by exact rfl) (by exact rfl) 73 _ (by with_reducible exact T0.out) g0.out (by rw [HX.out];rfl) p0.out ?_)
   generalize w6.setRow o i=w7 at *;have u0:ag w7 (aA 176 5 C g c.rd d.err d.W d.D*(aA 176 5 z f c.rd j.b.err j.b.W j.b.D*(ak z*(c.RI j.b.s*(pt o (Y i 73 (0,0))*(pt r (Y #[Z H 0] 28 (0,0))*(pt q (Y #[X (U ⟨g,0,V⟩),Z H (n:Int)] 83 (0,0))*(pt k (Y #[X (U ⟨f,0,V⟩),Z H (n:Int),E,J N] 149 (0,0))*(cu j.bits E*(G*F)))))))))):=v.to (by unfold cE;ac_rfl);have d0:=u0.fw (dG e0);have s0:w7.cell? ⟨q,0,V⟩=U (X (U ⟨g,0,V⟩)):=d0.bV.cell 0;have k0:w7.cell? ⟨k,0,V⟩=U (X (U ⟨f,0,V⟩)):=d0.et.cell 0;have x0:=ae (iv w7.drew z g f c.rd c.rd j.b.err d.err j.b.W j.b.D d.W d.D _ d0.drew ⟨_,_,rfl⟩);clear u0 d0 v
   go_region_held3 (fun y=>y.cell? ⟨q,0,V⟩=U (X (U ⟨g,0,V⟩))/\y.cell? ⟨k,0,V⟩=U (X (U ⟨f,0,V⟩)))
    (first|exact ⟨s0,k0⟩|exact f0|go_keep)
    (first|(go_at_call 138;refine (x0.out).mono ?_;rintro e B ⟨u,l0,rfl,A,P⟩;have f0:B.cell? ⟨q,0,V⟩=U (X (U ⟨g,0,V⟩))/\B.cell? ⟨k,0,V⟩=U (X (U ⟨f,0,V⟩)):=⟨A.bV.cell 0,A.et.cell 0⟩))
   all_goals
    rename_i r0;have x:ag B (pt o (Y i 73 (0,0))*(pt r (Y #[Z H 0] 28 (0,0))*((cE c u g j.b*(ak u*(G*F)))*(pt q (Y #[X (U ⟨g,0,V⟩),Z H (n:Int)] 83 (0,0))*(pt k (Y #[X (U ⟨f,0,V⟩),Z H (n:Int),E,J N] 149 (0,0))*(aA 176 5 u f c.rd j.b.err j.b.W j.b.D*cu j.bits E)))))):=A.to (by unfold cE;ac_rfl);have q0:=ae x.heap;have c0:=x.setRow (cs':=i);have e9:(B.setRow o i).cell? ⟨r,0,V⟩=U (Z H 0):=c0.ah.cell 0;have g9:(B.setRow o i).frozen? ⟨r,0,V⟩=N:=c0.ah.frozen 0;have v:=((c0.ah.setCell 0 (Z H 0)).ah)
    have D9:=(((D0).drew.trans P).setRow o i).setCell ⟨r,0,V⟩ (Z H 0);have HD:=ae D9;have S0:=ae v;clear x0 s0 k0 f0 A x c0 v D9 r0 P
    go_wp2_with (first|(refine wpList_load_row (by exact rfl) 73 (.tmp 4) (by exact rfl) o (by exact rfl) 73 i (0,0) _ (by with_reducible exact q0.out) underlying73 rfl g0.out ?_)|(refine wpList_store_row (by exact rfl) 73 (.tmp 4) (.tmp 49) (by exact rfl) o i (by exact rfl) (by exact rfl) 73 i (by with_reducible exact q0.out) g0.out rfl p0.out ?_))
    exact xk rfl rfl S0.out HX.out fun y S h0=>HQ.out _ _ (by rw [HE.out];exact ⟨u,_,K0.trans (e0.trans l0),HD.out.trans h0,rfl,Z0.out _ _ ((S.left).to (by ac_rfl))⟩)
  | true=>
   have n0:=fun st'=>qo (st':=st') hp b0;have o0:=fun st' c=>tR (st':=st') (c:=c) hp b0;have n0:=ae n0;have o0:=ae o0;rw [b0] at k3 v;have k2:(w6.setRow o i).cell? ⟨k,2,V⟩=U E:=v.aC.cell 2;have X0:Rd (w6.setRow o i) E (j.bits.getD []):=zw v.dI
   have S:ag (w6.setRow o i) (bD (⟨c,n,k,f⟩:Wk σ) E z j*(ak z*(pt o (Y i 73 (0,0))*(pt r (Y #[Z H 0] 28 (0,0))*(pt q (Y #[X (U ⟨g,0,V⟩),Z H (n:Int)] 83 (0,0))*(cu j.bits E*(aA 176 5 C g c.rd d.err d.W d.D*(G*F)))))))):=
    v.to (by unfold bD Wk.cells;rw [b0];ac_rfl)
   have N0:=jS (⟨c,n,k,f⟩:Wk σ) _ E z j 0 E (j.bits.getD []) _ S X0
   obtain ⟨va,vl,vc,rfl⟩:∃ a l c,E = R a l c:=by
    obtain ⟨a,c,e⟩:=X0.shape;exact ⟨_,_,_,e⟩
   have f1:∀ st' R0,bL 0 (j.bits.getD []) j=(R0,st')->st'.dt=L:=fun st' R0 h=>by
    unfold bL at h
    split at h
    .simp only [Prod.mk.injEq] at h;rw [<- h.2];exact b0
    .simp only [Prod.mk.injEq] at h;rw [<- h.2];exact b0
   obtain ⟨⟨r2,t⟩,m0⟩:∃ p,bL 0 (j.bits.getD []) j=p:=⟨_,rfl⟩
   rw [m0] at N0;have g1:=f1 _ _ m0;have m1:=ae g1;clear hp b0 S X0 f1 g1
   cases r2 with
   | bad cN=>
    have HE:=ae (o0.out _ _ m0);clear m0 n0 o0
    go_wp2_with (refine wpList_store_row (by exact rfl) 73 (.tmp 4) (.tmp 31) (by exact rfl) o i (by exact rfl) (by exact rfl) 73 _ (by with_reducible exact T0.out) g0.out (by rw [HX.out];rfl) p0.out ?_)
    (with_reducible refine N0.mono ?_)
    rintro e B ⟨u,l0,P,rfl,F0⟩
    have G0:ag B (c.RI t.b.s*(aA 176 5 C g c.rd d.err d.W d.D*(pt o (Y i 73 (0,0))*(pt r (Y #[Z H 0] 28 (0,0))*(ak u*(G*F)))))):=
     (F0.to (by unfold bD cE;ac_rfl:_=(pt k (Y ((⟨c,n,k,f⟩:Wk σ).cells (R va vl vc) t.dt) 149 (0,0))*(aA 176 5 u f c.rd t.b.err t.b.W t.b.D*(pt q (Y #[X (U ⟨g,0,V⟩),Z H (n:Int)] 83 (0,0))*cu j.bits (R va vl vc))))*(c.RI t.b.s*(aA 176 5 C g c.rd d.err d.W d.D*(pt o (Y i 73 (0,0))*(pt r (Y #[Z H 0] 28 (0,0))*(ak u*(G*F)))))))).right
    have H0:=ns (e0.trans l0) G0;have n1:ag B (pt o (Y i 73 (0,0))*(pt r (Y #[Z H 0] 28 (0,0))*(cE c u g { d with s:=t.b.s }*(ak u*(G*F))))):=H0.to (by ac_rfl)
    go_wp2_with fail
    exact xG rfl rfl n1 HX.out fun y S h0=>HQ.out _ _ (by rw [HE.out];exact ⟨u,K0.trans (e0.trans l0),(D0.trans P).trans h0,rfl,S⟩)
   | ok v1=>
    have HE:=ae (n0.out _ m0);clear m0 n0 o0
    go_wp2_with (refine wpList_store_row (by exact rfl) 73 (.tmp 4) (.tmp 31) (by exact rfl) o i (by exact rfl) (by exact rfl) 73 _ (by with_reducible exact T0.out) g0.out (by rw [HX.out];rfl) p0.out ?_)
    (with_reducible refine N0.mono ?_)
    rintro e w7 ⟨u,v8,l0,P,rfl,F0⟩;obtain ⟨rfl,G0⟩:=ag.aq.1 F0;have H0:ag w7 (pt o (Y i 73 (0,0))*(pt r (Y #[Z H 0] 28 (0,0))*(pt q (Y #[X (U ⟨g,0,V⟩),Z H (n:Int)] 83 (0,0))*(pt k (Y #[X (U ⟨f,0,V⟩),Z H (n:Int),(R va vl vc),J L] 149 (0,0))*(cE c u f t.b*(cu j.bits (R va vl vc)*(ak u*(aA 176 5 C g c.rd d.err d.W d.D*(G*F))))))))):=G0.to (by unfold bD Wk.cells;rw [m1.out];ac_rfl);have l1:=D0.trans P;have d1:=e0.trans l0;clear N0 F0 G0 D0 P v k2 k3
    go_wp2_with fail
    have u0:ag w7 (aA 176 5 C g c.rd d.err d.W d.D*(aA 176 5 u f c.rd t.b.err t.b.W t.b.D*(ak u*(c.RI t.b.s*(pt o (Y i 73 (0,0))*(pt r (Y #[Z H 0] 28 (0,0))*(pt q (Y #[X (U ⟨g,0,V⟩),Z H (n:Int)] 83 (0,0))*(pt k (Y #[X (U ⟨f,0,V⟩),Z H (n:Int),(R va vl vc),J L] 149 (0,0))*(cu j.bits (R va vl vc)*(G*F)))))))))):=H0.to (by unfold cE;ac_rfl);have d0:=u0.fw (dG d1);have s0:w7.cell? ⟨q,0,V⟩=U (X (U ⟨g,0,V⟩)):=d0.bV.cell 0;have k0:w7.cell? ⟨k,0,V⟩=U (X (U ⟨f,0,V⟩)):=d0.et.cell 0;have x0:=ae (iv w7.drew u g f c.rd c.rd t.b.err d.err t.b.W t.b.D d.W d.D _ d0.drew ⟨_,_,rfl⟩);clear u0 d0 H0
    go_region_held3 (fun y=>y.cell? ⟨q,0,V⟩=U (X (U ⟨g,0,V⟩))/\y.cell? ⟨k,0,V⟩=U (X (U ⟨f,0,V⟩)))
     (first|exact ⟨s0,k0⟩|exact f0|go_keep)
     (first|(go_at_call 138;refine (x0.out).mono ?_;rintro e B ⟨S5,o1,rfl,A,P⟩;have f0:B.cell? ⟨q,0,V⟩=U (X (U ⟨g,0,V⟩))/\B.cell? ⟨k,0,V⟩=U (X (U ⟨f,0,V⟩)):=⟨A.bV.cell 0,A.et.cell 0⟩))
    all_goals
     rename_i r0;have x:ag B (pt o (Y i 73 (0,0))*(pt r (Y #[Z H 0] 28 (0,0))*((cE c S5 g t.b*(ak S5*(G*F)))*(pt q (Y #[X (U ⟨g,0,V⟩),Z H (n:Int)] 83 (0,0))*(pt k (Y #[X (U ⟨f,0,V⟩),Z H (n:Int),(R va vl vc),J L] 149 (0,0))*(aA 176 5 S5 f c.rd t.b.err t.b.W t.b.D*cu j.bits (R va vl vc))))))):=A.to (by unfold cE;ac_rfl);have q0:=ae x.heap;have c0:=x.setRow (cs':=i);have e9:(B.setRow o i).cell? ⟨r,0,V⟩=U (Z H 0):=c0.ah.cell 0;have g9:(B.setRow o i).frozen? ⟨r,0,V⟩=N:=c0.ah.frozen 0;have v:=((c0.ah.setCell 0 (Z H 0)).ah)
     have D9:=(((l1).drew.trans P).setRow o i).setCell ⟨r,0,V⟩ (Z H 0);have HD:=ae D9;have S0:=ae v;clear x0 s0 k0 f0 A x c0 v D9 r0 P
     go_wp2_with (first|(refine wpList_load_row (by exact rfl) 73 (.tmp 4) (by exact rfl) o (by exact rfl) 73 i (0,0) _ (by with_reducible exact q0.out) underlying73 rfl g0.out ?_)|(refine wpList_store_row (by exact rfl) 73 (.tmp 4) (.tmp 49) (by exact rfl) o i (by exact rfl) (by exact rfl) 73 i (by with_reducible exact q0.out) g0.out rfl p0.out ?_))
     exact xk rfl rfl S0.out HX.out fun y S h0=>HQ.out _ _ (by rw [HE.out];exact ⟨S5,_,K0.trans (d1.trans o1),HD.out.trans h0,rfl,Z0.out _ _ ((S.left).to (by ac_rfl))⟩)
end
end Go.Proofs.Fs
namespace Go.SL
open Go.RowKit
def Rs.code {α:Type}:Rs α->Int
 | .ok _=>0
 | .bad c=>c
end Go.SL
namespace Go.Proofs.Fs
open Go.RowKit Go.SL Go.Proofs.Ba
section
variable {σ α:Type}
theorem wL {w:O} {d:Array M} {a:Nat} {F:ai} (e:d[3]?=U (ay a)) (f:ag w (pt a (Y #[] 202 (0,0))*F)) :
  (results Tryz.f140 d).run Q w = .ok (.agg #[]) w:=by
 have g:=run_loadVar_row (P:=Q) w a 202 202 #[] (0,0) _ f.heap underlying202 rfl dP;simp [results,Tryz.results140,e,asAddr,g]
def Nq (e:Nat) (f:FuncId) (d:Array M):ai:=pt e (Y #[.func (.func f) #[] d] 139 (0,0))
theorem GD {c:Cx σ} {n:Nat} {d:FuncId} {g:Array M} {G:ai} {m:WM σ Unit} (mS:∀ (args:Array M) (w:O),(callFunc d args).run Q w = .ok (.enter d args) w)
  (P:Cn c n d g ji G m) (e:Nat):Cn c n 140 #[X (U ⟨e,0,V⟩)] Nh (Nq e d g*G) m:=by
 intro x w S st F b0 c0 h;have i:=fun w F h=>P x w S st F b0 c0 h;have u:=ae i;have C:=h.alloc (Y #[] 202 (0,0));have z:=(aj.refl w).alloc (Y #[] 202 (0,0));clear P h i b0 c0;show Calls Q 140 #[X (U ⟨x.k,0,V⟩),X (U ⟨e,0,V⟩)] w _
 go_enter func140,ntmps140
 have q:ag (w.alloc (Y #[] 202 (0,0))) (Nq e d g*(pt w.heap.size (Y #[] 202 (0,0))*(aE x S st*(ak S*(G*F))))):=C.to (by ac_rfl);have cj:(w.alloc (Y #[] 202 (0,0))).cell? ⟨e,0,V⟩=U (.func (.func d) #[] g):=q.cell 0;have E:ag (w.alloc (Y #[] 202 (0,0))) (aE x S st*(ak S*(G*(Nq e d g*(pt w.heap.size (Y #[] 202 (0,0))*F))))):=q.to (by ac_rfl);have i:=u.out _ _ E;clear u C q E;obtain ⟨⟨e0,y⟩,hp⟩:∃ p,m st=p:=⟨_,rfl⟩
 rw [hp] at i ⊢;clear hp
 cases e0 with
 | bad cN=>
  go_wp2_with fail
  generalize w.alloc (Y #[] 202 (0,0))=w1 at *;generalize w.heap.size=l at *
  (with_reducible refine i.mono ?_)
  rintro d0 w2 ⟨f,r,o,rfl,j⟩
  go_wp2_with fail
  exact ⟨rfl,f,r,z.trans o,rfl,(j.to (by ac_rfl:_=pt l (Y #[] 202 (0,0))*(aE x f y*(ak f*(Nq e d g*G*F))))).right⟩
 | ok g0=>
  go_wp2_with fail
  generalize w.alloc (Y #[] 202 (0,0))=w1 at *;generalize w.heap.size=l at *
  (with_reducible refine i.mono ?_)
  rintro d0 w2 ⟨f,v,r,o,rfl,j⟩;obtain ⟨rfl,A⟩:=ag.aq.1 j;have B:ag w2 (pt l (Y #[] 202 (0,0))*(aE x f y*(ak f*(Nq e d g*G*F)))):=A.to (by ac_rfl);have t:=ae B;clear j A B i cj
  go_wp2_with (refine wpList_store_mid (by exact rfl) 202 (.tmp 3) (.tmp 7) (by exact rfl) l 0 #[] (by exact rfl) (by exact rfl) (by exact fun f0 h=>absurd h (N2 _)) (by exact dP) (by exact rfl) ?_)
  exact bodyPost_ret (wL rfl t.out) rfl ⟨f,_,r,z.trans o,rfl,ag.aq.2 ⟨rfl,t.out.right⟩⟩
def JQ (c:Cx σ) (g:Nat) (S:Hp) (F:ai) (w:O) (p:Rs Unit × gD σ) (e:Ending) (f:O):Prop:=
 ∃ d,Ext S d/\aj w f/\e = K (Z H p.1.code)/\ag f (cE c d g p.2*(ak d*F))
theorem uH (c:Cx σ) (hc:c.Ok) (n:Nat) (e0:4<=n) (f0:n<=3840) (f:FuncId) (g:Array M) (G:ai) (m:WM σ Unit)
  (mS:∀ (args:Array M) (w:O),(callFunc f args).run Q w = .ok (.enter f args) w) (hj:Cn c n f g ji G m)
  (d:Nat) (o:gD σ) (w:O) (S:Hp) (F:ai) (h:ag w (cE c S d o*(ak S*(G*F)))) (u:Ending->O->Prop)
  (hQ:∀ e i,JQ c d S (G*F) w (dK m o) e i->u e i) :
  Calls Q 80 #[fJ d n,.func (.func f) #[] g] w u:=by
 have h0:=mK Q;have P:=ae hQ;have c0:=fun l w F h=>Lo c hc n e0 f0 140 #[X (U ⟨l,0,V⟩)] (Nq l f g*G) m (fun args w=>enters func140 (by kernel_rfl) rfl args w) (GD mS hj l) d o w S F h;have b0:=ae c0;have y:=(h.alloc (Y #[X (U ⟨d,0,V⟩),Z H (n:Int)] 83 (0,0))).alloc (Y #[.func (.func f) #[] g] 139 (0,0));have dA:=((aj.refl w).alloc (Y #[X (U ⟨d,0,V⟩),Z H (n:Int)] 83 (0,0))).alloc (Y #[.func (.func f) #[] g] 139 (0,0));simp only [K3] at y;clear hQ c0 hj h mS;unfold fJ
 go_enter func80,ntmps80
 go_wp2_with fail
 have hB:ag ((w.alloc (Y #[X (U ⟨d,0,V⟩),Z H (n:Int)] 83 (0,0))).alloc (Y #[.func (.func f) #[] g] 139 (0,0)))
   (cE c S d o*(ak S*(Nq (w.heap.size+1) f g*G*(pt w.heap.size (Y #[X (U ⟨d,0,V⟩),Z H (n:Int)] 83 (0,0))*F)))):=y.to (by unfold Nq;ac_rfl)
 refine b0.out (w.heap.size+1) _ _ hB _ ?_;clear y hB b0;generalize (w.alloc (Y #[X (U ⟨d,0,V⟩),Z H (n:Int)] 83 (0,0))).alloc (Y #[.func (.func f) #[] g] 139 (0,0))=w1 at *;generalize w.heap.size+1=l at *;generalize w.heap.size=sp at *;have C:=ae (fun e i=>P.out e i);clear P;obtain ⟨⟨d0,t⟩,A⟩:∃ p,dK m o=p:=⟨_,rfl⟩
 rw [A];have E:RowKit.Hid (∀ e i,JQ c d S (G*F) w (d0,t) e i->u e i):=fun e i h=>C.out e i (by rw [A];exact h);clear C A
 cases d0 with
 | bad cN=>
  rintro e B ⟨j,z,x,rfl,q⟩;have r:=ae (q.to (by ac_rfl:_=(cE c j d t*(ak j*(G*F)))*(Nq l f g*pt sp (Y #[X (U ⟨d,0,V⟩),Z H (n:Int)] 83 (0,0)))));clear q
  go_wp2_with (refine wpList_store_mid (by exact rfl) 202 (.tmp 5) (.tmp 11) (by exact rfl) B.heap.size 0 #[] (by exact rfl) (by exact rfl) (by exact fun g0 h=>absurd h (N2 _)) (by exact dP) (by exact rfl) ?_)
  exact E.out _ _ ⟨j,z,(dA.trans x).alloc _,rfl,(r.out.alloc _).right.left⟩
 | ok i0=>
  rintro e B ⟨j,v,z,x,rfl,q⟩;obtain ⟨rfl,h3⟩:=ag.aq.1 q;have r:=ae (h3.to (by ac_rfl:_=(cE c j d t*(ak j*(G*F)))*(Nq l f g*pt sp (Y #[X (U ⟨d,0,V⟩),Z H (n:Int)] 83 (0,0)))));clear q h3
  go_wp2_with (refine wpList_store_mid (by exact rfl) 202 (.tmp 5) (.tmp 11) (by exact rfl) B.heap.size 0 #[] (by exact rfl) (by exact rfl) (by exact fun g0 h=>absurd h (N2 _)) (by exact dP) (by exact rfl) ?_)
  exact E.out _ _ ⟨j,z,(dA.trans x).alloc _,rfl,(r.out.alloc _).right.left⟩
end
end Go.Proofs.Fs
namespace Go.SL
open Go.RowKit
section
variable {σ:Type}
def dh (id:Nat) (d:Int):Hd:=⟨id,⟨d,1,0,J2 16 0,0⟩,J2 240 0⟩
def EJ (d:Int) (id:Nat):WM σ Nat:=WM.bind (dQ (dh id d)) fun _=>WM.pure id
def wW (ask:cI σ) (n:Nat) (d:Int):WM σ Nat:=fun st=>if d=1\/d=2 then (WM.bind (iG ask n) (EJ d)) st else (.bad 1,st)
end
end Go.SL
namespace Go.Proofs.Fs
open Go.RowKit Go.SL Go.Proofs.Ba
section
variable {σ α:Type}
def bg (b:Nat) (z:Int):ai:=pt b (Y #[Z H z] 3 (0,0))
theorem od (id:Nat) (d:Int):(dh id d).fit:=⟨rfl,rfl⟩
theorem N8 {c:Cx σ} (hc:c.Ok) {n:Nat} (hn:n<=3840) (d:Int) (f:Nat):Cn c n 121 #[X (U ⟨f,0,V⟩)] CC (bg f d) (wW c.ask n d):=by
 intro x w S st F q0 r0 h;subst q0 r0;have ck:w.cell? ⟨f,0,V⟩=U (Z H d):=(h.to (by ac_rfl:_=bg f d*(aE x S st*(ak S*F)))).cell 0;show Calls Q 121 #[X (U ⟨x.k,0,V⟩),X (U ⟨f,0,V⟩)] w _
 by_cases z:d=1\/d=2
 .have C:=nT x hc hn w S st _ h
  have y:wW x.c.ask x.n d st=(WM.bind (iG x.c.ask x.n) (EJ d)) st:=if_pos z;rw [y];obtain ⟨⟨r,t⟩,i⟩:∃ p,iG x.c.ask x.n st=p:=⟨_,rfl⟩
  rw [i] at C;clear y h
  cases r with
  | bad cN=>
   rw [WM.bf i];clear i;rcases z with rfl|rfl
   all_goals
    go_enter func121,ntmps121
    go_wp2_with fail
    (with_reducible refine (gB w).mono ?_)
    rintro e g ⟨rfl,rfl⟩
    go_wp2_with fail
    (with_reducible refine C.mono ?_)
    rintro e g ⟨j,A,E,rfl,u⟩
    go_wp2_with fail
    exact ⟨rfl,j,A,E,rfl,u⟩
  | ok id=>
   rw [WM.aX i];clear i;have B:=po (id:Int) (dh id d).n (od id d).1;have m0:=ae B;obtain ⟨q,b0⟩:∃ o0,o0=ints ((id:Int) :: ((dh id d).n.l++J2 240 0)):=⟨_,rfl⟩
   rw [<- b0] at B;have h0:q=ints (dh id d).l:=b0;have l0:=ae h0;clear m0 b0 h0
   have i0:∀ p,dQ (dh id d) t=p->∀ r o,p=(r,o)->EJ d id t=(match r with | .ok _=>.ok id | .bad c=>.bad c,o):=by
    intro p i r o he;subst he
    cases r with
    | ok s0=>exact WM.aX i
    | bad c=>exact WM.bf i
   obtain ⟨⟨r2,o⟩,d0⟩:∃ p,dQ (dh id d) t=p:=⟨_,rfl⟩
   have g0:=i0 _ d0 r2 o rfl;rw [g0];have e0:=fun w S hb F h p0 hQ=>Bz x w S t hb (dh id d) F h p0 hQ;rw [d0] at e0;have f0:=ae e0;have k0:=od id d;have n0:=ae k0;clear i0 g0 d0 e0 k0;rcases z with rfl|rfl
   all_goals
    have Hb:=ae B;clear B
    go_enter func121,ntmps121
    go_wp2_with fail
    (with_reducible refine (gB w).mono ?_)
    rintro e g ⟨rfl,rfl⟩
    go_wp2_with fail
    (with_reducible refine C.mono ?_)
    rintro e g ⟨j,v,A,E,rfl,u⟩;obtain ⟨rfl,P⟩:=ag.aq.1 u;have u0:g.cell? ⟨f,0,V⟩=U _:=(P.to (by ac_rfl:_=bg f _*(aE x j t*(ak j*F)))).cell 0;clear ck;have h4:=P.alloc (Y q 137 (0,0));have h5:ag (g.alloc (Y q 137 (0,0))) (aO g.heap.size (dh id _)*(aE x j t*(ak j*(bg f _*F)))):=ag.held.2 ⟨n0.out,by rw [l0.out] at h4 ⊢;exact h4⟩;have D5:=E.alloc (Y q 137 (0,0));have H5:=ae h5;clear u P h4 h5 C
    go_wp2_with (refine gG (by exact rfl) 137 #[(0,.tmp 15),(1,.tmp 17)] (by exact rfl) _ (by exact rfl) q (by exact Hb.out) ?_)
    refine f0.out _ j _ _ H5.out _ ?_;clear H5 f0;generalize g.alloc (Y q 137 (0,0))=w3 at *
    cases r2 with
    | bad cN=>
     rintro e w4 ⟨l,c0,G,rfl,h6⟩
     go_wp2_with fail
     exact ⟨rfl,l,A.trans c0,D5.trans G,rfl,(h6.to (by ac_rfl:_=aO g.heap.size (dh id _)*(aE x l o*(ak l*(bg f _*F))))).right⟩
    | ok s0=>
     rintro e w4 ⟨l,v4,c0,G,rfl,h6⟩;obtain ⟨rfl,h7⟩:=ag.aq.1 h6
     go_wp2_with fail
     go_ret
     exact ⟨l,_,A.trans c0,D5.trans G,rfl,ag.aq.2 ⟨rfl,(h7.to (by ac_rfl:_=aO g.heap.size (dh id _)*(aE x l o*(ak l*(bg f _*F))))).right⟩⟩
 .have y:wW x.c.ask x.n d st=(.bad 1,st):=if_neg z
  rw [y];have h1:(d == 1)=N:=by simp;omega
  have u:(d == 2)=N:=by simp;omega
  clear y z
  go_enter func121,ntmps121
  go_wp2_with fail
  (with_reducible refine (gF w).mono ?_)
  rintro e g ⟨rfl,rfl⟩
  go_wp2_with fail
  exact ⟨rfl,S,Ext.refl S,aj.refl w,rfl,h⟩
end
end Go.Proofs.Fs
namespace Go.SL
open Go.RowKit
section
variable {σ α β:Type}
def Hd.oQ (h:Hd) (z:Int):Hd:={ h with n:={ h.n with lk:=z } }
def tV (h:Hd) (z:Int):WM σ Unit:=fun st=>if 0<=z/\z<=65535 then dQ (h.oQ z) st else (.bad 1,st)
def kL (ask:cI σ) (n:Nat) (node d:Int):WM σ Unit:=WM.bind (fT ask n node) fun h=>tV h (wrap64 (h.n.lk+d))
def re (ask:cI σ) (n:Nat) (node:Int):WM σ Nd:=WM.bind (fT ask n node) fun h=>WM.pure h.n
def oS (ask:cI σ) (n:Nat):WM σ Nat:=WM.bind (jm ask) fun l=>WM.pure (n-(dg l n).length)
theorem Hd.Ia {h:Hd} (d:h.fit) (z:Int):(h.oQ z).fit:=d
end
end Go.SL
namespace Go.Proofs.Fs
open Go.RowKit Go.SL Go.Proofs.Ba
section
variable {σ α:Type}
theorem jL (x:Wk σ) (d:x.c.Ok) (w:O) (S:Hp) (st:eB σ) (id:Int) (F:ai) (h:ag w (aE x S st*(ak S*F))) :
  Calls Q 82 #[X (U ⟨x.k,0,V⟩),Z H id] w (WQ x oZ S F w (fT x.c.ask x.n id st)):=
 vY x d w S st id F h _ fun _ _ h=>h
theorem jC (x:Wk σ) (w:O) (S:Hp) (st:eB σ) (d:Nat) (h:Hd) (F:ai) (hs:ag w (aO d h*(aE x S st*(ak S*F)))) :
  Calls Q 84 #[X (U ⟨x.k,0,V⟩),X (U ⟨d,0,V⟩)] w (WQ x ji S (aO d h*F) w (dQ h st)):=
 Bz x w S st d h F hs _ fun _ _ h=>h
theorem ag.oZ {w:O} {h:Hd} {v:M} {F:ai} (hs:ag w (oZ h v*F)):∃ d,v = X (U ⟨d,0,V⟩)/\ag w (aO d h*F):=by
 obtain ⟨d,e⟩:=ag.aw.1 hs;obtain ⟨f,g⟩:=ag.aq.1 (e.to (ax _ _ _));exact ⟨d,f,g⟩
theorem cU {w:O} {d:Nat} {h:Hd} {F:ai} (hs:ag w (aO d h*F)) {j:Nat} (g:j<261):w.cell? ⟨d,j,V⟩=U (Z H (h.l.getD j 0))/\w.frozen? ⟨d,j,V⟩=N:=by
 obtain ⟨f,e⟩:=ag.held.1 hs;exact ⟨by rw [e.cell,bH (by rw [Hd.uP f];exact g)],e.frozen j⟩
theorem kh {w:O} {d:Nat} {h h':Hd} {F:ai} (hs:ag w (aO d h*F)) {j:Nat} {z:Int} (f:h'.fit) (g:h'.l=h.l.set j z):ag (w.setCell ⟨d,j,V⟩ (Z H z)) (aO d h'*F):=by
 obtain ⟨_,e⟩:=ag.held.1 hs;refine ag.held.2 ⟨f,?_⟩;have:=e.setCell j (Z H z);rw [gC] at this;rw [g];exact this
theorem ag.yM {w:O} {d:Nat} {h:Hd} {F:ai} (hs:ag w (aO d h*F)):h.fit:=(ag.held.1 hs).1
theorem GI {c:Cx σ} (hc:c.Ok) {n:Nat} (node d:Int) (i g:Nat):Cn c n 81 #[X (U ⟨i,0,V⟩),X (U ⟨g,0,V⟩)] ji (bg i node*bg g d) (kL c.ask n node d):=by
 intro x w b0 st F l0 m0 h;subst l0 m0;have cn:w.cell? ⟨i,0,V⟩=U (Z H node):=(h.to (by ac_rfl:_=bg i node*(bg g d*(aE x b0 st*(ak b0*F))))).cell 0;show Calls Q 81 #[X (U ⟨x.k,0,V⟩),X (U ⟨i,0,V⟩),X (U ⟨g,0,V⟩)] w _
 have P:=jL x hc w b0 st node _ h;obtain ⟨⟨o0,o⟩,y⟩:∃ p,fT x.c.ask x.n node st=p:=⟨_,rfl⟩
 rw [y] at P
 cases o0 with
 | bad cN=>
  have u:kL x.c.ask x.n node d st=(.bad cN,o):=WM.bf y;rw [u];clear u y h
  go_enter func81,ntmps81
  go_wp2_with fail
  (with_reducible refine P.mono ?_)
  rintro e w2 ⟨j,r,C,rfl,E⟩
  go_wp2_with fail
  exact ⟨rfl,j,r,C,rfl,E⟩
 | ok f=>
  have u:kL x.c.ask x.n node d st=tV f (wrap64 (f.n.lk+d)) o:=WM.aX y;rw [u];clear u y h;obtain ⟨z,hz⟩:∃ z,wrap64 (f.n.lk+d)=z:=⟨_,rfl⟩
  rw [hz];have h0:f.l.getD 2 0=f.n.lk:=rfl;have Hz:=ae hz;obtain ⟨r2,e0⟩:∃ p,tV f z o=p:=⟨_,rfl⟩
  rw [e0];have B:=ae e0;clear hz e0
  go_enter func81,ntmps81
  go_wp2_with fail
  (with_reducible refine P.mono ?_)
  rintro e w2 ⟨j,v,r,C,rfl,E⟩;obtain ⟨t,rfl,G⟩:=ag.oZ E;have d0:=(cU G (j:=2) (by decide)).1;rw [h0] at d0;have cd:w2.cell? ⟨g,0,V⟩=U (Z H d):=(G.to (by ac_rfl:_=bg g d*(bg i node*(aO t f*(aE x j o*(ak j*F)))))).cell 0;clear P E cn h0
  go_wp2_with fail
  go_region_held3 (fun w'=>w'.cell? ⟨t,2,V⟩=U (Z H f.n.lk)/\w'.cell? ⟨g,0,V⟩=U (Z H d)) (first|exact ⟨d0,cd⟩|go_keep) (fail)
  rename_i k0;have q:=ae G.drew;have D2:=ae C.drew;clear k0 G C d0 cd;rw [show IntKind.i64.wrap (f.n.lk+d)=z from by rw [<- Hz.out,IntKind.wrap_i64];unfold wrap64;omega];generalize w2.drew=w3 at *
  by_cases A:0<=z/\z<=65535
  .have S:dQ (f.oQ z) o=r2:=by rw [<- B.out];exact (if_pos A).symm
   have g2:=(cU q.out (j:=2) (by decide)).1;have f2:=(cU q.out (j:=2) (by decide)).2;have h4:=kh (h':=f.oQ z) q.out (j:=2) (z:=z) (Hd.Ia (ag.yM q.out) z) rfl;have f0:=jC x _ j o t (f.oQ z) _ h4;rw [S] at f0;have g0:=ae f0;have D4:=ae (D2.out.setCell ⟨t,2,V⟩ (Z H z));obtain ⟨z1,z2⟩:=A;clear h4 f0 S B;generalize f.l.getD 2 0=r0 at *;obtain ⟨r3,i0⟩:=r2
   go_wp2_with fail
   (with_reducible refine (gB w3).mono ?_)
   rintro e w4 ⟨rfl,rfl⟩
   cases r3 with
   | bad cN=>
    go_wp2_with fail
    refine g0.out.mono ?_;rintro e w5 ⟨l,c0,d5,rfl,h6⟩
    go_wp2_with fail
    exact ⟨rfl,l,r.trans c0,D4.out.trans d5,rfl,(h6.to (by ac_rfl:_=aO t (f.oQ z)*(aE x l i0*(ak l*(bg i node*bg g d*F))))).right⟩
   | ok q0=>
    go_wp2_with fail
    refine g0.out.mono ?_;rintro e w5 ⟨l,v5,c0,d5,rfl,h6⟩;obtain ⟨rfl,h7⟩:=ag.aq.1 h6
    go_wp2_with fail
    go_end0
    exact ⟨l,_,r.trans c0,D4.out.trans d5,rfl,ag.aq.2 ⟨rfl,(h7.to (by ac_rfl:_=aO t (f.oQ z)*(aE x l i0*(ak l*(bg i node*bg g d*F))))).right⟩⟩
  .have S:r2=(.bad 1,o):=by rw [<- B.out];exact if_neg A
   subst S;clear B
   by_cases p0:0<=z
   .have n0:decide (z<=65535)=N:=decide_eq_false (by omega)
    clear A
    go_wp2_with fail
    (with_reducible refine (gF w3).mono ?_)
    rintro e w4 ⟨rfl,rfl⟩
    go_wp2_with fail
    exact ⟨rfl,j,r,D2.out,rfl,q.out.right⟩
   .have n0:z<0:=by omega
    clear A
    go_wp2_with fail
    (with_reducible refine (gF w3).mono ?_)
    rintro e w4 ⟨rfl,rfl⟩
    go_wp2_with fail
    exact ⟨rfl,j,r,D2.out,rfl,q.out.right⟩
theorem tH {w:O} {e:Array M} {a:Nat} {d:Array M} {F:ai} (f:e[3]?=U (ay a)) (i:ag w (pt a (Y d 73 (0,0))*F)) (g:d.size=20) :
  (results Tryz.f152 e).run Q w = .ok (.agg d) w:=by
 have j:=run_loadVar_row (P:=Q) w a 73 73 d (0,0) _ i.heap underlying73 rfl (by rw [g];exact bC);simp [results,Tryz.results152,f,asAddr,j]
theorem Lp {c:Cx σ} (hc:c.Ok) {n:Nat} (node:Int) (g:Nat):Cn c n 152 #[X (U ⟨g,0,V⟩)] Ch (bg g node) (re c.ask n node):=by
 intro x w S st F l0 m0 h;subst l0 m0;show Calls Q 152 #[X (U ⟨x.k,0,V⟩),X (U ⟨g,0,V⟩)] w _
 have u:=h.alloc (Y #[Z H 0,Z H 0,Z H 0,Z H 0,Z H 0,Z H 0,Z H 0,Z H 0,Z H 0,Z H 0,Z H 0,Z H 0,Z H 0,Z H 0,Z H 0,Z H 0,Z H 0,Z H 0,Z H 0,Z H 0] 73 (0,0));have B:=(aj.refl w).alloc (Y #[Z H 0,Z H 0,Z H 0,Z H 0,Z H 0,Z H 0,Z H 0,Z H 0,Z H 0,Z H 0,Z H 0,Z H 0,Z H 0,Z H 0,Z H 0,Z H 0,Z H 0,Z H 0,Z H 0,Z H 0] 73 (0,0));have e:=u.to (by ac_rfl:_=aE x S st*(ak S*(bg g node*(pt w.heap.size (Y #[Z H 0,Z H 0,Z H 0,Z H 0,Z H 0,Z H 0,Z H 0,Z H 0,Z H 0,Z H 0,Z H 0,Z H 0,Z H 0,Z H 0,Z H 0,Z H 0,Z H 0,Z H 0,Z H 0,Z H 0] 73 (0,0))*F))));have cn:(w.alloc (Y #[Z H 0,Z H 0,Z H 0,Z H 0,Z H 0,Z H 0,Z H 0,Z H 0,Z H 0,Z H 0,Z H 0,Z H 0,Z H 0,Z H 0,Z H 0,Z H 0,Z H 0,Z H 0,Z H 0,Z H 0] 73 (0,0))).cell? ⟨g,0,V⟩=U (Z H node):=e.au.cell 0;have t:=jL x hc _ S st node _ e;obtain ⟨⟨n0,o⟩,l⟩:∃ p,fT x.c.ask x.n node st=p:=⟨_,rfl⟩
 rw [l] at t;have hz:=ae u.heap;clear u e h
 cases n0 with
 | bad cN=>
  have i:re x.c.ask x.n node st=(.bad cN,o):=WM.bf l;rw [i];clear i l
  go_enter func152,ntmps152
  go_wp2_with fail
  (with_reducible refine t.mono ?_)
  rintro i0 w2 ⟨f,z,q,rfl,e⟩
  go_wp2_with fail
  exact ⟨rfl,f,z,B.trans q,rfl,(e.to (by ac_rfl:_=pt w.heap.size (Y #[Z H 0,Z H 0,Z H 0,Z H 0,Z H 0,Z H 0,Z H 0,Z H 0,Z H 0,Z H 0,Z H 0,Z H 0,Z H 0,Z H 0,Z H 0,Z H 0,Z H 0,Z H 0,Z H 0,Z H 0] 73 (0,0))*(aE x f o*(ak f*(bg g node*F))))).right⟩
 | ok d=>
  have i:re x.c.ask x.n node st=(.ok d.n,o):=WM.aX l;rw [i];clear i l
  go_enter func152,ntmps152
  go_wp2_with fail
  (with_reducible refine t.mono ?_)
  rintro i0 w2 ⟨f,v,z,q,rfl,e⟩;obtain ⟨P,rfl,r⟩:=ag.oZ e;have j:=ag.yM r;have k0:=ae (se j (ag.held.1 r).2);have b0:(prog.info? 73).map (·.size)=U (d.n.l.map (E2 H)).length:=by rw [O2,Nd.cells j.1];exact bC
  have A:(d.n.l.map (E2 H)).toArray.size=20:=by simp [Nd.cells j.1]
  have c0:(prog.info? 73).map (·.size)=U (d.n.l.map (E2 H)).toArray.size:=by rw [A];exact bC
  have d0:(d.n.l.map (E2 H)).toArray.all (·.oneCell')=L:=by simp [Y3]
  have y:ag w2 (pt w.heap.size (Y #[Z H 0,Z H 0,Z H 0,Z H 0,Z H 0,Z H 0,Z H 0,Z H 0,Z H 0,Z H 0,Z H 0,Z H 0,Z H 0,Z H 0,Z H 0,Z H 0,Z H 0,Z H 0,Z H 0,Z H 0] 73 (0,0))*(aO P d*(aE x f o*(ak f*(bg g node*F))))):=r.to (by ac_rfl);have h0:=ae y.heap;have G:=y.setRow (cs':=(d.n.l.map (E2 H)).toArray);have D5:=ae ((B.trans q).setRow w.heap.size (d.n.l.map (E2 H)).toArray);have C:=ae G;have e0:=ae b0;have f0:=ae c0;have g0:=ae d0;have E:=ae A;have Hf:=ae j;clear e r y G b0 c0 d0 j t hz cn q A
  go_wp2_with (first
   | (refine wpList_load_mid (by exact rfl) 73 (.tmp 8) (by exact rfl) P 1 (by exact rfl) (d.n.l.map (E2 H)) _ (by with_reducible exact k0.out) underlying73 rfl (by with_reducible exact e0.out) ?_)
   | (refine wpList_store_row (by exact rfl) 73 (.tmp 3) (.tmp 9) (by exact rfl) w.heap.size (d.n.l.map (E2 H)).toArray (by exact rfl) (by exact rfl) 73 #[Z H 0,Z H 0,Z H 0,Z H 0,Z H 0,Z H 0,Z H 0,Z H 0,Z H 0,Z H 0,Z H 0,Z H 0,Z H 0,Z H 0,Z H 0,Z H 0,Z H 0,Z H 0,Z H 0,Z H 0] (by with_reducible exact h0.out) f0.out (by rw [E.out];rfl) g0.out ?_))
  exact bodyPost_ret (tH rfl C.out E.out) rfl ⟨f,_,z,D5.out,rfl,ag.aq.2 ⟨⟨rfl,Hf.out.1⟩,C.out.right.right⟩⟩
end
end Go.Proofs.Fs
namespace Go.SL
open Go.RowKit
section
variable {σ:Type}
def ja (ask:cI σ):WM σ Unit:=fun st=>(WM.bind (cG ask 0 L) fun _=>WM.bind (cG ask 1 L) fun _=>dQ (dh 1 2)) { st with bits:=U (zs 480) }
def Hd.ib (h:Hd):List Int:=h.n.dr++h.row
theorem Hd.jy {h:Hd} (d:h.fit):h.ib.length=256:=by simp [Hd.ib,d.1,d.2]
theorem Hd.uS {h:Hd} (d:h.fit) (i:Nat):h.aL i=h.ib.getD i 0:=by
 unfold Hd.aL Hd.ib
 split
 .rename_i e;rw [K2,K2,L3 (by rw [d.1];exact e)]
 .rename_i e;rw [K2,K2,V3 (by rw [d.1];omega),d.1]
end
end Go.SL
namespace Go.Proofs.Fs
open Go.RowKit Go.SL Go.Proofs.Ba
section
variable {σ α:Type}
theorem Ky {c:Cx σ} (hc:c.Ok) {n:Nat} (hn:n<=3840):Cn c n 94 #[] CC emp (oS c.ask n):=by
 intro x w b0 st F d0 e0 h;subst d0 e0;show Calls Q 94 #[X (U ⟨x.k,0,V⟩)] w _
 have A:w.cell? ⟨x.k,1,V⟩=U (Z H (x.n:Int)):=wo h;have u:=fun (w:O) h=>pk x hc w b0 st (emp*F) h;obtain ⟨⟨f0,f⟩,g⟩:∃ p,jm x.c.ask st=p:=⟨_,rfl⟩
 rw [g] at u
 cases f0 with
 | bad cN=>
  have i:oS x.c.ask x.n st=(.bad cN,f):=WM.bf g;rw [i];clear i g
  go_enter func94,ntmps94
  go_wp2_with fail
  refine wp_region_held_drew (S:=(fun y=>y.cell? ⟨x.k,1,V⟩=U (Z H (x.n:Int)))) (by kernel_rfl) ?_ (fun h0=>?_)
  ·(first|exact A|go_keep)
  refine tk 0 ?_;refine tk 1 ?_;refine tk 2 ?_;refine tk 3 ?_;refine tk 4 ?_;refine tk 6 ?_;refine tk 7 ?_;refine tk 8 ?_;refine tk 9 ?_;refine tr 5 fun g0 hK=>?_
  go_simp
  go_wp2_with (go_at_call 96;refine (u w.drew h.drew).mono ?_;rintro e z ⟨d,r,q,rfl,j⟩)
  exact ⟨rfl,d,r,(aj.refl w).drew.trans q,rfl,j⟩
 | ok l=>
  have i:oS x.c.ask x.n st=(.ok (x.n-(dg l x.n).length),f):=WM.aX g;have C:=(Al g (bitsLen h)).1;have S:=ae C;rw [i];have P:=oO l x.n;have E:=fun w v F h o=>IK w v l F h o x.n hn;have hN:(x.n:Int)<=3840:=by omega
  have i0:0<=(x.n:Int):=by omega
  have c0:(x.n:Int)-((dg l x.n).length:Int)=((x.n-(dg l x.n).length:Nat):Int):=by omega
  obtain ⟨t,G⟩:∃ t,(dg l x.n).length=t:=⟨_,rfl⟩
  rw [G] at P E c0 ⊢;have k0:0<=(t:Int):=by omega
  have l0:(t:Int)<=(x.n:Int):=by omega
  clear i g C G P
  go_enter func94,ntmps94
  go_wp2_with fail
  go_region_held3 (fun y=>y.cell? ⟨x.k,1,V⟩=U (Z H (x.n:Int)))
   (first|exact A|exact k1|exact k2|go_keep)
   (first
    | (go_at_call 96;refine (u w.drew h.drew).mono ?_;rintro e z ⟨d,v,r,q,rfl,o,j⟩;have k1:z.cell? ⟨x.k,1,V⟩=U (Z H (x.n:Int)):=(j.to (by unfold bD;ac_rfl:_=pt x.k (Y (x.cells v f.dt) 149 (0,0))*(cE x.c d x.b f.b*(bs 5 v l*(ak d*(emp*F)))))).cell 1)
    | (go_at_call 95;refine (E z v (bD x v d f*(ak d*(emp*F))) (j.to (by ac_rfl)) o).mono ?_;rintro e w2 ⟨rfl,B,d2⟩;have k2:w2.cell? ⟨x.k,1,V⟩=U (Z H (x.n:Int)):=(B.to (by unfold bD;ac_rfl:_=pt x.k (Y (x.cells v f.dt) 149 (0,0))*(cE x.c d x.b f.b*(bs 5 v l*(ak d*(emp*F)))))).cell 1))
  all_goals
   go_wp2_with fail
   go_ret
   refine ⟨d,_,r,((aj.refl w).drew.trans q).trans d2,rfl,ag.aq.2 ⟨?_,ag.im v ?_⟩⟩
   .show E2 H _=E2 H _;congr 1;rw [IntKind.wrap_i64];omega
   .rw [S.out];exact (ag.mU o B).to (by ac_rfl)
theorem aH {P:Program} {f:FuncId} {args:Array M} {w:O} {d:Ending->O->Prop} (h:∀ g:Ending->O->Prop,RowKit.Hid (∀ e w',d e w'->g e w')->Calls P f args w g):Calls P f args w d:=h d (fun _ _ h=>h)
theorem C9 {c:Cx σ} (hc:c.Ok) {n:Nat}:Cn c n 117 #[] ji emp (ja c.ask):=by
 intro x w S st F N0 R0 h;subst N0 R0;show Calls Q 117 #[X (U ⟨x.k,0,V⟩)] w _
 refine aH fun S0 P=>?_;obtain ⟨v0,h1⟩:=ag.ft h;have D0:=M8 w;obtain ⟨KB,hA⟩:∃ KB,KB=({ st with bits:=U (zs 480) }:eB σ):=⟨_,rfl⟩
 have d:ja x.c.ask st=(WM.bind (cG x.c.ask 0 L) fun _=>WM.bind (cG x.c.ask 1 L) fun _=>dQ (dh 1 2)) KB:=by rw [hA];rfl
 have o0:=ae d;have HA:=ae hA;have i0:=po 1 (dh 1 2).n (od 1 2).1;obtain ⟨u,g0⟩:∃ K0,K0=ints ((1:Int) :: ((dh 1 2).n.l++J2 240 0)):=⟨_,rfl⟩
 rw [<- g0] at i0;have H0:=ae (show u=ints (dh 1 2).l from g0);have Hb:=ae i0;have x0:(zs 480).length=480:=bh 480;have q0:=ae x0;clear i0 g0 d hA h x0;generalize zs 480=d0 at *;obtain ⟨⟨r1,f⟩,A⟩:∃ p,cG x.c.ask 0 L KB=p:=⟨_,rfl⟩
 have k0:∀ (w:O) (S:Hp) (F:ai),ag w (aE x S KB*(ak S*F))->Calls Q 87 #[X (U ⟨x.k,0,V⟩),Z H 0,J L] w (WQ x ji S F w (cG x.c.ask 0 L KB)):=fun w S F h=>vZ x hc w S KB 0 L F (by decide) h;rw [A] at k0
 go_enter func117,ntmps117
 go_wp2_with fail
 (with_reducible refine D0.mono ?_)
 rintro e w2 ⟨v,rfl,h2,d2⟩;have z:=h2.under h1;obtain ⟨j,o,rfl⟩:=aD z;rw [q0.out] at z ⊢;have h4:ag w2 (pt x.k (Y (x.cells v0 st.dt) 149 (0,0))*(cE x.c S x.b st.b*(bs 5 (R j 480 o) d0*(ak S*(emp*F))))):=(z.to (by unfold bD;ac_rfl:_=cu st.bits v0*(pt x.k (Y (x.cells v0 st.dt) 149 (0,0))*(cE x.c S x.b st.b*(bs 5 (R j 480 o) d0*(ak S*(emp*F))))))).right
 obtain ⟨v1,n1,k1,rfl⟩:∃ a n c,v0 = R a n c:=by
  rcases ag.oG (z.to (by ac_rfl:_=cu st.bits v0*(bs 5 (R j 480 o) d0*(bD x v0 S st*(ak S*(emp*F)))))) with ⟨_,rfl,_⟩|⟨l,_,_,hx⟩
  .exact ⟨_,_,_,rfl⟩
  .obtain ⟨a,b,e⟩:=aD hx;exact ⟨_,_,_,e⟩
 have g2:w2.cell? ⟨x.k,2,V⟩=U (R v1 n1 k1):=h4.cell 2;have f2:w2.frozen? ⟨x.k,2,V⟩=N:=h4.frozen 2;have h5:=h4.setCell 2 (R j 480 o);have G:=d2.setCell ⟨x.k,2,V⟩ (R j 480 o)
 have h6:ag (w2.setCell ⟨x.k,2,V⟩ (R j 480 o)) (aE x S KB*(ak S*(emp*F))):=by
  rw [HA.out];refine ag.im (R j 480 o) ?_;have g:=ag.mU q0.out h5.au;exact g.to (by unfold bD Wk.cells;simp only [Z3,P3,J4];ac_rfl)
 have hm:=k0 _ S _ h6;clear D0 h1 h2 z h4 h5 h6 k0
 cases r1 with
 | bad cN=>
  have d:(WM.bind (cG x.c.ask 0 L) fun _=>WM.bind (cG x.c.ask 1 L) fun _=>dQ (dh 1 2)) KB=(.bad cN,f):=WM.bf A;have q:=ae (o0.out.trans d);clear d A
  go_wp2_with fail
  (with_reducible refine hm.mono ?_)
  rintro e w3 ⟨y,t,r,rfl,g⟩
  go_wp2_with fail
  exact ⟨rfl,P.out _ _ (by rw [q.out];exact ⟨y,t,G.trans r,rfl,g⟩)⟩
 | ok T0=>
  have d:(WM.bind (cG x.c.ask 0 L) fun _=>WM.bind (cG x.c.ask 1 L) fun _=>dQ (dh 1 2)) KB=(WM.bind (cG x.c.ask 1 L) fun _=>dQ (dh 1 2)) f:=WM.aX A;have p0:=ae (o0.out.trans d);clear d A;obtain ⟨⟨r2,C⟩,B⟩:∃ p,cG x.c.ask 1 L f=p:=⟨_,rfl⟩
  have c0:∀ (w:O) (S:Hp) (F:ai),ag w (aE x S f*(ak S*F))->Calls Q 87 #[X (U ⟨x.k,0,V⟩),Z H 1,J L] w (WQ x ji S F w (cG x.c.ask 1 L f)):=fun w S F h=>vZ x hc w S f 1 L F (by decide) h;rw [B] at c0
  cases r2 with
  | bad cN=>
   have d:(WM.bind (cG x.c.ask 1 L) fun _=>dQ (dh 1 2)) f=(.bad cN,C):=WM.bf B;have q:=ae (p0.out.trans d);clear d B
   go_wp2_with fail
   (with_reducible refine hm.mono ?_)
   rintro e w3 ⟨y,v3,t,r,rfl,g⟩;obtain ⟨rfl,h8⟩:=ag.aq.1 g
   go_wp2_with fail
   (with_reducible refine (c0 w3 y _ h8).mono ?_)
   rintro e E ⟨S2,b0,d4,rfl,h9⟩
   go_wp2_with fail
   exact ⟨rfl,P.out _ _ (by rw [q.out];exact ⟨S2,t.trans b0,(G.trans r).trans d4,rfl,h9⟩)⟩
  | ok u2=>
   have d:(WM.bind (cG x.c.ask 1 L) fun _=>dQ (dh 1 2)) f=dQ (dh 1 2) C:=WM.aX B;have G0:=ae (p0.out.trans d);clear d B;have m0:=fun w S hb F h=>jC x w S C hb (dh 1 2) F h;obtain ⟨⟨r3,F0⟩,l0⟩:∃ p,dQ (dh 1 2) C=p:=⟨_,rfl⟩
   rw [l0] at m0;have q:=ae (G0.out.trans l0);have r0:=ae m0;clear l0 m0
   go_wp2_with fail
   (with_reducible refine hm.mono ?_)
   rintro e w3 ⟨y,v3,t,r,rfl,g⟩;obtain ⟨rfl,h8⟩:=ag.aq.1 g
   go_wp2_with fail
   (with_reducible refine (c0 w3 y _ h8).mono ?_)
   rintro e E ⟨S2,v4,b0,d4,rfl,h9⟩;obtain ⟨rfl,s0⟩:=ag.aq.1 h9;have e0:=s0.alloc (Y u 137 (0,0));have u0:ag (E.alloc (Y u 137 (0,0))) (aO E.heap.size (dh 1 2)*(aE x S2 C*(ak S2*(emp*F)))):=ag.held.2 ⟨od 1 2,by rw [H0.out] at e0 ⊢;exact e0⟩;have n0:=ae (((G.trans r).trans d4).alloc (Y u 137 (0,0)));have HS:=ae (t.trans b0);have hs:=ae (r0.out _ _ _ _ u0);clear hm c0 g h8 h9 s0 e0 u0 r0 G r d4 t b0
   go_wp2_with (refine gG (by exact rfl) 137 #[(0,.const (Z H 1)),(1,.tmp 11)] (by exact rfl) _ (by exact rfl) u (by exact Hb.out) ?_)
   refine hs.out.mono ?_
   cases r3 with
   | bad cN=>
    rintro e w5 ⟨i,h0,d5,rfl,f0⟩
    go_wp2_with fail
    exact ⟨rfl,P.out _ _ (by rw [q.out];exact ⟨i,HS.out.trans h0,n0.out.trans d5,rfl,(f0.to (by ac_rfl:_=aO E.heap.size (dh 1 2)*(aE x i F0*(ak i*(emp*F))))).right⟩)⟩
   | ok u3=>
    rintro e w5 ⟨i,v5,h0,d5,rfl,f0⟩;obtain ⟨rfl,L0⟩:=ag.aq.1 f0
    go_wp2_with fail
    go_end0
    exact P.out _ _ (by rw [q.out];exact ⟨i,_,HS.out.trans h0,n0.out.trans d5,rfl,ag.aq.2 ⟨rfl,(L0.to (by ac_rfl:_=aO E.heap.size (dh 1 2)*(aE x i F0*(ak i*(emp*F))))).right⟩⟩)
end
end Go.Proofs.Fs
namespace Go.SL
open Go.RowKit
section
variable {σ α β:Type}
theorem WM.nN {m:WM σ α} {k:α->WM σ β} {st st':eB σ} {b:β} (h:WM.bind m k st=(.ok b,st')):∃ a d,m st=(.ok a,d)/\k a d=(.ok b,st'):=by
 unfold WM.bind at h
 match hm:m st,h with
 | (.ok a,d),h=>exact ⟨a,d,rfl,h⟩
 | (.bad c,d),h=>cases h
structure Hd.RT (n:Nat) (h:Hd):Prop where
 fit:h.fit
 ok:h.n.ok=true
 Vj:1<=h.id
 US:h.id<n
 xH:0<=h.n.rw
 zI:h.n.rw<n
 pg:∀ p ∈ h.ib,0<=p/\p<n
theorem E3 {l:List Int} (h:l.all cZ=L):∀ p ∈ l,0<=p/\p<3840:=fun p d=>jg (List.all_eq_true.1 h p d)
theorem rY {ask:cI σ} {n:Nat} {id:Int} {st st':eB σ} {h:Hd} (o:fT ask n id st=(.ok h,st')):h.RT n:=by
 unfold fT at o
 split at o
 .rename_i h0
  obtain ⟨j,aR,h1,e⟩:=WM.nN o;unfold RN at e
  split at e
  .rename_i v
   have q:(kp j).1.ok=L/\(kp j).1.dr.length=16:=by
    refine ⟨?_,EY j⟩;unfold kp at v ⊢
    split at v
    .rename_i i;rw [if_pos i];simp only [Bool.and_eq_true] at i;exact i.1
    .cases v
   generalize (kp j).1=r at *;obtain ⟨q,G⟩:=q;have A:=Nd.qq q;have e0:=jg A.2.2.2.2.2.2.1
   have B:∀ row C,row.length=240->(∀ p ∈ row,0<=p)->(r.rw<n)->iS n id.toNat r row C=(.ok h,st')->h.RT n:=by
    intro row C S d0 b0 P;obtain ⟨_,f0,f,u⟩:=WM.nN P;obtain ⟨_,g0,l,g⟩:=WM.nN u;simp only [WM.pure,Prod.mk.injEq,Rs.ok.injEq] at g;obtain ⟨rfl,rfl⟩:=g
    have t:r.dr.all (fun x=>decide (x<n))=L:=by
     unfold eD at f;split at f
     .assumption
     .cases f
    have E:row.all (fun x=>decide (x<n))=L:=by
     unfold eD at l;split at l
     .assumption
     .cases l
    refine ⟨⟨G,S⟩,q,by show 1<=id.toNat;omega,by show id.toNat<n;omega,e0.1,b0,fun p d=>?_⟩;rcases List.mem_append.1 d with d|d
    .exact ⟨(E3 A.2.2.2.2.2.1 p d).1,by simpa using List.all_eq_true.1 t p d⟩
    .exact ⟨d0 p d,by simpa using List.all_eq_true.1 E p d⟩
   unfold kU at e
   split at e
   .rename_i hz
    exact B _ _ rfl (fun p d=>by rw [(List.mem_replicate.1 d).2];omega) (by rw [hz];omega) e
   .obtain ⟨_,f0,f,u⟩:=WM.nN e
    obtain ⟨z,g0,l,g⟩:=WM.nN u
    have t:[r.rw].all (fun x=>decide (x<n))=L:=by
     unfold eD at f;split at f
     .assumption
     .cases f
    unfold JE at g
    split at g
    .rename_i y
     have c0:(lf z).1.all cZ=L:=by
      unfold lf at y ⊢
      split at y
      .rename_i i;rw [if_pos i];exact i
      .cases y
     exact B _ _ (Cb z) (fun p d=>(E3 c0 p d).1) (by simpa using t) g
    .cases g
  .cases e
 .cases o
def ir (ask:cI σ):List Int->WM σ Unit
 | []=>WM.pure ()
 | p :: d=>fun st=>if p=0 then ir ask d st else (WM.bind (cG ask p.toNat N) fun _=>ir ask d) st
def Du (ask:cI σ) (h:Hd):WM σ Unit:=fun st=>if h.n.rw=0 then cG ask h.id N st else (WM.bind (cG ask h.n.rw.toNat N) fun _=>cG ask h.id N) st
def qH (ask:cI σ) (n:Nat) (node:Int):WM σ Unit:=WM.bind (fT ask n node) fun h=>WM.bind (ir ask h.ib) fun _=>Du ask h
def kN (ask:cI σ) (h:Hd) (k:Nat):WM σ Unit:=WM.bind (ir ask (h.ib.drop k)) fun _=>Du ask h
theorem Hd.lW {h:Hd} (d:h.fit) {k:Nat} (f:k<256):h.ib.drop k=h.aL k :: h.ib.drop (k+1):=by
 have e:k<h.ib.length:=by rw [Hd.jy d];exact f
 rw [List.drop_eq_getElem_cons e,Hd.uS d,K2,W3 e];rfl
theorem KA {ask:cI σ} {h:Hd} (f:h.fit) {k:Nat} (g:k<256) (d:h.aL k=0) (st:eB σ):kN ask h k st=kN ask h (k+1) st:=by
 have e:ir ask (h.ib.drop k) st=ir ask (h.ib.drop (k+1)) st:=by rw [Hd.lW f g];exact if_pos d
 unfold kN WM.bind;rw [e]
theorem Ji {ask:cI σ} {h:Hd} (g:h.fit) {k:Nat} (i:k<256) (f:h.aL k≠0) {st d:eB σ} {c:Int} (hm:cG ask (h.aL k).toNat N st=(.bad c,d)):kN ask h k st=(.bad c,d):=by
 have e:ir ask (h.ib.drop k) st=(.bad c,d):=by rw [Hd.lW g i];exact (if_neg f).trans (WM.bf hm)
 exact WM.bf e
theorem J6 {ask:cI σ} {h:Hd} (g:h.fit) {k:Nat} (i:k<256) (f:h.aL k≠0) {st d:eB σ} (hm:cG ask (h.aL k).toNat N st=(.ok (),d)):kN ask h k st=kN ask h (k+1) d:=by
 have e:ir ask (h.ib.drop k) st=ir ask (h.ib.drop (k+1)) d:=by rw [Hd.lW g i];exact (if_neg f).trans (WM.aX hm)
 unfold kN WM.bind;rw [e]
theorem Nc {ask:cI σ} {h:Hd} (d:h.fit) (st:eB σ):kN ask h 256 st=Du ask h st:=by
 have e:ir ask (h.ib.drop 256) st=(.ok (),st):=by rw [List.drop_of_length_le (by rw [Hd.jy d];exact Nat.le_refl _)];rfl
 exact WM.aX e
theorem Hd.RT.aL {n:Nat} {h:Hd} (d:h.RT n) {k:Nat} (f:k<256):0<=h.aL k/\h.aL k<n:=by
 have e:k<h.ib.length:=by rw [Hd.jy d.fit];exact f
 have:=d.pg _ (List.getElem_mem e);rw [Hd.uS d.fit,K2,W3 e];exact this
end
end Go.SL
namespace Go.Proofs.Fs
open Go.RowKit Go.SL Go.Proofs.Ba
section
variable {σ α:Type}
theorem jJ (x:Wk σ) (e:x.c.Ok) (w:O) (S:Hp) (st:eB σ) (p:Int) (t:Bool) (F:ai) (d:0<=p) (f:p<3840) (h:ag w (aE x S st*(ak S*F))) :
  Calls Q 87 #[X (U ⟨x.k,0,V⟩),Z H p,J t] w (WQ x ji S F w (cG x.c.ask p.toNat t st)):=by
 have:=vZ x e w S st p.toNat t F (by omega) h
 rwa [N4 d] at this
def NX (x:Wk σ) (g:Nat) (e:Hd) (S:Hp) (F:ai) (w:O) (T:Rs Unit × eB σ) (u9:M) (wr:O):Prop:=
 ∃ (k:Nat) (f:eB σ) (d:Hp),k<=256/\u9 = Z H (k:Int)/\kN x.c.ask e k f=T/\Ext S d/\aj w wr/\ag wr (aE x d f*(ak d*(aO g e*F)))
theorem Lb {c:Cx σ} (hc:c.Ok) {n:Nat} (hn:n<=3840) (node:Int) (i:Nat):Cn c n 85 #[X (U ⟨i,0,V⟩)] ji (bg i node) (qH c.ask n node):=by
 intro x w e0 st F s0 u0 h;subst s0 u0;have cn:w.cell? ⟨i,0,V⟩=U (Z H node):=(h.to (by ac_rfl:_=bg i node*(aE x e0 st*(ak e0*F)))).cell 0;show Calls Q 85 #[X (U ⟨x.k,0,V⟩),X (U ⟨i,0,V⟩)] w _
 refine aH fun D0 S=>?_;have hl:=jL x hc w e0 st node _ h;obtain ⟨⟨x0,aR⟩,hp⟩:∃ p,fT x.c.ask x.n node st=p:=⟨_,rfl⟩
 rw [hp] at hl;clear h
 cases x0 with
 | bad cN=>
  have A:=ae (show qH x.c.ask x.n node st=(.bad cN,aR) from WM.bf hp);clear hp
  go_enter func85,ntmps85
  go_wp2_with fail
  (with_reducible refine hl.mono ?_)
  rintro e w2 ⟨S',hS,d2,rfl,h2⟩
  go_wp2_with fail
  exact ⟨rfl,S.out _ _ (by rw [A.out];exact ⟨S',hS,d2,rfl,h2⟩)⟩
 | ok d=>
  have hI:=rY hp;have t:=ae hI;obtain ⟨T,hT⟩:∃ T,kN x.c.ask d 0 aR=T:=⟨_,rfl⟩
  have A:=ae (show qH x.c.ask x.n node st=T from (WM.aX hp).trans hT);clear hp
  go_enter func85,ntmps85
  go_wp2_with fail
  (with_reducible refine hl.mono ?_)
  rintro e w2 ⟨S',v,hS,d2,rfl,h2⟩;obtain ⟨j,rfl,h3⟩:=ag.oZ h2;have h4:ag w2 (aE x S' aR*(ak S'*(aO j d*(bg i node*F)))):=h3.to (by ac_rfl);have H4:=ae h4;have HT:=ae hT;clear h2 h3 hl cn hI hT h4
  go_wp2_with fail
  go_loopw [9] (fun u9 wr=>NX x j d e0 (bg i node*F) w T u9 wr) (fun u9 _=>256-(intOf u9).toNat)
  case atStart=>exact ⟨0,aR,S',Nat.zero_le _,rfl,HT.out,hS,d2,H4.out⟩
  case round=>
   obtain ⟨k,y,Sk,hk,rfl,m0,l0,C,b0⟩:=hrel;have d0:=ae m0;have B:=ae l0;clear H4 HT m0 l0;have z:=b0.to (by ac_rfl:_=aO j d*(aE x Sk y*(ak Sk*(bg i node*F))))
   by_cases G:k<256
   .have G0:(k:Int)<256:=by omega
    have c0:=nv wr j d _ z k G;unfold JV at c0
    by_cases E:d.aL k=0
    .have l:=ae ((KA t.out.fit G E y).symm.trans d0.out)
     rw [E] at c0;clear E z
     go_wp2_with fail
     (with_reducible refine c0.mono ?_)
     rintro e w3 ⟨rfl,rfl⟩
     go_wp2_with fail
     go_roundw
     case rel=>exact ⟨k+1,y,Sk,by omega,by go_num,l.out,B.out,C,b0⟩
     case measure=>simp [intOf];omega
    .have h1:(d.aL k != 0)=L:=by simpa using E
     obtain ⟨p0,p1⟩:=t.out.aL G;have hm:=jJ x hc wr Sk y (d.aL k) N _ p0 (by omega) b0;obtain ⟨⟨r2,u⟩,g⟩:∃ p,cG x.c.ask (d.aL k).toNat N y=p:=⟨_,rfl⟩
     rw [g] at hm
     cases r2 with
     | bad cN=>
      have l:=ae ((Ji t.out.fit G E g).symm.trans d0.out);clear E g z p0 p1;generalize d.aL k=i0 at *
      go_wp2_with fail
      (with_reducible refine c0.mono ?_)
      rintro e w3 ⟨rfl,rfl⟩
      go_wp2_with fail
      (with_reducible refine hm.mono ?_)
      rintro e w4 ⟨f,r,o,rfl,q⟩
      go_wp2_with fail
      exact ⟨rfl,S.out _ _ (by rw [A.out,<- l.out];exact ⟨f,B.out.trans r,C.trans o,rfl,(q.to (by ac_rfl:_=aO j d*(aE x f u*(ak f*(bg i node*F))))).right⟩)⟩
     | ok o0=>
      have l:=ae ((J6 t.out.fit G E g).symm.trans d0.out);clear E g z p0 p1;generalize d.aL k=i0 at *
      go_wp2_with fail
      (with_reducible refine c0.mono ?_)
      rintro e w3 ⟨rfl,rfl⟩
      go_wp2_with fail
      (with_reducible refine hm.mono ?_)
      rintro e w4 ⟨f,v4,r,o,rfl,q⟩;obtain ⟨rfl,h7⟩:=ag.aq.1 q
      go_wp2_with fail
      go_roundw
      case rel=>exact ⟨k+1,u,f,by omega,by go_num,l.out,B.out.trans r,C.trans o,h7⟩
      case measure=>simp [intOf];omega
   .obtain rfl:k=256:=by omega
    have HR:=ae ((Nc t.out.fit y).symm.trans d0.out);have r0:wr.cell? ⟨j,20,V⟩=U (Z H d.n.rw):=qa t.out.fit (ag.held.1 z).2;have q0:wr.cell? ⟨j,0,V⟩=U (Z H (d.id:Int)):=zA (ag.held.1 z).2
    by_cases P:d.n.rw=0
    .have hm:=jJ x hc wr Sk y (d.id:Int) N _ (by omega) (by have:=t.out.US;omega) b0
     rw [Int.toNat_natCast] at hm;obtain ⟨⟨r2,u⟩,g⟩:∃ p,cG x.c.ask d.id N y=p:=⟨_,rfl⟩
     rw [g] at hm;have l:=ae (HR.out.symm.trans ((if_pos P).trans g));rw [P] at r0;clear P g z G
     cases r2 with
     | bad cN=>
      go_wp2_with fail
      (with_reducible refine hm.mono ?_)
      rintro e w4 ⟨f,r,o,rfl,q⟩
      go_wp2_with fail
      exact ⟨rfl,S.out _ _ (by rw [A.out,l.out];exact ⟨f,B.out.trans r,C.trans o,rfl,(q.to (by ac_rfl:_=aO j d*(aE x f u*(ak f*(bg i node*F))))).right⟩)⟩
     | ok o0=>
      go_wp2_with fail
      (with_reducible refine hm.mono ?_)
      rintro e w4 ⟨f,v4,r,o,rfl,q⟩;obtain ⟨rfl,h7⟩:=ag.aq.1 q
      go_wp2_with fail
      go_end0
      exact S.out _ _ (by rw [A.out,l.out];exact ⟨f,_,B.out.trans r,C.trans o,rfl,ag.aq.2 ⟨rfl,(h7.to (by ac_rfl:_=aO j d*(aE x f u*(ak f*(bg i node*F))))).right⟩⟩)
    .have h1:(d.n.rw != 0)=L:=by simpa using P
     have hm:=jJ x hc wr Sk y d.n.rw N _ t.out.xH (by have:=t.out.zI;omega) b0;obtain ⟨⟨r2,u⟩,g⟩:∃ p,cG x.c.ask d.n.rw.toNat N y=p:=⟨_,rfl⟩
     rw [g] at hm
     cases r2 with
     | bad cN=>
      have l:=ae (HR.out.symm.trans ((if_neg P).trans (WM.bf g)));clear P g z G;generalize d.n.rw=i0 at *
      go_wp2_with fail
      (with_reducible refine hm.mono ?_)
      rintro e w4 ⟨f,r,o,rfl,q⟩
      go_wp2_with fail
      exact ⟨rfl,S.out _ _ (by rw [A.out,l.out];exact ⟨f,B.out.trans r,C.trans o,rfl,(q.to (by ac_rfl:_=aO j d*(aE x f u*(ak f*(bg i node*F))))).right⟩)⟩
     | ok o0=>
      have l:=ae (HR.out.symm.trans ((if_neg P).trans (WM.aX g)));clear P g z G;generalize d.n.rw=i0 at *
      go_wp2_with fail
      (with_reducible refine hm.mono ?_)
      rintro e w4 ⟨f,v4,r,o,rfl,q⟩;obtain ⟨rfl,h7⟩:=ag.aq.1 q;have F0:w4.cell? ⟨j,0,V⟩=U (Z H (d.id:Int)):=zA (ag.held.1 (h7.to (by ac_rfl:_=aO j d*(aE x f u*(ak f*(bg i node*F)))))).2;have f0:=jJ x hc w4 f u (d.id:Int) N _ (by omega) (by have:=t.out.US;omega) h7;rw [Int.toNat_natCast] at f0;obtain ⟨⟨r3,n0⟩,h0⟩:∃ p,cG x.c.ask d.id N u=p:=⟨_,rfl⟩
      rw [h0] at f0;have k0:=ae (l.out.trans h0);clear h0 hm q0 q
      cases r3 with
      | bad cN=>
       go_wp2_with fail
       (with_reducible refine f0.mono ?_)
       rintro e w5 ⟨S3,g0,d5,rfl,h8⟩
       go_wp2_with fail
       exact ⟨rfl,S.out _ _ (by rw [A.out,k0.out];exact ⟨S3,(B.out.trans r).trans g0,(C.trans o).trans d5,rfl,(h8.to (by ac_rfl:_=aO j d*(aE x S3 n0*(ak S3*(bg i node*F))))).right⟩)⟩
      | ok u3=>
       go_wp2_with fail
       (with_reducible refine f0.mono ?_)
       rintro e w5 ⟨S3,v5,g0,d5,rfl,h8⟩;obtain ⟨rfl,h9⟩:=ag.aq.1 h8
       go_wp2_with fail
       go_end0
       exact S.out _ _ (by rw [A.out,k0.out];exact ⟨S3,_,(B.out.trans r).trans g0,(C.trans o).trans d5,rfl,ag.aq.2 ⟨rfl,(h9.to (by ac_rfl:_=aO j d*(aE x S3 n0*(ak S3*(bg i node*F))))).right⟩⟩)
end
end Go.Proofs.Fs

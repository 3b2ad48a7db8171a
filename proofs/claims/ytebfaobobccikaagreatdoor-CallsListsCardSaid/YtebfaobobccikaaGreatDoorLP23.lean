/- Steps. -/
import Derived.Test.YtebfaobobccikaaGreatDoorLP22
import Derived.Test.YtebfaobobccikaaGreatDoorLP4
import Derived.Test.YtebfaobobccikaaGreatDoorLP13
import Derived.Test.YtebfaobobccikaaGreatDoorLP6
set_option linter.all false
set_option maxRecDepth 99999
set_option maxHeartbeats 0
open Go.SL
open Go.Value renaming int->Z,slice->R,pointer->X,tuple->I,bool->J
open Go.IntKind renaming i64->H
open Go.Obj renaming cells->Y
open Go.Ending renaming returned->K
open Go renaming World->O,Value->M
open Go.Proofs.Tryz renaming prog->Q
open Option renaming some->U,none->V
open Bool renaming true->L,false->N
open Go.Proofs.Tryz
open Go.Value renaming int->Z1,oneCell'->L3
open List renaming replicate->A2,getD->B2,length_cons->E2,length_map->K2,size_toArray->M2,length_nil->N2,push_toArray->U2,append_toArray->V2,nil_append->W2,cons_append->X2,getElem?_cons_succ->Y2,getElem?_append_left->A3,set_cons_succ->B3,getElem?_append_right->G3,getElem?_eq_getElem->J3,getElem?_map->K3,setIfInBounds_toArray->P3,set_cons_zero->R3,length_append->W3,getElem?_eq_none->Y3,drop_succ_cons->Z3,take_of_length_le->J4
open Nat renaming not_lt_zero->J2,reduceAdd->O2,reduceSub->P2,add_comm->V3
open Array renaming replicate_succ->R2,replicate_zero->T2
open Go.World renaming size_alloc->Z2
open Int renaming toNat_of_nonneg->X3
namespace Go.SL
open RowKit
inductive Rs (α:Type) where
 | ok (a:α)
 | bad (c:Int)
structure ik (σ:Type) where
 err:Int
 W:List (Int × List UInt8)
 D:List (Int × List UInt8)
 s:σ
structure eB (σ:Type) where
 b:ik σ
 bits:Option (List UInt8)
 dt:Bool
abbrev cO (σ:Type):=σ->Int->(Int × List UInt8) × σ
abbrev WM (σ α:Type):=eB σ->Rs α × eB σ
def WM.bind {σ α β:Type} (m:WM σ α) (k:α->WM σ β):WM σ β:=fun st=>match m st with|(.ok a,st')=>k a st'|(.bad c,st')=>(.bad c,st')
def WM.pure {σ α:Type} (a:α):WM σ α:=fun st=>(.ok a,st)
section
variable {σ α β:Type} {m:WM σ α} {k:α->WM σ β} {st st':eB σ}
theorem WM.aX {a:α} (h:m st=(.ok a,st')):WM.bind m k st=k a st':=by unfold WM.bind;rw [h]
theorem WM.bf {c:Int} (h:m st=(.bad c,st')):WM.bind m k st=(.bad c,st'):=by unfold WM.bind;rw [h]
end
def rH {σ:Type} (ask:cO σ) (b:ik σ) (id:Int):(Int × List UInt8) × ik σ:=
 if (ask b.s id).1.1=0 then ((0,(ask b.s id).1.2),{ b with D:=SL.fw b.D id (ask b.s id).1.2,s:=(ask b.s id).2 })
 else (((ask b.s id).1.1,(ask b.s id).1.2),{ b with err:=(ask b.s id).1.1,s:=(ask b.s id).2 })
def gh {σ:Type} (ask:cO σ) (b:ik σ) (id:Int):(Int × List UInt8) × ik σ:=
 if b.err≠0 then ((b.err,[]),b) else
 match aP b.W id with
 | some l=>((0,l),b)
 | none=>match aP b.D id with
  | some l=>((0,l),b)
  | none=>rH ask b id
def cU {σ:Type} (ask:cO σ) (id:Int):WM σ (List UInt8):=fun st=>
 if (gh ask st.b id).1.1≠0 then (.bad (gh ask st.b id).1.1,{ st with b:=(gh ask st.b id).2 })
 else if (gh ask st.b id).1.2.length≠480 then (.bad 4,{ st with b:=(gh ask st.b id).2 })
 else (.ok (gh ask st.b id).1.2,{ st with b:=(gh ask st.b id).2 })
end Go.SL
namespace Go.Proofs.Fs
open RowKit SL Proofs.Ba
structure Cx (σ:Type) where
 T:TypeId
 rv:Value
 fr:FuncId
 rr:Value
 Mq:World->Prop
 ask:cO σ
 RI:σ->ai
def Cx.rd {σ:Type} (c:Cx σ):M:=.iface c.T c.rv
structure Cx.Ok {σ:Type} (c:Cx σ):Prop where
 hM:∀ (s:σ) (F:ai) (w:World),ag w (c.RI s*F)->c.Mq w
 hm:∀ (k:Nat) (w:World),c.Mq w->(method (k+1) c.T c.rv "Read").run prog w = .ok (c.fr,c.rr) w
 mT:∀ (args:Array Value) (w:World),(callFunc c.fr args).run prog w = .ok (.enter c.fr args) w
 hR:∀ (s:σ) (id:Int) (F:ai) (w:World),ag w (c.RI s*F)->Calls prog c.fr #[c.rr,.int .i64 id] w (oq (c.ask s id).1 (c.RI (c.ask s id).2) F w)
 hs:∀ (s:σ) (id:Int),(c.ask s id).1.1=0->small (c.ask s id).1.2
def cH {σ:Type} (c:Cx σ) (S:Hp) (b:Nat) (x:ik σ):ai:=aB 176 5 S b c.rd x.err x.W x.D*c.RI x.s
def QM {σ:Type} (c:Cx σ) (b:Nat) (S:Hp) (p:(Int × List UInt8) × ik σ) (F:ai) (w:O) (e:Ending) (g:O):Prop:=
 ∃ d f,Ext S d/\e = K (I #[f,Z H p.1.1])/\ag g (pN 5 p.1 f*(cH c d b p.2*(aq d*F)))/\aj w g
theorem Gk {σ:Type} {c:Cx σ} (f:c.Ok) (w:O) (S:Hp) (b:Nat) (x:ik σ) (id:Int) (F:ai) (h:ag w (cH c S b x*(aq S*F))) :
  Calls Q 204 #[X (U ⟨b,0,V⟩),Z H id] w (QM c b S (gh c.ask x id) F w):=by
 obtain ⟨err,W,D,s⟩:=x;have t:ag w (aB 176 5 S b c.rd err W D*(aq S*(c.RI s*F))):=h.to (by unfold cH;ac_rfl)
 by_cases z:err=0
 .subst z
  cases r:aP W id with
  | some l=>
   have q:gh c.ask ⟨0,W,D,s⟩ id=((0,l),⟨0,W,D,s⟩):=by unfold gh;simp only [ne_eq,not_true_eq_false,if_false,r]
   rw [q];refine (QD w S b c.rd W D id l _ t r).mono ?_;rintro e y ⟨g,i,d,rfl,j,o⟩;exact ⟨g,i,d,rfl,j.to (by unfold cH;ac_rfl),o⟩
  | none=>
   cases u:aP D id with
   | some l=>
    have q:gh c.ask ⟨0,W,D,s⟩ id=((0,l),⟨0,W,D,s⟩):=by unfold gh;simp only [ne_eq,not_true_eq_false,if_false,r,u]
    rw [q];refine (QW w S b c.rd W D id l _ t r u).mono ?_;rintro e y ⟨g,i,d,rfl,j,o⟩;exact ⟨g,i,d,rfl,j.to (by unfold cH;ac_rfl),o⟩
   | none=>
    have q:gh c.ask ⟨0,W,D,s⟩ id=rH c.ask ⟨0,W,D,s⟩ id:=by unfold gh;simp only [ne_eq,not_true_eq_false,if_false,r,u]
    have hR:=fun F w=>f.hR s id F w;have hs:=f.hs s id;rw [q];unfold rH;generalize c.ask s id=p at *;obtain ⟨⟨A,l⟩,v⟩:=p
    by_cases d:A=0
    .subst d
     rw [if_pos rfl];refine (Pk w S b c.T c.rv c.fr W D id l (c.RI s) (c.RI v) F c.rr c.Mq (f.hM s) (f.hM v) f.hm f.mT hR t r u (hs rfl)).mono ?_;rintro e y ⟨g,i,d,rfl,j,o⟩;exact ⟨g,i,d,rfl,j.to (by unfold cH Cx.rd;ac_rfl),o⟩
    .rw [if_neg d]
     refine (yM w S b c.T c.rv c.fr W D id A l (c.RI s) (c.RI v) F c.rr c.Mq (f.hM s) (f.hM v) f.hm f.mT hR d t r u).mono ?_;rintro e y ⟨g,i,d,rfl,j,o⟩;exact ⟨g,i,d,rfl,j.to (by unfold cH Cx.rd;ac_rfl),o⟩
 .have q:gh c.ask ⟨err,W,D,s⟩ id=((err,[]),⟨err,W,D,s⟩):=by unfold gh;rw [if_pos z]
  rw [q];refine (Ma w S b c.rd err W D id _ t z).mono ?_;rintro e y ⟨g,i,d,rfl,j,o⟩;exact ⟨g,i,d,rfl,j.to (by unfold cH;ac_rfl),o⟩
def Ji (c:Int):List PanicEntry:=[{ v:=.iface 220 (Z H c),recovered:=N }]
theorem jW (w:O):Calls Q 149 #[Z H 0] w fun e d=>e = K (I #[])/\w=d:=by
 go_enter func149,ntmps149
 go_wp2
 go_end0
 exact ⟨rfl,rfl⟩
theorem fF (w:O) (c:Int) (f:c≠0):Calls Q 149 #[Z H c] w fun e d=>e = .panicked (Ji c)/\w=d:=by
 go_enter func149,ntmps149
 go_wp2
 exact ⟨rfl,rfl,rfl⟩
theorem gE (w:O):Calls Q 86 #[J L] w fun e d=>e = K (I #[])/\w=d:=by
 go_enter func86,ntmps86
 go_wp2
 go_end0
 exact ⟨rfl,rfl⟩
theorem gK (w:O):Calls Q 86 #[J N] w fun e f=>e = .panicked (Ji 1)/\w=f:=by
 have d:=fF w 1 (by decide)
 go_enter func86,ntmps86
 go_wp2_with fail
 (refine d.mono ?_)
 rintro e g ⟨rfl,rfl⟩
 go_wp2
 exact ⟨rfl,rfl,rfl⟩
def cC (o:Option (List UInt8)) (v:M):ai:=fun h=>(o=V/\v = R V 0 0/\h=fun _=>V)\/∃ l,o=U l/\l.length=480/\bs 5 v l h
structure Wk (σ:Type) where
 c:Cx σ
 n:Nat
 k:Nat
 b:Nat
def Wk.cells {σ:Type} (x:Wk σ) (v:M) (t:Bool):Array M:=#[X (U ⟨x.b,0,V⟩),Z H (x.n:Int),v,J t]
def bJ {σ:Type} (x:Wk σ) (v:M) (S:Hp) (st:eB σ):ai:=pt x.k (Y (x.cells v st.dt) 149 (0,0))*cH x.c S x.b st.b
def aF {σ:Type} (x:Wk σ) (S:Hp) (st:eB σ):ai:=ex fun v=>bJ x v S st*cC st.bits v
def WQ {σ α:Type} (x:Wk σ) (g:α->M->ai) (S:Hp) (F:ai) (w:O):Rs α × eB σ->Ending->O->Prop
 | (.ok a,st'),e,f=>∃ d v,Ext S d/\aj w f/\e = K v/\ag f (g a v*(aF x d st'*(aq d*F)))
 | (.bad c,st'),e,f=>∃ d,Ext S d/\aj w f/\e = .panicked (Ji c)/\ag f (aF x d st'*(aq d*F))
def Sh {σ α:Type} (x:Wk σ) (g:M) (i:α->M->ai) (S:Hp) (F:ai) (w:O):Rs α × eB σ->Ending->O->Prop
 | (.ok a,st'),e,f=>∃ d v,Ext S d/\aj w f/\e = K v/\ag f (i a v*(bJ x g d st'*(aq d*F)))
 | (.bad c,st'),e,f=>∃ d,Ext S d/\aj w f/\e = .panicked (Ji c)/\ag f (bJ x g d st'*(aq d*F))
def jo (a:Unit) (v:M):ai:=fact (v = I #[])
def gi (l:List UInt8) (v:M):ai:=bs 5 v l
theorem xM {σ:Type} (x:Wk σ) (hc:x.c.Ok) (w:O) (u:M) (S:Hp) (st:eB σ) (id:Int) (F:ai) (h:ag w (bJ x u S st*(aq S*F))) :
  Calls Q 148 #[X (U ⟨x.k,0,V⟩),Z H id] w (Sh x u gi S F w (cU x.c.ask id st)):=by
 have E:ag w (cH x.c S x.b st.b*(aq S*(pt x.k (Y (x.cells u st.dt) 149 (0,0))*F))):=h.to (by unfold bJ;ac_rfl);have c0:w.cell? ⟨x.k,0,V⟩=U (X (U ⟨x.b,0,V⟩)):=E.aw.cell 0;have t:=Gk hc w S x.b st.b id _ E;have G:∀ p,gh x.c.ask st.b id=p->cU x.c.ask id st=if p.1.1≠0 then (.bad p.1.1,{ st with b:=p.2 }) else if p.1.2.length≠480 then (.bad 4,{ st with b:=p.2 }) else (.ok p.1.2,{ st with b:=p.2 }):=fun p r=>by subst r;rfl
 obtain ⟨⟨⟨B,l⟩,b'⟩,r⟩:∃ p,gh x.c.ask st.b id=p:=⟨_,rfl⟩
 have P:=G _ r;rw [r] at t;rw [P]
 by_cases v:B=0
 .subst v
  rw [if_neg (by simp)]
  by_cases q:l.length=480
  .rw [if_neg (by simp [q])]
   have b0:((480:Int) != 480)=N:=by decide
   have A:=ae q
   go_enter func148,ntmps148
   go_wp2_with fail
   (refine t.mono ?_)
   rintro e f ⟨g,C,o,rfl,j,i⟩;have d:=j.uz;obtain ⟨va,vc,rfl⟩:=aE d;rw [A.out] at d ⊢
   go_wp2_with fail
   (refine (jW f).mono ?_)
   rintro e y ⟨rfl,rfl⟩
   go_wp2_with fail
   go_ret
   exact ⟨g,_,o,i,rfl,by unfold bJ cH gi;exact d.to (by unfold cH;ac_rfl)⟩
  .rw [if_pos q]
   have b0:((l.length:Int) != 480)=L:=by rw [bne_iff_ne];omega
   have A:=ae q
   go_enter func148,ntmps148
   go_wp2_with fail
   (refine t.mono ?_)
   rintro e f ⟨g,C,o,rfl,j,i⟩;have d:=j.uz;obtain ⟨va,vc,rfl⟩:=aE d
   go_wp2_with fail
   (refine (jW f).mono ?_)
   rintro e y ⟨rfl,rfl⟩
   go_wp2_with fail
   (refine (fF f 4 (by decide)).mono ?_)
   rintro e y ⟨rfl,rfl⟩
   go_wp2_with fail
   exact ⟨rfl,g,o,i,rfl,by unfold bJ;exact d.right.to (by ac_rfl)⟩
 .rw [if_pos v]
  have z:=ae v
  go_enter func148,ntmps148
  go_wp2_with fail
  (refine t.mono ?_)
  rintro e f ⟨g,C,o,rfl,j,i⟩;obtain ⟨rfl,d⟩:=j.Cz z.out
  go_wp2_with fail
  (refine (fF f B z.out).mono ?_)
  rintro e y ⟨rfl,rfl⟩
  go_wp2_with fail
  exact ⟨rfl,g,o,i,rfl,by unfold bJ;exact d.to (by ac_rfl)⟩
end Go.Proofs.Fs
namespace Go.SL
open RowKit
section
variable {σ:Type}
def kq (err id:Int) (l:List UInt8):Int:=if err≠0 then err else if id<0\/l.length≠480 then 1 else 0
def bP (id:Int) (l:List UInt8):WM σ Unit:=fun st=>
 if kq st.b.err id l=0 then (.ok (),{ st with b:={ st.b with W:=SL.fw st.b.W id l } }) else (.bad (kq st.b.err id l),st)
def lJ (ask:cO σ):WM σ (List UInt8):=fun st=>match st.bits with
 | some l=>(.ok l,st)
 | none=>match cU ask 0 st with
  | (.ok l,st')=>(.ok l,{ st' with bits:=U l })
  | (.bad c,st')=>(.bad c,st')
def y8 (id:Nat) (t:Bool) (l:List UInt8):WM σ Unit:=fun st=>(.ok (),{ st with bits:=U (dU l id t),dt:=L })
def cJ (ask:cO σ) (id:Nat) (t:Bool):WM σ Unit:=WM.bind (lJ ask) (y8 id t)
def RA (l:List UInt8) (st:eB σ):Option Nat->Rs Nat × eB σ
 | some k=>(.ok k,{ st with bits:=U (dU l k L),dt:=L })
 | none=>(.bad 7,st)
def sw (n:Nat) (l:List UInt8):WM σ Nat:=fun st=>RA l st (fi l n)
def iL (ask:cO σ) (n:Nat):WM σ Nat:=WM.bind (lJ ask) (sw n)
theorem vp (ask:cO σ) (id:Int) (st:eB σ):(cU ask id st).2.bits=st.bits:=by
 unfold cU;split
 .rfl
 .split <;> rfl
theorem iU {ask:cO σ} {id:Int} {st st':eB σ} {l:List UInt8} (h:cU ask id st=(.ok l,st')):l.length=480:=by
 unfold cU at h
 split at h
 .cases h
 .split at h
  .cases h
  .rename_i d;simp only [Prod.mk.injEq,Rs.ok.injEq] at h;rw [<- h.1];exact Decidable.of_not_not d
theorem BS (id:Int) (l:List UInt8) (st:eB σ):(bP id l st).2.bits=st.bits:=by
 unfold bP;split <;> rfl
theorem JO {ask:cO σ} {st st':eB σ} {l:List UInt8} (h:lJ ask st=(.ok l,st')) (f:∀ l,st.bits=U l->l.length=480):st'.bits=U l/\l.length=480:=by
 unfold lJ at h
 split at h
 .rename_i i d
  obtain ⟨rfl,rfl⟩:=h;exact ⟨d,f _ d⟩
 .split at h
  .rename_i j g e
   obtain ⟨rfl,rfl⟩:=h;exact ⟨rfl,iU e⟩
  .cases h
end
end Go.SL
namespace Go.Proofs.Fs
open RowKit SL Proofs.Ba
variable {S:Hp} {v:M}
section
variable {σ α:Type}
theorem ag.fq {w:O} {x:Wk σ} {st:eB σ} {F:ai} (h:ag w (aF x S st*F)):∃ v,ag w (bJ x v S st*(cC st.bits v*F)):=by
 obtain ⟨v,h⟩:=ag.ax.1 h;exact ⟨v,h.to (by ac_rfl)⟩
theorem ag.jr {w:O} {x:Wk σ} {st:eB σ} {F:ai} (v:M) (h:ag w (bJ x v S st*(cC st.bits v*F))):ag w (aF x S st*F):=
 ag.ax.2 ⟨v,h.to (by ac_rfl)⟩
theorem ag.E6 {w:O} {F:ai} (h:ag w F):ag w (cC V (R V 0 0)*F):=
 (h.to (di _).symm).fp fun k d=>.inl ⟨rfl,rfl,d⟩
theorem ag.qG {w:O} {F:ai} {l:List UInt8} (e:l.length=480) (h:ag w (bs 5 v l*F)):ag w (cC (U l) v*F):=
 h.fp fun k d=>.inr ⟨l,rfl,e,d⟩
theorem ag.nU {w:O} {o:Option (List UInt8)} {F:ai} (h:ag w (cC o v*F)) :
  (o=V/\v = R V 0 0/\ag w F)\/∃ l,o=U l/\l.length=480/\ag w (bs 5 v l*F):=by
 obtain ⟨k,a,f,e,p,q,d,rfl⟩:=h;rcases p with ⟨rfl,rfl,rfl⟩|⟨l,rfl,i,g⟩
 .refine .inl ⟨rfl,rfl,_,a,?_⟩
  have:join (fun _=>V) e=e:=by funext c;simp [join]
  rw [this];exact q
 .exact .inr ⟨l,rfl,i,_,a,f,e,g,q,d,rfl⟩
theorem Sh.lift {x:Wk σ} {d:M} {l:α->M->ai} {F:ai} {w:O} {st:eB σ}:∀ {p:Rs α × eB σ} {e:Ending} {g:O},
  Sh x d l S (cC st.bits d*F) w p e g->p.2.bits=st.bits->WQ x l S F w p e g
 | (.ok a,st'),e,g,⟨f,v,o,q,r,i⟩,j=>by
  refine ⟨f,v,o,q,r,?_⟩;dsimp only at j;rw [<- j] at i;exact (ag.jr d (i.to (by ac_rfl):ag g (bJ x d f st'*(cC st'.bits d*(l a v*(aq f*F)))))).to (by ac_rfl)
 | (.bad c,st'),e,g,⟨f,o,q,r,i⟩,j=>by
  refine ⟨f,o,q,r,?_⟩;dsimp only at j;rw [<- j] at i;exact (ag.jr d (i.to (by ac_rfl):ag g (bJ x d f st'*(cC st'.bits d*(aq f*F)))))
theorem lh (x:Wk σ) (g:x.c.Ok) (w:O) (S:Hp) (st:eB σ) (id:Int) (F:ai) (h:ag w (aF x S st*(aq S*F))) :
  Calls Q 148 #[X (U ⟨x.k,0,V⟩),Z H id] w (WQ x gi S F w (cU x.c.ask id st)):=by
 obtain ⟨v,d⟩:=ag.fq h;refine (xM x g w v S st id (cC st.bits v*F) (d.to (by ac_rfl))).mono fun e i f=>Sh.lift f (vp _ _ _)
theorem Mw (err id:Int) (l:List UInt8):gU err id l=kq err id l:=rfl
theorem km (x:Wk σ) (w:O) (g:M) (S:Hp) (st:eB σ) (id:Int) (q:M) (l:List UInt8) (F:ai) (h:ag w (bJ x g S st*(aq S*F))) (B:Rd w q l) :
  Calls Q 106 #[X (U ⟨x.k,0,V⟩),Z H id,q] w (Sh x g jo S F w (bP id l st)):=by
 have z:ag w (aB 176 5 S x.b x.c.rd st.b.err st.b.W st.b.D*(aq S*(x.c.RI st.b.s*(pt x.k (Y (x.cells g st.dt) 149 (0,0))*F)))):=h.to (by unfold bJ cH;ac_rfl);have E:w.cell? ⟨x.k,0,V⟩=U (X (U ⟨x.b,0,V⟩)):=(h.to (by unfold bJ;ac_rfl:_=pt x.k (Y (x.cells g st.dt) 149 (0,0))*(cH x.c S x.b st.b*(aq S*F)))).cell 0;have f:=oE w S x.b x.c.rd st.b.err st.b.W st.b.D id q l _ z B;unfold gS at f;rw [Mw] at f;unfold bP
 by_cases d:kq st.b.err id l=0
 .rw [if_pos d]
  have u:uX st.b.err id l st.b.W=SL.fw st.b.W id l:=ud (by
   unfold kq at d
   split at d
   .rename_i r;exact absurd d r
   .rename_i r
    split at d
    .cases d
    .rename_i P
     exact ⟨Decidable.of_not_not r,by omega,by omega⟩)
  rw [d,u] at f;have y:=ae d
  go_enter func106,ntmps106
  go_wp2_with fail
  (refine f.mono ?_)
  rintro e v ⟨j,t,rfl,i,o⟩
  go_wp2_with fail
  (refine (jW v).mono ?_)
  rintro e C ⟨rfl,rfl⟩
  go_wp2_with fail
  go_end0
  exact ⟨j,_,t,o,rfl,ag.au.2 ⟨rfl,by unfold bJ cH;exact i.to (by ac_rfl)⟩⟩
 .rw [if_neg d]
  have u:uX st.b.err id l st.b.W=st.b.W:=nZ (by
   rintro ⟨A,i,G⟩;apply d;unfold kq;rw [if_neg (by simp [A]),if_neg (by omega)])
  rw [u] at f;have y:=ae d;generalize kq st.b.err id l=c at *
  go_enter func106,ntmps106
  go_wp2_with fail
  (refine f.mono ?_)
  rintro e v ⟨j,t,rfl,i,o⟩
  go_wp2_with fail
  (refine (fF v c y.out).mono ?_)
  rintro e C ⟨rfl,rfl⟩
  go_wp2_with fail
  exact ⟨rfl,j,t,o,rfl,by unfold bJ cH;exact i.to (by ac_rfl)⟩
theorem mg (x:Wk σ) (w:O) (S:Hp) (st:eB σ) (id:Int) (d:M) (l:List UInt8) (F:ai) (h:ag w (aF x S st*(aq S*F))) (i:Rd w d l) :
  Calls Q 106 #[X (U ⟨x.k,0,V⟩),Z H id,d] w (WQ x jo S F w (bP id l st)):=by
 obtain ⟨v,f⟩:=ag.fq h;refine (km x w v S st id d l (cC st.bits v*F) (f.to (by ac_rfl)) i).mono fun e j g=>Sh.lift g (BS _ _ _)
def SJ (x:Wk σ) (S:Hp) (F:ai) (w:O):Rs (List UInt8) × eB σ->Ending->O->Prop
 | (.ok l,st'),e,f=>∃ d v,Ext S d/\aj w f/\e = K v/\l.length=480/\ag f (bJ x v d st'*(bs 5 v l*(aq d*F)))
 | (.bad c,st'),e,f=>∃ d,Ext S d/\aj w f/\e = .panicked (Ji c)/\ag f (aF x d st'*(aq d*F))
theorem uw (x:Wk σ) (hc:x.c.Ok) (w:O) (S:Hp) (st:eB σ) (F:ai) (h:ag w (aF x S st*(aq S*F))) :
  Calls Q 101 #[X (U ⟨x.k,0,V⟩)] w (SJ x S F w (lJ x.c.ask st)):=by
 obtain ⟨v,B⟩:=ag.fq h;obtain ⟨b,o,dt⟩:=st;have G:w.cell? ⟨x.k,2,V⟩=U v:=(B.to (by unfold bJ;ac_rfl:_=pt x.k (Y (x.cells v dt) 149 (0,0))*(cH x.c S x.b b*(cC o v*(aq S*F))))).cell 2;rcases ag.nU (B.to (by ac_rfl:_=cC o v*(bJ x v S ⟨b,o,dt⟩*(aq S*F)))) with ⟨rfl,rfl,d⟩|⟨l,rfl,q,d⟩
 .have C:=xM x hc w (R V 0 0) S ⟨b,V,dt⟩ 0 F d
  have hq:=fun w=>Lib.run_eql_slice_nil (P:=Q) w 22 5 V 0 0 0 0 underlying22;have q:=fun l st'=>iU (ask:=x.c.ask) (id:=0) (st:=⟨b,V,dt⟩) (st':=st') (l:=l);have z:lJ x.c.ask ⟨b,V,dt⟩=match cU x.c.ask 0 ⟨b,V,dt⟩ with|(.ok l,st')=>(.ok l,{ st' with bits:=U l })|(.bad c,st')=>(.bad c,st'):=rfl
  have hb:=vp x.c.ask 0 ⟨b,V,dt⟩;rw [z];generalize cU x.c.ask 0 ⟨b,V,dt⟩=p at *;obtain ⟨c0,st'⟩:=p
  cases c0 with
  | ok l=>
   have b0:=q l st' rfl;have j:=ae b0
   go_enter func101,ntmps101
   go_wp2_with fail
   (refine C.mono ?_)
   rintro e E ⟨i,v,A,u,rfl,f⟩;unfold gi at f;obtain ⟨r,t,rfl⟩:=aE f;rw [j.out] at f ⊢;have y:ag E (pt x.k (Y (x.cells (R V 0 0) st'.dt) 149 (0,0))*(bs 5 (R r 480 t) l*(cH x.c i x.b st'.b*(aq i*F)))):=f.to (by unfold bJ;ac_rfl);have f2:=y.frozen 2;have P:=y.setCell 2 (R r 480 t);have g2:=y.cell 2
   go_wp2_with fail
   go_ret
   exact ⟨i,_,A,u.setCell _ _,rfl,j.out,by unfold bJ;exact P.to (by unfold Wk.cells;ac_rfl)⟩
  | bad c=>
   go_enter func101,ntmps101
   go_wp2_with fail
   (refine C.mono ?_)
   rintro e E ⟨i,A,u,rfl,f⟩
   go_wp2_with fail
   refine ⟨rfl,i,A,u,rfl,ag.jr (R V 0 0) ?_⟩;rw [hb];exact (ag.E6 f).to (by ac_rfl)
 .have z:lJ x.c.ask ⟨b,U l,dt⟩=(.ok l,⟨b,U l,dt⟩):=rfl
  rw [z];obtain ⟨r,t,rfl⟩:=aE d
  obtain ⟨g,rfl⟩:∃ g,r=U g:=by
   rcases d.cW with ⟨_,h0,_⟩|⟨g,d0,e0,he,_⟩
   .omega
   .cases he;exact ⟨_,rfl⟩
  have j:=ae q;rw [q] at d G;have hq:=fun w=>Lib.run_eql_slice_nil (P:=Q) w 22 5 (U g) 480 t 0 0 underlying22
  go_enter func101,ntmps101
  go_wp2_with fail
  go_ret
  exact ⟨S,_,Ext.refl S,aj.refl w,rfl,j.out,d.to (by ac_rfl)⟩
theorem vO (x:Wk σ) (hc:x.c.Ok) (w:O) (S:Hp) (st:eB σ) (id:Nat) (t:Bool) (F:ai) (b0:id<3840) (h:ag w (aF x S st*(aq S*F))) :
  Calls Q 90 #[X (U ⟨x.k,0,V⟩),Z H (id:Int),J t] w (WQ x jo S F w (cJ x.c.ask id t st)):=by
 have q:=uw x hc w S st F h;obtain ⟨⟨d0,st'⟩,u⟩:∃ p,lJ x.c.ask st=p:=⟨_,rfl⟩
 rw [u] at q
 cases d0 with
 | ok l=>
  have j:cJ x.c.ask id t st=y8 id t l st':=WM.aX u;rw [j]
  go_enter func90,ntmps90
  go_wp2_with fail
  (refine q.mono ?_)
  rintro e A ⟨d,v,o,g,rfl,r,f⟩;have hs:=ub A v l (bJ x v d st'*(aq d*F)) (f.to (by ac_rfl)) r id b0 t;have c0:=aE (f.ah);obtain ⟨y,z,rfl⟩:=c0;have B:=ae r;rw [r] at hs f ⊢
  go_wp2_with fail
  (refine hs.mono ?_)
  rintro e w2 ⟨rfl,E,C⟩;have i:ag w2 (pt x.k (Y (x.cells (R y 480 z) st'.dt) 149 (0,0))*(cH x.c d x.b st'.b*(bs 5 (R y 480 z) (dU l id t)*(aq d*F)))):=E.to (by unfold bJ;ac_rfl);have f3:=i.frozen 3;have g3:=i.cell 3;have G:=i.setCell 3 (J L)
  go_wp2_with fail
  go_end0
  refine ⟨d,_,o,(g.trans C).setCell _ _,rfl,ag.au.2 ⟨rfl,ag.jr (R y 480 z) ?_⟩⟩;have P:=ag.qG (l:=dU l id t) (by rw [fj];exact B.out) G.aw;exact P.to (by unfold bJ Wk.cells;simp only [P3,B3,R3];ac_rfl)
 | bad c=>
  have j:cJ x.c.ask id t st=(.bad c,st'):=WM.bf u;rw [j]
  go_enter func90,ntmps90
  go_wp2_with fail
  (refine q.mono ?_)
  rintro e A ⟨d,o,g,rfl,f⟩
  go_wp2_with fail
  exact ⟨rfl,d,o,g,rfl,f⟩
theorem bitsLen {w:O} {x:Wk σ} {st:eB σ} {F:ai} (h:ag w (aF x S st*F)):∀ l,st.bits=U l->l.length=480:=by
 intro l e;obtain ⟨v,f⟩:=ag.fq h;rcases ag.nU (f.to (by ac_rfl:_=cC st.bits v*(bJ x v S st*F))) with ⟨d,_⟩|⟨i,d,g,_⟩
 .rw [e] at d;cases d
 .rw [e] at d;cases d;exact g
def SN (v:M) (l:List UInt8) (F:ai) (w:O):Option Nat->Ending->O->Prop
 | none,e,d=>e = K (I #[Z H 0,J N])/\ag d (bs 5 v l*F)/\aj w d
 | some n,e,d=>e = K (I #[Z H (n:Int),J L])/\ag d (bs 5 v (dU l n L)*F)/\aj w d
theorem Ik (w:O) (v:M) (l:List UInt8) (F:ai) (h:ag w (bs 5 v l*F)) (j:l.length=480) (e:Nat) (i:e<=3840) :
  Calls Q 173 #[v,Z H (e:Int)] w (SN v l F w (fi l e)):=by
 refine JZ w v l F h j e i _ (fun d o f g=>?_) (fun n d o f g=>?_)
 .rw [d];exact ⟨rfl,f,g⟩
 .rw [d];exact ⟨rfl,f,g⟩
def MW (a:Nat) (v:M):ai:=fact (v = Z H (a:Int))
theorem oC (x:Wk σ) (hc:x.c.Ok) (hn:x.n<=3840) (w:O) (S:Hp) (st:eB σ) (F:ai) (h:ag w (aF x S st*(aq S*F))) :
  Calls Q 129 #[X (U ⟨x.k,0,V⟩)] w (WQ x MW S F w (iL x.c.ask x.n st)):=by
 have u:=fun (w:O) h=>uw x hc w S st F h;obtain ⟨v0,h1⟩:=ag.fq h;have A:=(h1.to (by unfold bJ;ac_rfl:_=pt x.k (Y (x.cells v0 st.dt) 149 (0,0))*(cH x.c S x.b st.b*(cC st.bits v0*(aq S*F))))).cell 1;obtain ⟨⟨d0,st'⟩,y⟩:∃ p,lJ x.c.ask st=p:=⟨_,rfl⟩
 rw [y] at u
 cases d0 with
 | ok l=>
  have E:iL x.c.ask x.n st=sw x.n l st':=WM.aX y;have c0:=JO y (bitsLen h);rw [E];unfold sw;have G:=fun w v F h g=>Ik w v l F h g x.n hn;obtain ⟨b0,ho⟩:∃ b0,fi l x.n=b0:=⟨_,rfl⟩
  rw [ho];rw [ho] at G
  cases b0 with
  | some n=>
   go_enter func129,ntmps129
   go_wp2_with fail
   go_region_held3 (fun r=>r.cell? ⟨x.k,1,V⟩=U (Z H (x.n:Int)))
    (first|exact A|exact P|exact k2|go_keep)
    (first
     | (go_at_call 101;refine (u w.drew h.drew).mono ?_;rintro e i ⟨d,v,q,j,rfl,g,f⟩;have P:i.cell? ⟨x.k,1,V⟩=U (Z H (x.n:Int)):=(f.to (by unfold bJ;ac_rfl:_=pt x.k (Y (x.cells v st'.dt) 149 (0,0))*(cH x.c d x.b st'.b*(bs 5 v l*(aq d*F))))).cell 1)
     | (go_at_call 173;refine (G i v (bJ x v d st'*(aq d*F)) (f.to (by ac_rfl)) g).mono ?_;rintro e t ⟨rfl,o,B⟩;have k2:t.cell? ⟨x.k,1,V⟩=U (Z H (x.n:Int)):=(o.to (by unfold bJ;ac_rfl:_=pt x.k (Y (x.cells v st'.dt) 149 (0,0))*(cH x.c d x.b st'.b*(bs 5 v (dU l n L)*(aq d*F))))).cell 1))
   have C:ag t (pt x.k (Y (x.cells v st'.dt) 149 (0,0))*(cH x.c d x.b st'.b*(bs 5 v (dU l n L)*(aq d*F)))):=o.to (by unfold bJ;ac_rfl);have f3:=C.frozen 3;have g3:=C.cell 3;have h5:=C.setCell 3 (J L);have z:=ae g
   go_wp2_with fail
   go_ret
   refine ⟨d,_,q,(((aj.refl w).drew.trans j).trans B).setCell _ _,rfl,ag.au.2 ⟨rfl,ag.jr v ?_⟩⟩;have h6:=ag.qG (l:=dU l n L) (by rw [fj];exact z.out) h5.aw;exact h6.to (by unfold bJ Wk.cells;simp only [P3,B3,R3];ac_rfl)
  | none=>
   go_enter func129,ntmps129
   go_wp2_with fail
   go_region_held3 (fun r=>r.cell? ⟨x.k,1,V⟩=U (Z H (x.n:Int)))
    (first|exact A|exact P|exact k2|go_keep)
    (first
     | (go_at_call 101;refine (u w.drew h.drew).mono ?_;rintro e i ⟨d,v,q,j,rfl,g,f⟩;have P:i.cell? ⟨x.k,1,V⟩=U (Z H (x.n:Int)):=(f.to (by unfold bJ;ac_rfl:_=pt x.k (Y (x.cells v st'.dt) 149 (0,0))*(cH x.c d x.b st'.b*(bs 5 v l*(aq d*F))))).cell 1)
     | (go_at_call 173;refine (G i v (bJ x v d st'*(aq d*F)) (f.to (by ac_rfl)) g).mono ?_;rintro e t ⟨rfl,o,B⟩;have k2:t.cell? ⟨x.k,1,V⟩=U (Z H (x.n:Int)):=(o.to (by unfold bJ;ac_rfl:_=pt x.k (Y (x.cells v st'.dt) 149 (0,0))*(cH x.c d x.b st'.b*(bs 5 v (l)*(aq d*F))))).cell 1))
   have z:=ae g
   go_wp2_with fail
   (refine (fF t 7 (by decide)).mono ?_)
   rintro e w3 ⟨rfl,rfl⟩
   go_wp2_with fail
   refine ⟨rfl,d,q,((aj.refl w).drew.trans j).trans B,rfl,ag.jr v ?_⟩;obtain ⟨h8,_⟩:=c0;rw [h8];exact (ag.qG z.out o).to (by ac_rfl)
 | bad c=>
  have E:iL x.c.ask x.n st=(.bad c,st'):=WM.bf y;rw [E]
  go_enter func129,ntmps129
  go_wp2_with fail
  refine wp_region_held_drew (S:=(fun r=>r.cell? ⟨x.k,1,V⟩=U (Z H (x.n:Int)))) (by kernel_rfl) ?_ (fun f0=>?_)
  ·(first|exact A|go_keep)
  refine tk 0 ?_;refine tk 2 ?_;refine tk 3 ?_;refine tk 4 ?_;refine tk 5 ?_;refine tr 1 fun e0 hK=>?_
  go_simp
  go_wp2_with (go_at_call 101;refine (u w.drew h.drew).mono ?_;rintro e i ⟨d,q,j,rfl,f⟩)
  exact ⟨rfl,d,q,(aj.refl w).drew.trans j,rfl,f⟩
end
end Go.Proofs.Fs
namespace Go.SL
open RowKit
structure Hd where
 id:Nat
 n:Nd
 row:List Int
def Hd.l (h:Hd):List Int:=(h.id:Int) :: (h.n.l++h.row)
def Hd.fit (h:Hd):Prop:=h.n.dr.length=16/\h.row.length=240
def Hd.aN (h:Hd) (i:Nat):Int:=if i<16 then h.n.dr.getD i 0 else h.row.getD (i-16) 0
def Hd.put (h:Hd) (i:Nat) (b:Int):Hd:=if i<16 then { h with n:={ h.n with dr:=h.n.dr.set i b } } else { h with row:=h.row.set (i-16) b }
theorem Hd.tM {h:Hd} (d:h.fit) (i:Nat) (b:Int):(h.put i b).fit:=by
 unfold Hd.put;split
 .exact ⟨by simpa using d.1,d.2⟩
 .exact ⟨d.1,by simpa using d.2⟩
theorem Hd.vG {h:Hd} (d:h.fit):h.l.length=261:=by
 simp [Hd.l,Nd.cells d.1,d.2]
theorem Hd.U3 {h:Hd} (f:h.fit) {i:Nat} (d:i<16):h.l.getD (4+i) 0=h.aN i:=by
 have e:h.l=(h.id:Int) :: h.n.kd :: h.n.lk :: h.n.sz :: (h.n.dr++([h.n.rw]++h.row)):=by simp [Hd.l,Nd.l]
 unfold Hd.aN;rw [if_pos d,e,V3 4 i];simp only [B2,Y2];rw [A3 (by rw [f.1];exact d)]
theorem Hd.Tl {h:Hd} (d:h.fit) {i:Nat} (f:16<=i):h.l.getD (21+(i-16)) 0=h.aN i:=by
 have e:h.l=((h.id:Int) :: h.n.l)++h.row:=rfl;unfold Hd.aN;rw [if_neg (by omega),e,B2,B2,G3 (by simp [Nd.cells d.1])];simp [Nd.cells d.1]
theorem Hd.TO {h:Hd} (d:h.fit) {i:Nat} (b:Int):(h.put i b).l=h.l.set (if i<16 then 4+i else 21+(i-16)) b:=by
 unfold Hd.put
 split
 .rename_i f
  have e:h.l=(h.id:Int) :: h.n.kd :: h.n.lk :: h.n.sz :: (h.n.dr++([h.n.rw]++h.row)):=by simp [Hd.l,Nd.l]
  rw [e,V3 4 i];simp only [B3];rw [List.set_append,if_pos (by rw [d.1];exact f)];simp [Hd.l,Nd.l]
 .rename_i f
  have e:h.l=((h.id:Int) :: h.n.l)++h.row:=rfl;have g:((h.id:Int) :: h.n.l).length=21:=by simp [Nd.cells d.1]
  rw [e,List.set_append,g,if_neg (by omega),show 21+(i-16)-21=i-16 by omega]
  rfl
section
variable {σ:Type}
def eF (n:Nat) (l:List Int):WM σ Unit:=fun st=>(if l.all (fun x=>decide (x<n))=L then .ok () else .bad 4,st)
end
end Go.SL
namespace Go.Proofs.Fs
open RowKit SL Proofs.Ba
def aO (d:Nat) (h:Hd):ai:=fact h.fit*pt d (Y (ints h.l) 136 (0,0))
theorem ag.held {w:O} {e:Nat} {h:Hd} {F:ai}:ag w (aO e h*F)↔h.fit/\ag w (pt e (Y (ints h.l) 136 (0,0))*F):=by
 constructor
 .intro d;exact ag.au.1 (d.to (ay _ _ _))
 .intro d;exact (ag.au.2 d).to (ay _ _ _).symm
def O5 (n:Nat) (l:List Int) (w:O) (u:M) (wr:O):Prop:=
 ∃ k:Nat,k<=l.length/\u = Z H (k:Int)/\(∀ j,j<k->l.getD j 0<n)/\w=wr
theorem jk (w:O) (k n:Nat) (v:M) (l:List Int) (hl:l.length<=1000) (B:oM w v l) (h1:w.cell? ⟨k,1,V⟩=U (Z H (n:Int)))
  (q:Ending->O->Prop) (S:l.all (fun x=>decide (x<n))=L->q (K (I #[])) w) (P:l.all (fun x=>decide (x<n))=N->q (.panicked (Ji 4)) w) :
  Calls Q 150 #[X (U ⟨k,0,V⟩),v] w q:=by
 have E:=ae S;have C:=ae P;have b0:(l.length:Int)<=1000:=by omega
 have z:=fun j (d:j<l.length)=>B.UT d;obtain ⟨va,vc,rfl⟩:=B.DU;obtain ⟨m,hm⟩:∃ m,l.length=m:=⟨_,rfl⟩
 rw [hm] at b0 z ⊢;have f:=ae hm;clear hm hl
 go_enter func150,ntmps150
 go_wp2_with fail
 go_loopw [8] (fun u wr=>O5 n l w u wr) (fun u _=>m-(intOf u).toNat)
 case atStart=>exact ⟨0,Nat.zero_le _,rfl,fun j d=>absurd d (J2 _),rfl⟩
 case round=>
  obtain ⟨j,d,rfl,y,rfl⟩:=hrel;rw [f.out] at d
  by_cases A:j<m
  .have h0:(j:Int)<(m:Int):=by omega
   obtain ⟨g0,j0,c,e,hc⟩:=z j A;obtain ⟨rfl,-,rfl⟩:=e;have i0:l.getD j 0 ∈ l:=by rw [B2,J3 (by rw [f.out];exact A)];exact List.getElem_mem _
   by_cases t:l.getD j 0<n
   .have d0:∀ i,i<j+1->l.getD i 0<n:=fun i g=>by
     rcases Nat.lt_or_eq_of_le (Nat.le_of_lt_succ g) with r|r
     .exact y i r
     .rw [r];exact t
    have G:=ae d0;have e0:¬ ((n:Int)<=l.getD j 0):=by omega
    go_wp2_with fail
    go_roundw
    case rel=>exact ⟨j+1,by rw [f.out];omega,by go_num,G.out,rfl⟩
    case measure=>simp [intOf];omega
   .have e0:(n:Int)<=l.getD j 0:=by omega
    have c0:l.all (fun x=>decide (x<n))=N:=by grind
    have o:=ae (C.out c0)
    go_wp2_with fail
    (refine (fF _ 4 (by decide)).mono ?_)
    rintro e w2 ⟨rfl,rfl⟩
    go_wp2_with fail
    exact ⟨rfl,o.out⟩
  .obtain rfl:j=m:=by omega
   have f0:l.all (fun x=>decide (x<n))=L:=by
    rw [List.all_eq_true];intro x t;obtain ⟨i,g,rfl⟩:=List.getElem_of_mem t;have:=y i (by rw [<- f.out];exact g);rw [B2,J3 g] at this;simpa using this
   have o:=ae (E.out f0)
   go_wp2_with fail
   go_end0
   exact o.out
def Kc (z:Int) (w:O) (e:Ending) (d:O):Prop:=e = K (Z H z)/\w=d
theorem nJ (w:O) (d:Nat) (h:Hd) (F:ai) (hs:ag w (aO d h*F)) (i:Nat) (r:i<256) :
  Calls Q 89 #[X (U ⟨d,0,V⟩),Z H (i:Int)] w (Kc (h.aN i) w):=by
 obtain ⟨f,o⟩:=ag.held.1 hs
 have g:∀ j,j<261->w.cell? ⟨d,j,V⟩=U (Z H (h.l.getD j 0)):=fun j q=>by
  rw [o.cell,bG (by rw [Hd.vG f];exact q)]
 by_cases l:i<16
 .have e:=g (4+i) (by omega)
  rw [Hd.U3 f l] at e
  go_enter func89,ntmps89
  go_wp2_with fail
  go_ret
  exact ⟨rfl,rfl⟩
 .have e:=g (21+(i-16)) (by omega)
  rw [Hd.Tl f (by omega)] at e
  go_enter func89,ntmps89
  go_wp2_with fail
  go_ret
  exact ⟨rfl,rfl⟩
def Tc (f:Nat) (h:Hd) (F:ai) (w:O) (e:Ending) (d:O):Prop:=e = K (I #[])/\ag d (aO f h*F)/\aj w d
theorem p9 (w:O) (d:Nat) (h:Hd) (F:ai) (hs:ag w (aO d h*F)) (i:Nat) (z:i<256) (b:Int) :
  Calls Q 111 #[X (U ⟨d,0,V⟩),Z H (i:Int),Z H b] w (Tc d (h.put i b) F w):=by
 obtain ⟨l,e⟩:=ag.held.1 hs
 have r:∀ j,j<261->w.cell? ⟨d,j,V⟩=U (Z H (h.l.getD j 0)):=fun j x=>by
  rw [e.cell,bG (by rw [Hd.vG l];exact x)]
 have u:∀ j,ag (w.setCell ⟨d,j,V⟩ (Z H b)) (pt d (Y (ints (h.l.set j b)) 136 (0,0))*F):=fun j=>by
  have:=e.setCell j (Z H b)
  rwa [gH] at this
 have f:=Hd.TO l (i:=i) b;have t:=Hd.tM l i b
 by_cases q:i<16
 .have v:=r (4+i) (by omega)
  have y:=e.frozen (4+i);rw [if_pos q] at f;have o:=ag.held.2 ⟨t,by rw [f];exact u (4+i)⟩;have g:=ae o
  go_enter func111,ntmps111
  go_wp2_with fail
  go_end0
  exact ⟨rfl,g.out,(aj.refl w).setCell _ _⟩
 .have v:=r (21+(i-16)) (by omega)
  have y:=e.frozen (21+(i-16));rw [if_neg q] at f;have o:=ag.held.2 ⟨t,by rw [f];exact u _⟩;have g:=ae o
  go_enter func111,ntmps111
  go_wp2_with fail
  go_end0
  exact ⟨rfl,g.out,(aj.refl w).setCell _ _⟩
end Go.Proofs.Fs
namespace Go.SL
open RowKit
def ku (d:List UInt8):Nd × Int:=if ((iv d).ok && (d.drop 41).all (· == 0))=L then (iv d,0) else (⟨0,0,0,A2 16 0,0⟩,4)
def lH (d:List UInt8):List Int × Int:=if (bQ d 0 240).all cZ=L then (bQ d 0 240,0) else (A2 240 0,4)
theorem ES (d:List UInt8):(ku d).1.dr.length=16:=by
 unfold ku;split
 .exact bH _ _ _
 .rfl
theorem A8 (d:List UInt8):(lH d).1.length=240:=by
 unfold lH;split
 .exact bH _ _ _
 .rfl
theorem QB (d:List UInt8):(ku d).2=0\/(ku d).2=4:=by unfold ku;split;exact .inl rfl;exact .inr rfl
theorem QK (d:List UInt8):(lH d).2=0\/(lH d).2=4:=by unfold lH;split;exact .inl rfl;exact .inr rfl
section
variable {σ:Type}
def iX (n:Nat) (id:Nat) (d:Nd) (row:List Int):WM σ Hd:=WM.bind (eF n d.dr) fun _=>WM.bind (eF n row) fun _=>WM.pure ⟨id,d,row⟩
def Qq (p:Nd × Int) (k:Nd->WM σ Hd):WM σ Hd:=fun st=>if p.2=0 then k p.1 st else (.bad p.2,st)
def Ni (p:List Int × Int) (k:List Int->WM σ Hd):WM σ Hd:=fun st=>if p.2=0 then k p.1 st else (.bad p.2,st)
def kU (ask:cO σ) (n:Nat) (id:Nat) (d:Nd):WM σ Hd:=fun st=>
 if d.rw=0 then iX n id d (A2 240 0) st
 else (WM.bind (eF n [d.rw]) fun _=>WM.bind (cU ask d.rw) fun e=>Ni (lH e) (iX n id d)) st
def fY (ask:cO σ) (n:Nat) (id:Int):WM σ Hd:=fun st=>
 if 1<=id/\id<n then (WM.bind (cU ask id) fun d=>Qq (ku d) (kU ask n id.toNat)) st else (.bad 1,st)
end
end Go.SL
namespace Go.Proofs.Fs
open RowKit SL Proofs.Ba
theorem AV (d e f x y z A B C E G g i j l o q r t u v:Int):prog.built 136 [(0,Z H d),(1,.agg #[Z H e,Z H f,Z H x,Z H y,Z H z,Z H A,Z H B,Z H C,Z H E,Z H G,Z H g,Z H i,Z H j,Z H l,Z H o,Z H q,Z H r,Z H t,Z H u,Z H v])]=U (ints ([d,e,f,x,y,z,A,B,C,E,G,g,i,j,l,o,q,r,t,u,v]++A2 240 0)):=by kernel_rfl
theorem Rb {l:List Int} (h:l.length=16):∃ a0 d q a3 a4 a5 r t u a9 e f g i j o,l=[a0,d,q,a3,a4,a5,r,t,u,a9,e,f,g,i,j,o]:=by
 match l,h with
 | [a0,d,q,a3,a4,a5,r,t,u,a9,e,f,g,i,j,o],_=>exact ⟨a0,d,q,a3,a4,a5,r,t,u,a9,e,f,g,i,j,o,rfl⟩
theorem pz (d:Int) (n:Nd) (h:n.dr.length=16):prog.built 136 [(0,Z H d),(1,.agg (n.l.map (Z1 H)).toArray)]=U (ints (d :: (n.l++A2 240 0))):=by
 obtain ⟨v,x,y,dr,rw⟩:=n;obtain ⟨a0,e,q,a3,a4,a5,r,t,u,a9,f,g,i,j,l,o,rfl⟩:=Rb h;exact AV d v x y a0 e q a3 a4 a5 r t u a9 f g i j l o rw
theorem gJ {P:Program} {f:Array Oper} {rest:List Oper} {o:Oper} {a:Act} {w:O} {d:Exit->Act->O->Prop} (j:o.guard=V) (t:TypeId) (parts:Array (Nat × Operand)) (r:o.op = .build t parts)
  (l:List (Nat × M)) (q:parts.toList.map (fun p=>(p.1,a.eval p.2))=l) (C:Array M) (g:P.built t l=U C) (h:wpList P f d rest (a.put o.dst (.agg C)) w):wpList P f d (o :: rest) a w:=by
 have e:P.built t (parts.map fun (i,x)=>(i,a.eval x)).toList=U C:=by rw [Array.toList_map];exact q▸g
 exact wpList_build j t parts r (by rw [e];rfl) (by rw [e];exact h)
def TU (d:List UInt8) (w:O) (e:Ending) (f:O):Prop:=e = K (I #[(ku d).1.v,Z H (ku d).2])/\ag f (whole w)/\aj w f
def Qf (d:List UInt8) (w:O) (e:Ending) (f:O):Prop:=e = K (I #[.agg (ints (lH d).1),Z H (lH d).2])/\ag f (whole w)/\aj w f
theorem Oo (w:O) (v:M) (d:List UInt8) (o:Rd w v d) (l:d.length=480):Calls Q 147 #[v] w (TU d w):=by
 refine pP w v d o l _ (fun f j q g i=>?_) (fun f q g i=>?_)
 .have e:ku d=(iv d,0):=if_pos (by rw [f,j];rfl)
  exact ⟨by rw [e],g,i⟩
 .have e:ku d=(⟨0,0,0,A2 16 0,0⟩,4):=if_neg (by rcases f with h|h <;> rw [h] <;> simp)
  exact ⟨by rw [e];rfl,g,i⟩
theorem Nj (w:O) (v:M) (d:List UInt8) (l:Rd w v d) (j:d.length=480):Calls Q 151 #[v] w (Qf d w):=by
 refine wL w v d l j _ (fun f o g i=>?_) (fun f o g i=>?_)
 .have e:lH d=(bQ d 0 240,0):=if_pos f
  exact ⟨by rw [e],g,i⟩
 .have e:lH d=(A2 240 0,4):=if_neg (by rw [f];simp)
  exact ⟨by rw [e];rfl,g,i⟩
section
variable {σ α:Type}
theorem yL {w:O} {x:Wk σ} {S:Hp} {st:eB σ} {F:ai} (h:ag w (aF x S st*F)):w.cell? ⟨x.k,1,V⟩=U (Z H (x.n:Int)):=by
 obtain ⟨v,d⟩:=ag.fq h;exact (d.to (by unfold bJ;ac_rfl:_=pt x.k (Y (x.cells v st.dt) 149 (0,0))*(cH x.c S x.b st.b*(cC st.bits v*F)))).cell 1
def oP (h:Hd) (v:M):ai:=ex fun d=>fact (v=az d)*aO d h
theorem Kt {ask:cO σ} {n:Nat} {id:Int} {st:eB σ} (h:¬ (1<=id/\id<n)):fY ask n id st=(.bad 1,st):=if_neg h
theorem Iu {ask:cO σ} {n:Nat} {id:Int} {st d:eB σ} {c:Int} (h:1<=id/\id<n) (e:cU ask id st=(.bad c,d)):fY ask n id st=(.bad c,d):=
 (if_pos h).trans (WM.bf e)
theorem Io {ask:cO σ} {n:Nat} {id:Int} {st e:eB σ} {d:List UInt8} {nd:Nd} (h:1<=id/\id<n) (g:cU ask id st=(.ok d,e)) (f:ku d=(nd,4)):fY ask n id st=(.bad 4,e):=by
 refine ((if_pos h).trans (WM.aX g)).trans ?_;rw [f];exact if_neg (show ¬ (4:Int)=0 by decide)
theorem M8 {ask:cO σ} {n:Nat} {id:Int} {st e:eB σ} {d:List UInt8} {nd:Nd} (h:1<=id/\id<n) (g:cU ask id st=(.ok d,e)) (f:ku d=(nd,0)):fY ask n id st=kU ask n id.toNat nd e:=by
 refine ((if_pos h).trans (WM.aX g)).trans ?_;rw [f];exact if_pos rfl
theorem ij {n:Nat} {l:List Int} {st:eB σ} (h:l.all (fun x=>decide (x<n))=L):eF n l st=(.ok (),st):=by unfold eF;rw [if_pos h]
theorem pI {n:Nat} {l:List Int} {st:eB σ} (h:l.all (fun x=>decide (x<n))=N):eF n l st=(.bad 4,st):=by unfold eF;rw [if_neg (by rw [h];simp)]
theorem xT {n id:Nat} {nd:Nd} {row:List Int} {st:eB σ} (d:nd.dr.all (fun x=>decide (x<n))=L) (e:row.all (fun x=>decide (x<n))=L):iX n id nd row st=(.ok ⟨id,nd,row⟩,st):=
 (WM.aX (ij d)).trans (WM.aX (ij e))
theorem wg {n id:Nat} {nd:Nd} {row:List Int} {st:eB σ} (d:nd.dr.all (fun x=>decide (x<n))=L) (e:row.all (fun x=>decide (x<n))=N):iX n id nd row st=(.bad 4,st):=
 (WM.aX (ij d)).trans (WM.bf (pI e))
theorem wo {n id:Nat} {nd:Nd} {row:List Int} {st:eB σ} (d:nd.dr.all (fun x=>decide (x<n))=N):iX n id nd row st=(.bad 4,st):=
 WM.bf (pI d)
theorem Nl {ask:cO σ} {n id:Nat} {nd:Nd} {st:eB σ} (h:nd.rw=0):kU ask n id nd st=iX n id nd (A2 240 0) st:=if_pos h
theorem KQ {ask:cO σ} {n id:Nat} {nd:Nd} {st:eB σ} (h:nd.rw≠0) (d:[nd.rw].all (fun x=>decide (x<n))=N):kU ask n id nd st=(.bad 4,st):=
 (if_neg h).trans (WM.bf (pI d))
theorem Ks {ask:cO σ} {n id:Nat} {nd:Nd} {st d:eB σ} {c:Int} (h:nd.rw≠0) (e:[nd.rw].all (fun x=>decide (x<n))=L) (f:cU ask nd.rw st=(.bad c,d)):kU ask n id nd st=(.bad c,d):=
 (if_neg h).trans ((WM.aX (ij e)).trans (WM.bf f))
theorem Np {ask:cO σ} {n id:Nat} {nd:Nd} {st e:eB σ} {d:List UInt8} {row:List Int} (h:nd.rw≠0) (f:[nd.rw].all (fun x=>decide (x<n))=L) (g:cU ask nd.rw st=(.ok d,e)) (i:lH d=(row,4)):kU ask n id nd st=(.bad 4,e):=by
 refine (if_neg h).trans ((WM.aX (ij f)).trans ((WM.aX g).trans ?_));rw [i];exact if_neg (show ¬ (4:Int)=0 by decide)
theorem Jx {ask:cO σ} {n id:Nat} {nd:Nd} {st e:eB σ} {d:List UInt8} {row:List Int} (h:nd.rw≠0) (f:[nd.rw].all (fun x=>decide (x<n))=L) (g:cU ask nd.rw st=(.ok d,e)) (i:lH d=(row,0)):kU ask n id nd st=iX n id nd row e:=by
 refine (if_neg h).trans ((WM.aX (ij f)).trans ((WM.aX g).trans ?_));rw [i];exact if_pos rfl
theorem BF (id:Int) (e z r:List Int) (d:e.length=20) (i:z.length=240) (f:r.length=240):fM (ints (id :: (e++z))) 21 (r.map (Z1 H))=ints (id :: (e++r)):=by
 have o:(ints (id :: (e++z))).size=261:=by rw [dO];simp [d,i]
 apply Array.ext_getElem?;intro k;rw [iV _ _ _ _ (by rw [K2,f,o];decide),K2,f,dH,dH]
 by_cases g:21<=k/\k<21+240
 .rw [if_pos g,K3]
  obtain ⟨j,rfl⟩:∃ j,k=j+1:=⟨k-1,by omega⟩
  rw [Y2,G3 (by omega),d];congr 2
 .rw [if_neg g]
  rcases Nat.lt_or_ge k 21 with l|l
  .cases k with
   | zero=>rfl
   | succ j=>rw [Y2,Y2,A3 (by omega),A3 (by omega)]
  .rw [Y3 (by simp [d,i];omega),Y3 (by simp [d,f];omega)]
theorem vC (x:Wk σ) (hc:x.c.Ok) (w:O) (c0:Hp) (st:eB σ) (id:Int) (F:ai) (h:ag w (aF x c0 st*(aq c0*F))) (q:Ending->O->Prop)
  (hQ:∀ e w',WQ x oP c0 F w (fY x.c.ask x.n id st) e w'->q e w') :
  Calls Q 85 #[X (U ⟨x.k,0,V⟩),Z H id] w q:=by
 have y:=yL h
 by_cases k0:1<=id/\id<x.n
 .have P:=lh x hc w c0 st id F h
  have Hid:=ae k0;obtain ⟨i1,i2⟩:=k0;clear h;obtain ⟨⟨W1,aR⟩,hp⟩:∃ p,cU x.c.ask id st=p:=⟨_,rfl⟩
  rw [hp] at P
  cases W1 with
  | bad c=>
   have o:=ae hQ;have Hp:=ae (Iu Hid.out hp);clear hp hQ
   go_enter func85,ntmps85
   go_wp2_with fail
   (with_reducible refine (gE w).mono ?_)
   rintro e S ⟨rfl,rfl⟩
   go_wp2_with fail
   (with_reducible refine P.mono ?_)
   rintro e w1 ⟨S',hS,d1,rfl,h2⟩
   go_wp2_with fail
   exact ⟨rfl,o.out _ _ (by rw [Hp.out];exact ⟨S',hS,d1,rfl,h2⟩)⟩
  | ok F0=>
   have hL:=iU hp;have f:=ae (ES F0);have y1:=QB F0;have A:=fun w1 v1 P=>Oo w1 v1 F0 P hL;unfold TU at A;have o:=ae hQ;have l1:=fun d=>M8 (nd:=d) Hid.out hp;have i0:=fun d=>Io (nd:=d) Hid.out hp;generalize ku F0=p at *;obtain ⟨d,c⟩:=p;dsimp only at y1 f A;have R0:=ae (l1 d);have f0:=ae (i0 d);have K1:d.v = .agg (d.l.map (Z1 H)).toArray:=rfl;rw [K1] at A;clear hp hQ l1 i0 hL K1
   go_enter func85,ntmps85
   go_wp2_with fail
   (with_reducible refine (gE w).mono ?_)
   rintro e S ⟨rfl,rfl⟩
   go_wp2_with fail
   (with_reducible refine P.mono ?_)
   rintro e w1 ⟨t,v1,G,d1,rfl,h1⟩;have zR:=A w1 v1 h1.oD;have Hk:=ae (fun w' (h:ag w' (whole w1))=>ag.du h h1);clear P y A
   go_wp2_with fail
   (with_reducible refine zR.mono ?_)
   rintro e S ⟨rfl,h2,d2⟩;have H2:=(Hk.out S h2).right;have D2:=d1.trans d2;clear zR Hk h1 h2 d1 d2;have hZ:=H2.alloc (Y #[Z H 0,Z H 0,Z H 0,Z H 0,Z H 0,Z H 0,Z H 0,Z H 0,Z H 0,Z H 0,Z H 0,Z H 0,Z H 0,Z H 0,Z H 0,Z H 0,Z H 0,Z H 0,Z H 0,Z H 0] 65 (0,0));have DZ:=D2.alloc (Y #[Z H 0,Z H 0,Z H 0,Z H 0,Z H 0,Z H 0,Z H 0,Z H 0,Z H 0,Z H 0,Z H 0,Z H 0,Z H 0,Z H 0,Z H 0,Z H 0,Z H 0,Z H 0,Z H 0,Z H 0] 65 (0,0));have f1:(d.l.map (Z1 H)).toArray.size=20:=by simp [Nd.cells f.out]
   have u1:(d.l.map (Z1 H)).toArray.all (·.oneCell')=L:=by simp [L3]
   have E1:(prog.info? 65).map (·.size)=U (d.l.map (Z1 H)).toArray.size:=by rw [f1];exact bE
   have N1:=ae f1;have O1:=ae u1;have T1:=ae E1;have B:=hZ.setRow (cs':=(d.l.map (Z1 H)).toArray);have j1:=ae (DZ.setRow S.heap.size (d.l.map (Z1 H)).toArray);have Hz:=ae hZ.heap;clear f1 u1 E1 H2 D2 DZ hZ
   go_wp2_with (refine wpList_store_row (by exact rfl) 65 (.tmp 5) (.tmp 24) (by exact rfl) S.heap.size (d.l.map (Z1 H)).toArray (by exact rfl) (by exact rfl) 65 _ (by with_reducible exact Hz.out) T1.out (by rw [N1.out];rfl) O1.out ?_)
   generalize S.heap.size=i at *;generalize World.setRow _ _ _=l at *;clear Hz;rcases y1 with rfl|rfl
   .have C:=ae (R0.out rfl)
    clear R0 f0;have e1:=pz id d f.out;obtain ⟨g,L0⟩:∃ U1,U1=A2 240 (0:Int):=⟨_,rfl⟩
    rw [<- L0] at e1;have r:RowKit.Hid (g.length=240):=by show g.length=240;rw [L0];rfl
    have L1:=ae L0;clear L0;have s0:=ae e1
    have B1:l.rangeAt i 0 (d.l.map (Z1 H)):=fun Y1 v hv=>by
     rw [Nat.zero_add,B.cell,List.getElem?_toArray];exact hv
    have q1:(prog.info? 65).map (·.size)=U (d.l.map (Z1 H)).length:=by rw [K2,Nd.cells f.out];exact bE
    have x0:=ae B1;have u0:=ae q1;clear e1 B1 q1;have c4:l.cell? ⟨i,19,V⟩=U (Z H d.rw):=(B.cell 19).trans (Nd.G2 f.out);have S1:=ae B;have s1:i<l.heap.size:=B.lt;clear B;have K0:ag (l.alloc (Y (ints (id :: (d.l++g))) 136 (0,0))) (pt l.heap.size (Y (ints (id :: (d.l++g))) 136 (0,0))*(pt i (Y (d.l.map (Z1 H)).toArray 65 (0,0))*(aF x t aR*(aq t*F)))):=S1.out.alloc _;have D0:=ae (j1.out.alloc (Y (ints (id :: (d.l++g))) 136 (0,0)));have T0:=ae K0;have t1:l.heap.size<(l.alloc (Y (ints (id :: (d.l++g))) 136 (0,0))).heap.size:=K0.lt;have b1:(l.alloc (Y (ints (id :: (d.l++g))) 136 (0,0))).cell? ⟨i,19,V⟩=U (Z H d.rw):=(K0.ah.cell 19).trans (Nd.G2 f.out);clear K0
    (with_reducible refine (jW _).mono ?_)
    rintro e w4 ⟨rfl,rfl⟩
    by_cases d0:d.rw=0
    .have e0:=ae ((Nl (ask:=x.c.ask) (n:=x.n) (id:=id.toNat) (st:=aR) d0).trans (by rw [<- L1.out]))
     rw [d0] at c4 b1
     go_wp2_with (first
      | (refine wpList_load_mid (by exact rfl) 65 (.tmp 5) (by exact rfl) i 0 (by exact rfl) (d.l.map (Z1 H)) _ (by with_reducible exact x0.out) underlying65 rfl (by with_reducible exact u0.out) ?_)
      | (refine gJ (by exact rfl) 136 #[(0,.tmp 28),(1,.tmp 29)] (by exact rfl) _ (by exact rfl) _ (by exact s0.out) ?_))
     have z:=T0.out;generalize l.alloc (Y (ints (id :: (d.l++g))) 136 (0,0))=w5 at *;generalize l.heap.size=j at *;clear c4 b1 x0 u0 s1 t1 s0
     have n0:oM w5 (R (U ⟨i,3,V⟩) 16 16) d.dr:=by
      have h9:ag w5 (pt i (Y (ints d.l) 65 (0,0))*_):=z.ah;have:=oM.row h9 3 16 (by rw [Nd.cells f.out];decide) (by decide)
      rwa [Nd.lF f.out] at this
     have o0:oM w5 (R (U ⟨j,21,V⟩) 240 240) g:=by
      have:=oM.row z 21 240 (by rw [E2,W3,Nd.cells f.out,r.out];decide) (by decide)
      rwa [show ((id :: (d.l++g)).drop 21).take 240=g from by rw [Z3,List.drop_left' (Nd.cells f.out),J4 (by rw [r.out];decide)]] at this
     have y:w5.cell? ⟨x.k,1,V⟩=U (Z H (x.n:Int)):=yL z.right.right;have hA:∀ q,_->_->Calls Q 150 #[X (U ⟨x.k,0,V⟩),R (U ⟨i,3,V⟩) 16 16] w5 q:=jk w5 x.k x.n _ d.dr (by rw [f.out];decide) n0 y;have E:∀ q,_->_->Calls Q 150 #[X (U ⟨x.k,0,V⟩),R (U ⟨j,21,V⟩) 240 240] w5 q:=jk w5 x.k x.n _ g (by rw [r.out];decide) o0 y;have HT:=ae z;clear n0 o0 y z
     go_wp2_with fail
     refine hA _ (fun p0=>?_) (fun l0=>?_)
     .have h0:=ae p0
      clear p0 hA
      go_wp2_with fail
      refine E _ (fun q0=>?_) (fun m0=>?_)
      .have a1:=ae q0
       clear q0 E
       go_wp2_with fail
       refine o.out _ _ ?_;rw [C.out.trans (e0.out.trans (xT h0.out a1.out))];refine ⟨t,_,G,D0.out,rfl,?_⟩;refine ag.ax.2 ⟨j,(ag.au.2 ⟨rfl,ag.held.2 ⟨⟨f.out,r.out⟩,?_⟩⟩:ag _ (fact _*_)).to (ay _ _ _).symm⟩;have e:(Hd.l ⟨id.toNat,d,g⟩)=id :: (d.l++g):=by show ((id.toNat:Int) :: _)=_;rw [X3 (by omega)]
       rw [e];exact (HT.out.to (by ac_rfl:_=pt i (Y (d.l.map (Z1 H)).toArray 65 (0,0))*(pt j (Y (ints (id :: (d.l++g))) 136 (0,0))*(aF x t aR*(aq t*F))))).right
      .have X0:=ae m0
       clear m0 E
       go_wp2_with fail
       exact ⟨rfl,o.out _ _ (by rw [C.out.trans (e0.out.trans (wg h0.out X0.out))];exact ⟨t,G,D0.out,rfl,HT.out.right.right⟩)⟩
     .have W0:=ae l0
      clear l0 hA E
      go_wp2_with fail
      exact ⟨rfl,o.out _ _ (by rw [C.out.trans (e0.out.trans (wo W0.out))];exact ⟨t,G,D0.out,rfl,HT.out.right.right⟩)⟩
    .have X1:(d.rw != 0)=L:=by simpa using d0
     have Y0:=ae d0;have e0:=ae (KQ (ask:=x.c.ask) (n:=x.n) (id:=id.toNat) (st:=aR) d0);have j0:=T0.out.alloc (Y #[Z H d.rw] 3 (0,0));have D1:=ae (D0.out.alloc (Y #[Z H d.rw] 3 (0,0)));have V0:=ae j0
     have z1:oM ((l.alloc (Y (ints (id :: (d.l++g))) 136 (0,0))).alloc (Y #[Z H d.rw] 3 (0,0))) (R (U ⟨l.heap.size+1,0,V⟩) 1 1) [d.rw]:=by
      have h8:=j0;rw [Z2] at h8;exact oM.row (xs:=[d.rw]) h8 0 1 (Nat.le_refl _) (by decide)
     have y:=yL j0.right.right.right;have hC:∀ q,_->_->Calls Q 150 #[X (U ⟨x.k,0,V⟩),R (U ⟨l.heap.size+1,0,V⟩) 1 1] _ q:=jk _ x.k x.n _ [d.rw] (by show 1<=1000;decide) z1 y;have V1:=(j0.aw.cell 19).trans (Nd.G2 f.out);clear j0 z1 y d0
     go_wp2_with (first
      | (refine wpList_load_mid (by exact rfl) 65 (.tmp 5) (by exact rfl) i 0 (by exact rfl) (d.l.map (Z1 H)) _ (by with_reducible exact x0.out) underlying65 rfl (by with_reducible exact u0.out) ?_)
      | (refine gJ (by exact rfl) 136 #[(0,.tmp 28),(1,.tmp 29)] (by exact rfl) _ (by exact rfl) _ (by exact s0.out) ?_))
     refine hC _ (fun hy=>?_) (fun hn=>?_)
     .have Hy:=ae hy
      have N0:=lh x hc _ t aR d.rw _ (V0.out.right.to (by ac_rfl:_=aF x t aR*(aq t*(pt l.heap.size (Y (ints (id :: (d.l++g))) 136 (0,0))*(pt i (Y (d.l.map (Z1 H)).toArray 65 (0,0))*F)))));clear hy hC;generalize l.alloc (Y (ints (id :: (d.l++g))) 136 (0,0))=w4 at *;generalize l.heap.size=j at *;clear c4 b1 x0 u0 s1 t1 s0 T0;obtain ⟨⟨r2,g1⟩,b0⟩:∃ p,cU x.c.ask d.rw aR=p:=⟨_,rfl⟩
      rw [b0] at N0
      cases r2 with
      | bad c=>
       have S0:=ae (Ks (id:=id.toNat) Y0.out Hy.out b0);clear b0
       go_wp2_with fail
       (with_reducible refine N0.mono ?_)
       rintro e w6 ⟨u,G0,d6,rfl,h6⟩
       go_wp2_with fail
       exact ⟨rfl,o.out _ _ (by rw [C.out.trans S0.out];exact ⟨u,G.trans G0,D1.out.trans d6,rfl,h6.to (by ac_rfl:_=(aF x u g1*(aq u*F))*(pt j (Y (ints (id :: (d.l++g))) 136 (0,0))*pt i (Y (d.l.map (Z1 H)).toArray 65 (0,0)))) |>.left⟩)⟩
      | ok L2=>
       have n1:=iU b0;have m1:=fun row=>Np (row:=row) (id:=id.toNat) Y0.out Hy.out b0;have i0:=fun row=>Jx (row:=row) (id:=id.toNat) Y0.out Hy.out b0;have A:=fun w1 v1 P=>Nj w1 v1 L2 P n1;have c1:=A8 L2;have A1:=QK L2;unfold Qf at A;generalize lH L2=p at *;obtain ⟨row,c⟩:=p;dsimp only at A c1 A1;have S0:=ae (m1 row);have f0:=ae (i0 row);have r0:=ae c1;clear m1 i0 b0 n1 c1
       go_wp2_with fail
       (with_reducible refine N0.mono ?_)
       rintro e w6 ⟨u,v2,G0,d6,rfl,h6⟩;have o1:=A w6 v2 h6.oD;have Hk:=ae (fun w' (h:ag w' (whole w6))=>ag.du h h6);clear N0 A
       go_wp2_with fail
       (with_reducible refine o1.mono ?_)
       rintro e w7 ⟨rfl,h7,d7⟩;have h8:ag w7 (pt j (Y (ints (id :: (d.l++g))) 136 (0,0))*(pt i (Y (d.l.map (Z1 H)).toArray 65 (0,0))*(aF x u g1*(aq u*F)))):=(Hk.out w7 h7).right.to (by ac_rfl);have D8:=ae (aj.setCells (row.map (Z1 H)) 21 j ((D1.out.trans d6).trans d7));have H0:=G.trans G0;have B:=ag.setCells (row.map (Z1 H)) 21 h8;rw [BF id d.l g row (Nd.cells f.out) r.out r0.out] at B
       have H1:w7.there j 21 (row.map (Z1 H)).toArray.size:=by
        have hz:(row.map (Z1 H)).toArray.size=240:=by simp [r0.out]
        rw [hz];exact ag.there h8 (by rw [dO,E2,W3,Nd.cells f.out,r.out];decide)
       have p1:(prog.info? 134).map (·.size)=U (row.map (Z1 H)).toArray.size:=by
        have hz:(row.map (Z1 H)).toArray.size=240:=by simp [r0.out]
        rw [hz];exact kp
       have x1:(row.map (Z1 H)).toArray.all (·.oneCell')=L:=by simp [L3]
       have r1:Value.agg (ints row) = .agg (row.map (Z1 H)).toArray:=rfl;have k1:=ae H1;have M1:=ae p1;have R1:=ae x1;have Z0:=ae B;rw [r1];clear o1 Hk h6 h7 d6 d7 h8 H1 p1 x1 r1 B V0 D1 G G0 V1
       go_wp2_with (refine wpList_store_mid (by exact rfl) 134 (.tmp 50) (.tmp 47) (by exact rfl) j 21 (row.map (Z1 H)).toArray (by exact rfl) (by exact rfl) (by with_reducible exact k1.out) M1.out R1.out ?_)
       rcases A1 with rfl|rfl
       .have g0:=ae (C.out.trans (f0.out rfl))
        (with_reducible refine (jW _).mono ?_)
        rintro e w9 ⟨rfl,rfl⟩;have z:ag (w7.setCells j 21 (row.map (Z1 H)).toArray.toList) _:=Z0.out;clear r;have r:=r0;have DD:RowKit.Hid (aj w (w7.setCells j 21 (row.map (Z1 H)).toArray.toList)):=D8;clear k1 Z0 D8;generalize w7.setCells j 21 (row.map (Z1 H)).toArray.toList=w8 at *
        have n0:oM w8 (R (U ⟨i,3,V⟩) 16 16) d.dr:=by
         have h9:ag w8 (pt i (Y (ints d.l) 65 (0,0))*_):=z.ah;have:=oM.row h9 3 16 (by rw [Nd.cells f.out];decide) (by decide)
         rwa [Nd.lF f.out] at this
        have o0:oM w8 (R (U ⟨j,21,V⟩) 240 240) row:=by
         have:=oM.row z 21 240 (by rw [E2,W3,Nd.cells f.out,r.out];decide) (by decide)
         rwa [show ((id :: (d.l++row)).drop 21).take 240=row from by rw [Z3,List.drop_left' (Nd.cells f.out),J4 (by rw [r.out];decide)]] at this
        have y:w8.cell? ⟨x.k,1,V⟩=U (Z H (x.n:Int)):=yL z.right.right;have hA:∀ q,_->_->Calls Q 150 #[X (U ⟨x.k,0,V⟩),R (U ⟨i,3,V⟩) 16 16] w8 q:=jk w8 x.k x.n _ d.dr (by rw [f.out];decide) n0 y;have E:∀ q,_->_->Calls Q 150 #[X (U ⟨x.k,0,V⟩),R (U ⟨j,21,V⟩) 240 240] w8 q:=jk w8 x.k x.n _ row (by rw [r.out];decide) o0 y;have HT:=ae z;clear n0 o0 y z
        go_wp2_with fail
        refine hA _ (fun p0=>?_) (fun l0=>?_)
        .have h0:=ae p0
         clear p0 hA
         go_wp2_with fail
         refine E _ (fun q0=>?_) (fun m0=>?_)
         .have a1:=ae q0
          clear q0 E
          go_wp2_with fail
          refine o.out _ _ ?_;rw [g0.out.trans (xT h0.out a1.out)];refine ⟨u,_,H0,DD.out,rfl,?_⟩;refine ag.ax.2 ⟨j,(ag.au.2 ⟨rfl,ag.held.2 ⟨⟨f.out,r.out⟩,?_⟩⟩:ag _ (fact _*_)).to (ay _ _ _).symm⟩;have e:(Hd.l ⟨id.toNat,d,row⟩)=id :: (d.l++row):=by show ((id.toNat:Int) :: _)=_;rw [X3 (by omega)]
          rw [e];exact (HT.out.to (by ac_rfl:_=pt i (Y (d.l.map (Z1 H)).toArray 65 (0,0))*(pt j (Y (ints (id :: (d.l++row))) 136 (0,0))*(aF x u g1*(aq u*F))))).right
         .have X0:=ae m0
          clear m0 E
          go_wp2_with fail
          exact ⟨rfl,o.out _ _ (by rw [g0.out.trans (wg h0.out X0.out)];exact ⟨u,H0,DD.out,rfl,HT.out.right.right⟩)⟩
        .have W0:=ae l0
         clear l0 hA E
         go_wp2_with fail
         exact ⟨rfl,o.out _ _ (by rw [g0.out.trans (wo W0.out)];exact ⟨u,H0,DD.out,rfl,HT.out.right.right⟩)⟩
       .have g0:=ae (C.out.trans (S0.out rfl))
        (with_reducible refine (fF _ 4 (by decide)).mono ?_)
        rintro e w9 ⟨rfl,rfl⟩
        go_wp2_with fail
        exact ⟨rfl,o.out _ _ (by rw [g0.out];exact ⟨u,H0,D8.out,rfl,Z0.out.right.right⟩)⟩
     .have Hn:=ae hn
      clear hn hC
      go_wp2_with fail
      exact ⟨rfl,o.out _ _ (by rw [C.out.trans (e0.out Hn.out)];exact ⟨t,G,D1.out,rfl,V0.out.right.right.right⟩)⟩
   .have C:=ae (f0.out rfl)
    clear R0 f0
    (with_reducible refine (fF _ 4 (by decide)).mono ?_)
    rintro e w4 ⟨rfl,rfl⟩
    go_wp2_with fail
    exact ⟨rfl,o.out _ _ (by rw [C.out];exact ⟨t,G,j1.out,rfl,B.right⟩)⟩
 .have Hp:=ae (Kt (ask:=x.c.ask) (st:=st) k0)
  have o:=ae hQ;have HL:=ae (show q (.panicked (Ji 1)) w from hQ _ _ (by rw [Hp.out];exact ⟨c0,Ext.refl c0,aj.refl w,rfl,h⟩));clear hQ
  by_cases h1:1<=id
  .have h2:decide (id<(x.n:Int))=N:=decide_eq_false (by omega)
   clear k0
   go_enter func85,ntmps85
   go_wp2_with fail
   (with_reducible refine (gK w).mono ?_)
   rintro e S ⟨rfl,rfl⟩
   go_wp2_with fail
   exact ⟨rfl,HL.out⟩
  .have h2:id<1:=by omega
   clear k0
   go_enter func85,ntmps85
   go_wp2_with fail
   (with_reducible refine (gK w).mono ?_)
   rintro e S ⟨rfl,rfl⟩
   go_wp2_with fail
   exact ⟨rfl,HL.out⟩
end
end Go.Proofs.Fs
namespace Go.SL
open RowKit
section
variable {σ:Type}
def KZ (h:Hd):WM σ Unit:=fun st=>
 if h.n.rw=0 then (.ok (),st) else if h.row.all cZ=L then bP h.n.rw (jM h.row) st else (.bad 1,st)
def dK (h:Hd):WM σ Unit:=fun st=>
 if h.n.ok=L then (WM.bind (bP (h.id:Int) (iK h.n)) fun _=>KZ h) st else (.bad 1,st)
theorem Ku {h:Hd} {st:eB σ} (d:h.n.ok=N):dK h st=(.bad 1,st):=if_neg (by rw [d];decide)
theorem Gn {h:Hd} {st aR:eB σ} {c:Int} (d:h.n.ok=L) (e:bP (h.id:Int) (iK h.n) st=(.bad c,aR)):dK h st=(.bad c,aR):=(if_pos d).trans (WM.bf e)
theorem Ps {h:Hd} {st aR:eB σ} (d:h.n.ok=L) (e:bP (h.id:Int) (iK h.n) st=(.ok (),aR)) (f:h.n.rw=0):dK h st=(.ok (),aR):=(if_pos d).trans ((WM.aX e).trans (if_pos f))
theorem Jw {h:Hd} {st aR:eB σ} (d:h.n.ok=L) (e:bP (h.id:Int) (iK h.n) st=(.ok (),aR)) (f:h.n.rw≠0) (g:h.row.all cZ=N):dK h st=(.bad 1,aR):=
 (if_pos d).trans ((WM.aX e).trans ((if_neg f).trans (if_neg (by rw [g];decide))))
theorem Kb {h:Hd} {st aR:eB σ} (d:h.n.ok=L) (e:bP (h.id:Int) (iK h.n) st=(.ok (),aR)) (f:h.n.rw≠0) (g:h.row.all cZ=L):dK h st=bP h.n.rw (jM h.row) aR:=
 (if_pos d).trans ((WM.aX e).trans ((if_neg f).trans (if_pos g)))
end
end Go.SL
namespace Go.Proofs.Fs
open RowKit SL Proofs.Ba
section
variable {σ α:Type}
theorem rF {w:O} {d:Nat} {h:Hd} {F:ai} (f:h.fit) (hs:ag w (pt d (Y (ints h.l) 136 (0,0))*F)):w.rangeAt d 1 (h.n.l.map (Z1 H)):=fun j v e=>by
 rw [hs.cell,dH,<- K3,V3];show (List.map (Z1 H) ((h.id:Int) :: (h.n.l++h.row)))[j+1]?=U v
 rw [List.map_cons,Y2,List.map_append,A3 (List.getElem?_eq_some_iff.1 e).1];exact e
theorem An {w:O} {d:Nat} {h:Hd} {F:ai} (e:h.fit) (hs:ag w (pt d (Y (ints h.l) 136 (0,0))*F)):w.rangeAt d 21 (h.row.map (Z1 H)):=fun j v f=>by
 rw [hs.cell,dH,<- K3,show 21+j=(20+j)+1 by omega];show (List.map (Z1 H) ((h.id:Int) :: (h.n.l++h.row)))[20+j+1]?=U v
 rw [List.map_cons,Y2,List.map_append,G3 (by rw [K2,Nd.cells e.1];omega),K2,Nd.cells e.1,Nat.add_sub_cancel_left];exact f
theorem qi {w:O} {d:Nat} {h:Hd} {F:ai} (e:h.fit) (hs:ag w (pt d (Y (ints h.l) 136 (0,0))*F)):w.cell? ⟨d,20,V⟩=U (Z H h.n.rw):=by
 have:=rF e hs 19 (Z H h.n.rw) (by
  have:=Nd.G2 e.1
  rwa [dH,<- K3] at this)
 exact this
theorem zp {w:O} {d:Nat} {h:Hd} {F:ai} (hs:ag w (pt d (Y (ints h.l) 136 (0,0))*F)):w.cell? ⟨d,0,V⟩=U (Z H (h.id:Int)):=hs.cell 0
theorem Bc (x:Wk σ) (w:O) (S:Hp) (st:eB σ) (i:Nat) (h:Hd) (F:ai) (hs:ag w (aO i h*(aF x S st*(aq S*F)))) (l0:Ending->O->Prop)
  (hQ:∀ e w',WQ x jo S (aO i h*F) w (dK h st) e w'->l0 e w') :
  Calls Q 87 #[X (U ⟨x.k,0,V⟩),X (U ⟨i,0,V⟩)] w l0:=by
 obtain ⟨g,h0⟩:=ag.held.1 hs;have t:=ae hQ;have Hf:=ae g;have z:=ae (rF g h0);have q0:(prog.info? 65).map (·.size)=U (h.n.l.map (Z1 H)).length:=by rw [K2,Nd.cells g.1];exact bE
 have j0:=ae q0;have n0:h.n.v = .agg (h.n.l.map (Z1 H)).toArray:=rfl;have Hs:=ae hs
 cases q:h.n.ok with
 | false=>
  have f:=rV w h.n g.1 q;rw [n0] at f;have j:=ae (Ku (st:=st) q)
  go_enter func87,ntmps87
  go_wp2_with (refine wpList_load_mid (by exact rfl) 65 (.tmp 9) (by exact rfl) i 1 (by exact rfl) (h.n.l.map (Z1 H)) _ (by with_reducible exact z.out) underlying65 rfl (by with_reducible exact j0.out) ?_)
  (refine f.mono ?_)
  rintro e w2 ⟨rfl,h2,E⟩;have v:=h2.du Hs.out
  go_wp2_with fail
  (refine (fF _ 1 (by decide)).mono ?_)
  rintro e u ⟨rfl,rfl⟩
  go_wp2_with fail
  exact ⟨rfl,t.out _ _ (by rw [j.out];exact ⟨S,Ext.refl S,E,rfl,v.to (by ac_rfl)⟩)⟩
 | true=>
  have f:=lX w h.n g.1 q;have x0:=fun d c=>Gn (h:=h) (st:=st) (aR:=d) (c:=c) q;have D0:=fun d=>Ps (h:=h) (st:=st) (aR:=d) q;have F0:=fun d=>Jw (h:=h) (st:=st) (aR:=d) q;have G0:=fun d=>Kb (h:=h) (st:=st) (aR:=d) q;rw [n0] at f;have o0:=ae x0;have b0:=ae D0;have d0:=ae F0;have e0:=ae G0
  go_enter func87,ntmps87
  go_wp2_with (refine wpList_load_mid (by exact rfl) 65 (.tmp 9) (by exact rfl) i 1 (by exact rfl) (h.n.l.map (Z1 H)) _ (by with_reducible exact z.out) underlying65 rfl (by with_reducible exact j0.out) ?_)
  (refine f.mono ?_)
  rintro e w2 ⟨v2,rfl,h2,E⟩;have v:=h2.under Hs.out;have s0:=v.oD;have H3:=v.right.to (by ac_rfl:_=aF x S st*(aq S*(aO i h*F)));have c0:=zp (ag.held.1 v.right).2;have r:=mg x w2 S st (h.id:Int) _ (iK h.n) _ H3 s0;obtain ⟨⟨g0,d⟩,o⟩:∃ p,bP (h.id:Int) (iK h.n) st=p:=⟨_,rfl⟩
  rw [o] at r
  go_wp2_with fail
  (refine (jW _).mono ?_)
  rintro e u ⟨rfl,rfl⟩
  cases g0 with
  | bad c=>
   have j:=ae (o0.out _ _ o)
   go_wp2_with fail
   (refine r.mono ?_)
   rintro e u ⟨l,hS,d3,rfl,h3⟩
   go_wp2_with fail
   exact ⟨rfl,t.out _ _ (by rw [j.out];exact ⟨l,hS,E.trans d3,rfl,h3⟩)⟩
  | ok H0=>
   have b0:=ae (b0.out _ o);have d0:=ae (d0.out _ o);have e0:=ae (e0.out _ o)
   go_wp2_with fail
   (with_reducible refine r.mono ?_)
   rintro e u ⟨l,v3,hS,d3,rfl,h3⟩;obtain ⟨rfl,h4⟩:=ag.au.1 h3;have h5:ag u (aO i h*(aF x l d*(aq l*F))):=h4.to (by ac_rfl);obtain ⟨g,h6⟩:=ag.held.1 h5;have p0:=qi g h6;have B:=ae (E.trans d3);have C:=ae hS
   by_cases A:h.n.rw=0
   .have j:=ae (b0.out A)
    have H4:=ae h4;rw [A] at p0
    go_wp2_with fail
    go_end0
    refine t.out _ _ ?_;rw [j.out];exact ⟨l,_,C.out,B.out,rfl,ag.au.2 ⟨rfl,H4.out⟩⟩
   .have L0:(h.n.rw != 0)=L:=by simpa using A
    have z:=ae (An g h6);have r0:(prog.info? 134).map (·.size)=U (h.row.map (Z1 H)).length:=by rw [K2,g.2];exact kp
    have k0:=ae r0;have m0:Value.agg (ints h.row) = .agg (h.row.map (Z1 H)).toArray:=rfl;have H5:=ae h5
    cases P:h.row.all cZ with
    | false=>
     have j:=ae (d0.out A P);have f:=zK u h.row g.2 P;rw [m0] at f
     go_wp2_with (refine wpList_load_mid (by exact rfl) 134 (.tmp 32) (by exact rfl) i 21 (by exact rfl) (h.row.map (Z1 H)) _ (by with_reducible exact z.out) underlying134 rfl (by with_reducible exact k0.out) ?_)
     (with_reducible refine f.mono ?_)
     rintro e w4 ⟨rfl,h7,G⟩;have y:=h7.du H5.out
     go_wp2_with fail
     (with_reducible refine (fF _ 1 (by decide)).mono ?_)
     rintro e w5 ⟨rfl,rfl⟩
     go_wp2_with fail
     exact ⟨rfl,t.out _ _ (by rw [j.out];exact ⟨l,C.out,B.out.trans G,rfl,y.to (by ac_rfl)⟩)⟩
    | true=>
     have j:=ae (e0.out A P);have f:=wS u h.row g.2 P;rw [m0] at f
     go_wp2_with (refine wpList_load_mid (by exact rfl) 134 (.tmp 32) (by exact rfl) i 21 (by exact rfl) (h.row.map (Z1 H)) _ (by with_reducible exact z.out) underlying134 rfl (by with_reducible exact k0.out) ?_)
     (with_reducible refine f.mono ?_)
     rintro e w4 ⟨v4,rfl,h7,G⟩;have y:=h7.under H5.out;have u0:=y.oD;have K0:=qi Hf.out (ag.held.1 y.right).2;have r:=mg x w4 l d h.n.rw _ (jM h.row) _ (y.right.to (by ac_rfl:_=aF x l d*(aq l*(aO i h*F)))) u0;obtain ⟨⟨g0,N0⟩,o⟩:∃ p,bP h.n.rw (jM h.row) d=p:=⟨_,rfl⟩
     rw [o] at r;have i0:=ae (j.out.trans o)
     go_wp2_with fail
     (with_reducible refine (jW _).mono ?_)
     rintro e w5 ⟨rfl,rfl⟩
     cases g0 with
     | bad c=>
      go_wp2_with fail
      (with_reducible refine r.mono ?_)
      rintro e w5 ⟨S2,f0,d5,rfl,h8⟩
      go_wp2_with fail
      exact ⟨rfl,t.out _ _ (by rw [i0.out];exact ⟨S2,C.out.trans f0,(B.out.trans G).trans d5,rfl,h8⟩)⟩
     | ok H0=>
      go_wp2_with fail
      (with_reducible refine r.mono ?_)
      rintro e w5 ⟨S2,v5,f0,d5,rfl,h8⟩;obtain ⟨rfl,h9⟩:=ag.au.1 h8
      go_wp2_with fail
      go_end0
      refine t.out _ _ ?_;rw [i0.out];exact ⟨S2,_,C.out.trans f0,(B.out.trans G).trans d5,rfl,ag.au.2 ⟨rfl,h9⟩⟩
end
end Go.Proofs.Fs
namespace Go.SL
open RowKit
section
variable {σ α:Type}
def nx:WM σ Unit:=fun st=>if st.dt=L then bP 0 (st.bits.getD []) st else (.ok (),st)
def TL (d:ik σ):Rs α × eB σ->Rs α × ik σ
 | (.ok a,st)=>(.ok a,st.b)
 | (.bad c,st)=>(.bad c,{ d with s:=st.b.s })
def dZ (m:WM σ α) (d:ik σ):Rs α × ik σ:=TL d ((WM.bind m fun a=>WM.bind nx fun _=>WM.pure a) ⟨d,V,N⟩)
theorem lq {m:WM σ α} {d:ik σ} {st:eB σ} {c:Int} (h:m ⟨d,V,N⟩=(.bad c,st)):dZ m d=(.bad c,{ d with s:=st.b.s }):=by
 unfold dZ;rw [WM.bf h];rfl
theorem nT {m:WM σ α} {d:ik σ} {st:eB σ} {a:α} (h:m ⟨d,V,N⟩=(.ok a,st)) (f:st.dt=N):dZ m d=(.ok a,st.b):=by
 have e:(WM.bind nx fun _=>WM.pure a) st=(.ok a,st):=WM.aX (if_neg (by rw [f];decide));unfold dZ;rw [WM.aX h,e];rfl
theorem qe {m:WM σ α} {d:ik σ} {st st':eB σ} {a:α} (h:m ⟨d,V,N⟩=(.ok a,st)) (f:st.dt=L) (g:bP 0 (st.bits.getD []) st=(.ok (),st')):dZ m d=(.ok a,st'.b):=by
 have e:(WM.bind nx fun _=>WM.pure a) st=(.ok a,st'):=WM.aX ((if_pos f).trans g);unfold dZ;rw [WM.aX h,e];rfl
theorem tX {m:WM σ α} {d:ik σ} {st st':eB σ} {a:α} {c:Int} (h:m ⟨d,V,N⟩=(.ok a,st)) (f:st.dt=L) (g:bP 0 (st.bits.getD []) st=(.bad c,st')):dZ m d=(.bad c,{ d with s:=st'.b.s }):=by
 have e:(WM.bind nx fun _=>WM.pure a) st=(.bad c,st'):=WM.bf ((if_pos f).trans g);unfold dZ;rw [WM.aX h,e];rfl
end
end Go.SL
namespace Go.Proofs.Fs
open RowKit SL Proofs.Ba
variable {e v:M} {S:Hp}
theorem jF (v:M) (w:O):(Instr.typeAssert (.iface 220 v) 20 220 L).run Q w = .ok (I #[v,J L]) w:=by
 simp [Instr.typeAssert,run_underlying underlying220,go_sem,Result.andThen]
section
variable {σ α:Type}
theorem Jv (w:O) (g i:Addr) :
    CallsD Q 160 #[X (U g),X (U i)] .returning w fun e u j=>e = K (I #[])/\u = .returning/\w=j:=by
  refine callsD_of_wpS func160 rfl fun d l f=>?_;apply wpS_seq;refine wpS_of_wp ?_
  simp only [ntmps160,M2,E2,N2,O2,P2,R2,
     T2,U2,V2,W2,X2]
  go_wp2
  apply wpS_seq;apply wpS_region;simp [wpOpsS,go_sem,recoverD,f,Exit.thenS];refine wpS_of_wp ?_
  go_wp2
  cases d
  simp_all [bodyPostS,results,Tryz.results160]
theorem JD (w:O) (d f:Addr) (c x y:Int) (g:List PanicEntry) (t:w.cell? d=U (Z H x)) (v:w.cell? f=U (Z H y)) (q:w.frozen? d=N) (r:w.frozen? f=N) (z:d≠f) :
    CallsD Q 160 #[X (U d),X (U f)] (.panicking ({ v:=.iface 220 (Z H c),recovered:=N } :: g)) w fun e u j=>
      e = K (I #[])/\u = .panicking ({ v:=.iface 220 (Z H c),recovered:=L } :: g)/\j=(w.setCell d (Z H 0)).setCell f (Z H c):=by
  refine callsD_of_wpS func160 rfl fun o l i=>?_;apply wpS_seq;refine wpS_of_wp ?_
  simp only [ntmps160,M2,E2,N2,O2,P2,R2,
     T2,U2,V2,W2,X2]
  go_wp2
  apply wpS_seq;apply wpS_region;simp [wpOpsS,go_sem,recoverD,i,Exit.thenS];refine wpS_of_wp ?_;have A:=jF (Z H c)
  go_wp2
  exact ⟨rfl,_,rfl,_,results_none rfl _ _ _,rfl,rfl,rfl⟩
def CD (c:Cx σ) (i:Nat) (zero:M) (j:α->M->ai) (S:Hp) (F:ai) (w:O):Rs α × ik σ->Ending->O->Prop
 | (.ok a,g),e,f=>∃ d v,Ext S d/\aj w f/\e = K (I #[v,Z H 0])/\ag f (j a v*(cH c d i g*(aq d*F)))
 | (.bad n,g),e,f=>∃ d,Ext S d/\aj w f/\e = K (I #[zero,Z H n])/\ag f (cH c d i g*(aq d*F))
def CL (c:Cx σ) (n:Nat) (f:FuncId) (e:Array M) (d:α->M->ai) (G:ai) (m:WM σ α):Prop:=
 ∀ (x:Wk σ) (w:O) (S:Hp) (st:eB σ) (F:ai),x.c=c->x.n=n->ag w (aF x S st*(aq S*(G*F)))->Calls Q f (#[X (U ⟨x.k,0,V⟩)]++e) w (WQ x d S (G*F) w (m st))
def fS (d n:Nat):M:=.agg #[X (U ⟨d,0,V⟩),Z H (n:Int)]
theorem qO {w:O} {d:Array M} {a b:Nat} (f:d[4]?=U (az a)) (g:d[5]?=U (az b)) (i:w.cell? ⟨a,0,V⟩=U v) (j:w.cell? ⟨b,0,V⟩=U e) :
  (results Tryz.f98 d).run Q w = .ok (I #[v,e]) w:=by
 simp [results,Tryz.results98,f,g,go_sem,i,j]
theorem tV {w:O} {x:Wk σ} {st:eB σ} {F:ai} (h:ag w (aF x S st*F)):ag w (x.c.RI st.b.s*F):=by
 obtain ⟨v,d⟩:=ag.fq h;have e:ag w ((pt x.k (Y (x.cells v st.dt) 149 (0,0))*(aB 176 5 S x.b x.c.rd st.b.err st.b.W st.b.D*cC st.bits v))*(x.c.RI st.b.s*F)):=d.to (by unfold bJ cH;ac_rfl);exact e.right
theorem nC {w:O} {c:Cx σ} {S e:Hp} {f:Nat} {d:ik σ} {s:σ} {F:ai} (g:Ext S e) (h:ag w (c.RI s*(aB 176 5 S f c.rd d.err d.W d.D*F))):ag w (cH c e f { d with s:=s }*F):=
 ((h.ah).fp (dG g)).to (by unfold cH;ac_rfl)
theorem tZ {w:O} {c:Cx σ} {n k f:Nat} {d:ik σ} {F:ai} (h:ag w (pt k (Y #[X (U ⟨f,0,V⟩),Z H (n:Int),R V 0 0,J N] 149 (0,0))*(aB 176 5 S f c.rd d.err d.W d.D*(c.RI d.s*F)))) :
  ag w (aF (⟨c,n,k,f⟩:Wk σ) S ⟨d,V,N⟩*F):=
 ag.jr (R V 0 0) ((ag.E6 h).to (by unfold bJ cH Wk.cells;ac_rfl))
theorem ym {w:O} {i:Array M} {d f:Nat} {y z c:Int} {P:ai} {l:Ending->O->Prop} (o:i[4]?=U (az d)) (q:i[5]?=U (az f))
  (h:ag w (pt d (Y #[Z H y] 3 (0,0))*(pt f (Y #[Z H z] 28 (0,0))*P))) (hR:∀ j,ag j P->aj w j->l (K (I #[Z H 0,Z H c])) j) :
  bodyPostD Q Tryz.f98 l (Exit.panic (Ji c)) { tmps:=i,defers:=[{ target:=.fn (.func 160) #[X (U ⟨d,0,V⟩),X (U ⟨f,0,V⟩)],args:=#[] }] } w:=by
 have r:=ag.ne h;refine leaves_cons (f:=160) (args:=#[X (U ⟨d,0,V⟩),X (U ⟨f,0,V⟩)]) (by simp) (by simp [go_sem]) ?_;refine (JD w ⟨d,0,V⟩ ⟨f,0,V⟩ c y z [] (h.cell 0) (h.ah.cell 0) (h.frozen 0) (h.ah.frozen 0) (by intro h;injection h with h;exact r h)).mono ?_;rintro e u t ⟨rfl,rfl,rfl⟩;have g:=((h.setCell 0 (Z H 0)).ah.setCell 0 (Z H c))
 exact ⟨_,qO o q (g.ah.cell 0) (g.cell 0),hR _ g.right.right (((aj.refl w).setCell _ _).setCell _ _)⟩
theorem xm {w:O} {g:Array M} {d f:Nat} {i:Ending->O->Prop} (j:g[4]?=U (az d)) (l:g[5]?=U (az f))
  (o:w.cell? ⟨d,0,V⟩=U v) (q:w.cell? ⟨f,0,V⟩=U e) (hR:i (K (I #[v,e])) w) :
  bodyPostD Q Tryz.f98 i Exit.ret { tmps:=g,defers:=[{ target:=.fn (.func 160) #[X (U ⟨d,0,V⟩),X (U ⟨f,0,V⟩)],args:=#[] }] } w:=by
 refine leaves_cons (f:=160) (args:=#[X (U ⟨d,0,V⟩),X (U ⟨f,0,V⟩)]) (by simp) (by simp [go_sem]) ?_;refine (Jv w ⟨d,0,V⟩ ⟨f,0,V⟩).mono ?_;rintro r u t ⟨rfl,rfl,rfl⟩;exact ⟨_,qO j l o q,hR⟩
theorem yQ {w:O} {o:Option (List UInt8)} {F:ai} (h:ag w (cC o v*F)):Rd w v (o.getD []):=by
 rcases ag.nU h with ⟨rfl,rfl,_⟩|⟨l,rfl,_,d⟩
 .exact ⟨rfl,.inl ⟨rfl,rfl⟩⟩
 .exact d.oD
theorem Lf (c:Cx σ) (hc:c.Ok) (n:Nat) (c1:4<=n) (e1:n<=3840) (jf:FuncId) (K0:Array M) (G:ai) (m:WM σ Nat)
  (mT:∀ (args:Array M) (w:O),(callFunc jf args).run Q w = .ok (.enter jf args) w) (hj:CL c n jf K0 MW G m)
  (g:Nat) (d:ik σ) (w:O) (c0:Hp) (F:ai) (h:ag w (cH c c0 g d*(aq c0*(G*F)))) (H0:Ending->O->Prop)
  (hQ:∀ e A,CD c g (Z H 0) MW c0 (G*F) w (dZ m d) e A->H0 e A) :
  Calls Q 98 #[fS g n,.func (.func jf) #[] K0] w H0:=by
 have HQ:=ae hQ;clear hQ;have d1:¬ ((n:Int)<4):=by omega
 have f1:¬ ((n:Int) > 3840):=by omega
 have Hj:=ae hj;unfold fS
 go_enter_defers func98,ntmps98
 have H3:=((h.alloc (Y #[X (U ⟨g,0,V⟩),Z H (n:Int)] 72 (0,0))).alloc (Y #[Z H 0] 3 (0,0))).alloc (Y #[Z H 0] 28 (0,0));have D3:=(((aj.refl w).alloc (Y #[X (U ⟨g,0,V⟩),Z H (n:Int)] 72 (0,0))).alloc (Y #[Z H 0] 3 (0,0))).alloc (Y #[Z H 0] 28 (0,0));simp only [Z2] at H3
 go_wp2_with fail
 generalize ((w.alloc (Y #[X (U ⟨g,0,V⟩),Z H (n:Int)] 72 (0,0))).alloc (Y #[Z H 0] 3 (0,0))).alloc (Y #[Z H 0] 28 (0,0))=w3 at H3 D3 ⊢;clear h;generalize w.heap.size+1+1=o at *;generalize w.heap.size+1=j at *;generalize w.heap.size=v at *;have s0:=H3.aw.cell 0;have s1:=H3.aw.cell 1;have q:ag w3 (aB 176 5 c0 g c.rd d.err d.W d.D*(aq c0*(c.RI d.s*(pt o (Y #[Z H 0] 28 (0,0))*(pt j (Y #[Z H 0] 3 (0,0))*(pt v (Y #[X (U ⟨g,0,V⟩),Z H (n:Int)] 72 (0,0))*(G*F))))))):=H3.to (by unfold cH;ac_rfl);have T0:=nQ w3.drew c0 g c.rd d.err d.W d.D _ q.drew ⟨_,_,rfl⟩;have Y0:=ae T0;clear T0
 go_region_held3 (fun A=>A.cell? ⟨v,0,V⟩=U (X (U ⟨g,0,V⟩))/\A.cell? ⟨v,1,V⟩=U (Z H (n:Int)))
  (first|exact ⟨s0,s1⟩|exact j0|go_keep)
  (first|(go_at_call 142;refine (Y0.out).mono ?_;rintro e w4 ⟨z,f,p0,rfl,h4,d4⟩;have j0:w4.cell? ⟨v,0,V⟩=U (X (U ⟨g,0,V⟩))/\w4.cell? ⟨v,1,V⟩=U (Z H (n:Int)):=⟨h4.bZ.cell 0,h4.bZ.cell 1⟩))
 have D5:=(D3.drew.trans d4).alloc (Y #[X (U ⟨f,0,V⟩),Z H (n:Int),R V 0 0,J N] 149 (0,0));have H5:=h4.alloc (Y #[X (U ⟨f,0,V⟩),Z H (n:Int),R V 0 0,J N] 149 (0,0))
 have W0:ag (w4.alloc (Y #[X (U ⟨f,0,V⟩),Z H (n:Int),R V 0 0,J N] 149 (0,0))) (aF (⟨c,n,w4.heap.size,f⟩:Wk σ) z ⟨d,V,N⟩*(aq z*(G*(aB 176 5 z g c.rd d.err d.W d.D*(pt o (Y #[Z H 0] 28 (0,0))*(pt j (Y #[Z H 0] 3 (0,0))*(pt v (Y #[X (U ⟨g,0,V⟩),Z H (n:Int)] 72 (0,0))*F))))))):=
  tZ (H5.to (by ac_rfl))
 have q0:=Hj.out ⟨c,n,w4.heap.size,f⟩ _ z ⟨d,V,N⟩ _ rfl rfl W0;rename_i N0;generalize w4.heap.size=k at *;obtain ⟨⟨u0,i⟩,hp⟩:∃ p,m ⟨d,V,N⟩=p:=⟨_,rfl⟩
 rw [hp] at q0
 cases u0 with
 | bad cN=>
  have HE:=ae (lq hp);clear hp
  go_wp2_with fail
  (with_reducible refine q0.mono ?_)
  rintro e w6 ⟨y,b0,d6,rfl,h6⟩;have h7:=tV h6
  have B:ag w6 (c.RI i.b.s*(aB 176 5 z g c.rd d.err d.W d.D*(pt o (Y #[Z H 0] 28 (0,0))*(pt j (Y #[Z H 0] 3 (0,0))*(aq y*(G*F)))))):=
   (h7.to (by ac_rfl:_=pt v (Y #[X (U ⟨g,0,V⟩),Z H (n:Int)] 72 (0,0))*(c.RI i.b.s*(aB 176 5 z g c.rd d.err d.W d.D*(pt o (Y #[Z H 0] 28 (0,0))*(pt j (Y #[Z H 0] 3 (0,0))*(aq y*(G*F)))))))).right
  have q:=nC b0 B;have u:ag w6 (pt j (Y #[Z H 0] 3 (0,0))*(pt o (Y #[Z H 0] 28 (0,0))*(cH c y g { d with s:=i.b.s }*(aq y*(G*F))))):=q.to (by ac_rfl)
  go_wp2_with fail
  exact ym rfl rfl u fun A d0 x0=>HQ.out _ _ (by rw [HE.out];exact ⟨y,p0.trans b0,(D5.trans d6).trans x0,rfl,d0⟩)
 | ok a=>
  go_wp2_with fail
  (with_reducible refine q0.mono ?_)
  rintro e w6 ⟨y,v6,b0,d6,rfl,h6⟩;obtain ⟨rfl,h7⟩:=ag.au.1 h6;obtain ⟨C,B⟩:=ag.fq h7;clear q0 h6 h7;have q:ag w6 (pt j (Y #[Z H 0] 3 (0,0))*(pt o (Y #[Z H 0] 28 (0,0))*(pt v (Y #[X (U ⟨g,0,V⟩),Z H (n:Int)] 72 (0,0))*(pt k (Y #[X (U ⟨f,0,V⟩),Z H (n:Int),C,J i.dt] 149 (0,0))*(cH c y f i.b*(cC i.bits C*(aq y*(aB 176 5 z g c.rd d.err d.W d.D*(G*F))))))))):=B.to (by unfold bJ Wk.cells;ac_rfl);have c9:w6.cell? ⟨j,0,V⟩=U (Z H 0):=q.cell 0;have f9:w6.frozen? ⟨j,0,V⟩=N:=q.frozen 0;have u:=q.setCell 0 (Z H (a:Int));have l0:=(D5.trans d6).setCell ⟨j,0,V⟩ (Z H (a:Int));have k3:=u.aD.cell 3;clear B q D5 d6
  cases E:i.dt with
  | false=>
   have HE:=ae (nT hp E);rw [E] at k3 u;clear hp E
   go_wp2_with fail
   generalize w6.setCell ⟨j,0,V⟩ (Z H (a:Int))=w7 at *;have i0:ag w7 (aB 176 5 z g c.rd d.err d.W d.D*(aB 176 5 y f c.rd i.b.err i.b.W i.b.D*(aq y*(c.RI i.b.s*(pt j (Y #[Z H (a:Int)] 3 (0,0))*(pt o (Y #[Z H 0] 28 (0,0))*(pt v (Y #[X (U ⟨g,0,V⟩),Z H (n:Int)] 72 (0,0))*(pt k (Y #[X (U ⟨f,0,V⟩),Z H (n:Int),C,J N] 149 (0,0))*(cC i.bits C*(G*F)))))))))):=u.to (by unfold cH;ac_rfl);have P:=i0.fp (dG b0);have s0:=P.bZ.cell 0;have k0:=P.eu.cell 0;have D0:=ae (ir w7.drew y g f c.rd c.rd i.b.err d.err i.b.W i.b.D d.W d.D _ P.drew ⟨_,_,rfl⟩);clear i0 P u
   go_region_held3 (fun A=>A.cell? ⟨v,0,V⟩=U (X (U ⟨g,0,V⟩))/\A.cell? ⟨k,0,V⟩=U (X (U ⟨f,0,V⟩)))
    (first|exact ⟨s0,k0⟩|exact j0|go_keep)
    (first|(go_at_call 144;refine (D0.out).mono ?_;rintro e x ⟨t,e0,rfl,B,S⟩;have j0:x.cell? ⟨v,0,V⟩=U (X (U ⟨g,0,V⟩))/\x.cell? ⟨k,0,V⟩=U (X (U ⟨f,0,V⟩)):=⟨B.bZ.cell 0,B.eu.cell 0⟩))
   all_goals
    rename_i N0;have q:ag x (pt j (Y #[Z H (a:Int)] 3 (0,0))*(pt o (Y #[Z H 0] 28 (0,0))*((cH c t g i.b*(aq t*(G*F)))*(pt v (Y #[X (U ⟨g,0,V⟩),Z H (n:Int)] 72 (0,0))*(pt k (Y #[X (U ⟨f,0,V⟩),Z H (n:Int),C,J N] 149 (0,0))*(aB 176 5 t f c.rd i.b.err i.b.W i.b.D*cC i.bits C)))))):=B.to (by unfold cH;ac_rfl);have c9:=q.cell 0;have f9:x.frozen? ⟨j,0,V⟩=N:=q.frozen 0;have e9:x.cell? ⟨o,0,V⟩=U (Z H 0):=q.ah.cell 0;have g9:x.frozen? ⟨o,0,V⟩=N:=q.ah.frozen 0;have F0:¬ (j=o):=ag.ne q;have b1:¬ (o=j):=fun h=>F0 h.symm;have u:=((q.setCell 0 (Z H (a:Int))).ah.setCell 0 (Z H 0))
    have ca:=u.ah.cell 0;have ce:=u.cell 0;have D9:=(((l0).drew.trans S).setCell ⟨j,0,V⟩ (Z H (a:Int))).setCell ⟨o,0,V⟩ (Z H 0);have hF:ag _ ((cH c t g i.b*(aq t*(G*F)))):=u.right.right.left;have HD:=ae D9;have HF:=ae hF;have Ca:=ae ca;have Ce:=ae ce
    go_wp2_with fail
    exact xm rfl rfl Ca.out Ce.out (HQ.out _ _ (by rw [HE.out];exact ⟨t,_,p0.trans (b0.trans e0),HD.out,rfl,ag.au.2 ⟨rfl,HF.out.to (by ac_rfl)⟩⟩))
  | true=>
   have g0:=fun st'=>qe (st':=st') hp E;have h0:=fun st' c=>tX (st':=st') (c:=c) hp E;have g0:=ae g0;have h0:=ae h0;rw [E] at k3 u;have k2:=u.aD.cell 2;have G0:=yQ u.dI
   have d0:ag (w6.setCell ⟨j,0,V⟩ (Z H (a:Int))) (bJ (⟨c,n,k,f⟩:Wk σ) C y i*(aq y*(pt j (Y #[Z H (a:Int)] 3 (0,0))*(pt o (Y #[Z H 0] 28 (0,0))*(pt v (Y #[X (U ⟨g,0,V⟩),Z H (n:Int)] 72 (0,0))*(cC i.bits C*(aB 176 5 z g c.rd d.err d.W d.D*(G*F)))))))):=
    u.to (by unfold bJ Wk.cells;rw [E];ac_rfl)
   have r0:=km (⟨c,n,k,f⟩:Wk σ) _ C y i 0 C (i.bits.getD []) _ d0 G0
   obtain ⟨va,vl,vc,rfl⟩:∃ a l c,C = R a l c:=by
    obtain ⟨a,c,e⟩:=G0.shape;exact ⟨_,_,_,e⟩
   have R0:∀ st' u0,bP 0 (i.bits.getD []) i=(u0,st')->st'.dt=L:=fun st' u0 h=>by
    unfold bP at h
    split at h
    .simp only [Prod.mk.injEq] at h;rw [<- h.2];exact E
    .simp only [Prod.mk.injEq] at h;rw [<- h.2];exact E
   obtain ⟨⟨r2,r⟩,f0⟩:∃ p,bP 0 (i.bits.getD []) i=p:=⟨_,rfl⟩
   rw [f0] at r0;have S0:=R0 _ _ f0;have X0:=ae S0;clear hp E d0 G0 R0 S0
   cases r2 with
   | bad cN=>
    have HE:=ae (h0.out _ _ f0);clear f0 g0 h0
    go_wp2_with fail
    (with_reducible refine r0.mono ?_)
    rintro e x ⟨t,e0,S,rfl,m0⟩
    have n0:ag x (c.RI r.b.s*(aB 176 5 z g c.rd d.err d.W d.D*(pt j (Y #[Z H (a:Int)] 3 (0,0))*(pt o (Y #[Z H 0] 28 (0,0))*(aq t*(G*F)))))):=
     (m0.to (by unfold bJ cH;ac_rfl:_=(pt k (Y ((⟨c,n,k,f⟩:Wk σ).cells (R va vl vc) r.dt) 149 (0,0))*(aB 176 5 t f c.rd r.b.err r.b.W r.b.D*(pt v (Y #[X (U ⟨g,0,V⟩),Z H (n:Int)] 72 (0,0))*cC i.bits (R va vl vc))))*(c.RI r.b.s*(aB 176 5 z g c.rd d.err d.W d.D*(pt j (Y #[Z H (a:Int)] 3 (0,0))*(pt o (Y #[Z H 0] 28 (0,0))*(aq t*(G*F)))))))).right
    have o0:=nC (b0.trans e0) n0;have Z0:ag x (pt j (Y #[Z H (a:Int)] 3 (0,0))*(pt o (Y #[Z H 0] 28 (0,0))*(cH c t g { d with s:=r.b.s }*(aq t*(G*F))))):=o0.to (by ac_rfl)
    go_wp2_with fail
    exact ym rfl rfl Z0 fun A d0 x0=>HQ.out _ _ (by rw [HE.out];exact ⟨t,p0.trans (b0.trans e0),(l0.trans S).trans x0,rfl,d0⟩)
   | ok g1=>
    have HE:=ae (g0.out _ f0);clear f0 g0 h0
    go_wp2_with fail
    (with_reducible refine r0.mono ?_)
    rintro e w7 ⟨t,v8,e0,S,rfl,m0⟩;obtain ⟨rfl,n0⟩:=ag.au.1 m0;have o0:ag w7 (pt j (Y #[Z H (a:Int)] 3 (0,0))*(pt o (Y #[Z H 0] 28 (0,0))*(pt v (Y #[X (U ⟨g,0,V⟩),Z H (n:Int)] 72 (0,0))*(pt k (Y #[X (U ⟨f,0,V⟩),Z H (n:Int),(R va vl vc),J L] 149 (0,0))*(cH c t f r.b*(cC i.bits (R va vl vc)*(aq t*(aB 176 5 z g c.rd d.err d.W d.D*(G*F))))))))):=n0.to (by unfold bJ Wk.cells;rw [X0.out];ac_rfl);have V0:=l0.trans S;have L0:=b0.trans e0;clear r0 m0 n0 l0 S u k2 k3
    go_wp2_with fail
    have i0:ag w7 (aB 176 5 z g c.rd d.err d.W d.D*(aB 176 5 t f c.rd r.b.err r.b.W r.b.D*(aq t*(c.RI r.b.s*(pt j (Y #[Z H (a:Int)] 3 (0,0))*(pt o (Y #[Z H 0] 28 (0,0))*(pt v (Y #[X (U ⟨g,0,V⟩),Z H (n:Int)] 72 (0,0))*(pt k (Y #[X (U ⟨f,0,V⟩),Z H (n:Int),(R va vl vc),J L] 149 (0,0))*(cC i.bits (R va vl vc)*(G*F)))))))))):=o0.to (by unfold cH;ac_rfl);have P:=i0.fp (dG L0);have s0:=P.bZ.cell 0;have k0:=P.eu.cell 0;have D0:=ae (ir w7.drew t g f c.rd c.rd r.b.err d.err r.b.W r.b.D d.W d.D _ P.drew ⟨_,_,rfl⟩);clear i0 P o0
    go_region_held3 (fun A=>A.cell? ⟨v,0,V⟩=U (X (U ⟨g,0,V⟩))/\A.cell? ⟨k,0,V⟩=U (X (U ⟨f,0,V⟩)))
     (first|exact ⟨s0,k0⟩|exact j0|go_keep)
     (first|(go_at_call 144;refine (D0.out).mono ?_;rintro e x ⟨S5,a1,rfl,B,S⟩;have j0:x.cell? ⟨v,0,V⟩=U (X (U ⟨g,0,V⟩))/\x.cell? ⟨k,0,V⟩=U (X (U ⟨f,0,V⟩)):=⟨B.bZ.cell 0,B.eu.cell 0⟩))
    all_goals
     rename_i N0;have q:ag x (pt j (Y #[Z H (a:Int)] 3 (0,0))*(pt o (Y #[Z H 0] 28 (0,0))*((cH c S5 g r.b*(aq S5*(G*F)))*(pt v (Y #[X (U ⟨g,0,V⟩),Z H (n:Int)] 72 (0,0))*(pt k (Y #[X (U ⟨f,0,V⟩),Z H (n:Int),(R va vl vc),J L] 149 (0,0))*(aB 176 5 S5 f c.rd r.b.err r.b.W r.b.D*cC i.bits (R va vl vc))))))):=B.to (by unfold cH;ac_rfl);have c9:x.cell? ⟨j,0,V⟩=U (Z H (a:Int)):=q.cell 0;have f9:x.frozen? ⟨j,0,V⟩=N:=q.frozen 0;have e9:x.cell? ⟨o,0,V⟩=U (Z H 0):=q.ah.cell 0;have g9:x.frozen? ⟨o,0,V⟩=N:=q.ah.frozen 0;have F0:¬ (j=o):=ag.ne q;have b1:¬ (o=j):=fun h=>F0 h.symm;have u:=((q.setCell 0 (Z H (a:Int))).ah.setCell 0 (Z H 0))
     have ca:=u.ah.cell 0;have ce:=u.cell 0;have D9:=(((V0).drew.trans S).setCell ⟨j,0,V⟩ (Z H (a:Int))).setCell ⟨o,0,V⟩ (Z H 0);have hF:ag _ ((cH c S5 g r.b*(aq S5*(G*F)))):=u.right.right.left;have HD:=ae D9;have HF:=ae hF;have Ca:=ae ca;have Ce:=ae ce
     go_wp2_with fail
     exact xm rfl rfl Ca.out Ce.out (HQ.out _ _ (by rw [HE.out];exact ⟨S5,_,p0.trans (L0.trans a1),HD.out,rfl,ag.au.2 ⟨rfl,HF.out.to (by ac_rfl)⟩⟩))
end
section
variable {σ α:Type}
theorem Mh (w:O) (g i:Addr) :
    CallsD Q 217 #[X (U g),X (U i)] .returning w fun e u j=>e = K (I #[])/\u = .returning/\w=j:=by
  refine callsD_of_wpS func217 rfl fun d l f=>?_;apply wpS_seq;refine wpS_of_wp ?_
  simp only [ntmps217,M2,E2,N2,O2,P2,R2,
     T2,U2,V2,W2,X2]
  go_wp2
  apply wpS_seq;apply wpS_region;simp [wpOpsS,go_sem,recoverD,f,Exit.thenS];refine wpS_of_wp ?_
  go_wp2
  cases d
  simp_all [bodyPostS,results,Tryz.results217]
theorem KL (w:O) (d f:Addr) (c y:Int) (x:M) (g:List PanicEntry) (t:w.cell? d=U x) (B:x = R V 0 0\/∃ a n c,x = R a n c) (v:w.cell? f=U (Z H y)) (q:w.frozen? d=N) (r:w.frozen? f=N) (z:d≠f) :
    CallsD Q 217 #[X (U d),X (U f)] (.panicking ({ v:=.iface 220 (Z H c),recovered:=N } :: g)) w fun e u j=>
      e = K (I #[])/\u = .panicking ({ v:=.iface 220 (Z H c),recovered:=L } :: g)/\j=(w.setCell d (R V 0 0)).setCell f (Z H c):=by
  refine callsD_of_wpS func217 rfl fun o l i=>?_;apply wpS_seq;refine wpS_of_wp ?_
  simp only [ntmps217,M2,E2,N2,O2,P2,R2,
     T2,U2,V2,W2,X2]
  go_wp2
  apply wpS_seq;apply wpS_region;simp [wpOpsS,go_sem,recoverD,i,Exit.thenS];refine wpS_of_wp ?_;have A:=jF (Z H c)
  go_wp2
  exact ⟨rfl,_,rfl,_,results_none rfl _ _ _,rfl,rfl,rfl⟩
theorem qv {w:O} {d:Array M} {a b:Nat} (f:d[4]?=U (az a)) (g:d[5]?=U (az b)) (i:w.cell? ⟨a,0,V⟩=U v) (j:w.cell? ⟨b,0,V⟩=U e) :
  (results Tryz.f163 d).run Q w = .ok (I #[v,e]) w:=by
 simp [results,Tryz.results163,f,g,go_sem,i,j]
theorem yu {w:O} {i:Array M} {d f:Nat} {z c:Int} {P:ai} {l:Ending->O->Prop} (o:i[4]?=U (az d)) (q:i[5]?=U (az f))
  (h:ag w (pt d (Y #[v] 22 (0,0))*(pt f (Y #[Z H z] 28 (0,0))*P))) (t:v = R V 0 0\/∃ a n c,v = R a n c) (hR:∀ j,ag j P->aj w j->l (K (I #[R V 0 0,Z H c])) j) :
  bodyPostD Q Tryz.f163 l (Exit.panic (Ji c)) { tmps:=i,defers:=[{ target:=.fn (.func 217) #[X (U ⟨d,0,V⟩),X (U ⟨f,0,V⟩)],args:=#[] }] } w:=by
 have r:=ag.ne h;refine leaves_cons (f:=217) (args:=#[X (U ⟨d,0,V⟩),X (U ⟨f,0,V⟩)]) (by simp) (by simp [go_sem]) ?_;refine (KL w ⟨d,0,V⟩ ⟨f,0,V⟩ c z v [] (h.cell 0) t (h.ah.cell 0) (h.frozen 0) (h.ah.frozen 0) (by intro h;injection h with h;exact r h)).mono ?_;rintro e u x ⟨rfl,rfl,rfl⟩;have g:=((h.setCell 0 (R V 0 0)).ah.setCell 0 (Z H c))
 exact ⟨_,qv o q (g.ah.cell 0) (g.cell 0),hR _ g.right.right (((aj.refl w).setCell _ _).setCell _ _)⟩
theorem yc {w:O} {g:Array M} {d f:Nat} {i:Ending->O->Prop} (j:g[4]?=U (az d)) (l:g[5]?=U (az f))
  (o:w.cell? ⟨d,0,V⟩=U v) (q:w.cell? ⟨f,0,V⟩=U e) (hR:i (K (I #[v,e])) w) :
  bodyPostD Q Tryz.f163 i Exit.ret { tmps:=g,defers:=[{ target:=.fn (.func 217) #[X (U ⟨d,0,V⟩),X (U ⟨f,0,V⟩)],args:=#[] }] } w:=by
 refine leaves_cons (f:=217) (args:=#[X (U ⟨d,0,V⟩),X (U ⟨f,0,V⟩)]) (by simp) (by simp [go_sem]) ?_;refine (Mh w ⟨d,0,V⟩ ⟨f,0,V⟩).mono ?_;rintro r u t ⟨rfl,rfl,rfl⟩;exact ⟨_,qv j l o q,hR⟩
theorem vZ (c:Cx σ) (hc:c.Ok) (n:Nat) (e1:4<=n) (g1:n<=3840) (jf:FuncId) (T0:Array M) (G:ai) (m:WM σ (List UInt8))
  (mT:∀ (args:Array M) (w:O),(callFunc jf args).run Q w = .ok (.enter jf args) w) (hj:CL c n jf T0 gi G m)
  (g:Nat) (d:ik σ) (w:O) (e0:Hp) (F:ai) (h:ag w (cH c e0 g d*(aq e0*(G*F)))) (S0:Ending->O->Prop)
  (hQ:∀ e E,CD c g (R V 0 0) gi e0 (G*F) w (dZ m d) e E->S0 e E) :
  Calls Q 163 #[fS g n,.func (.func jf) #[] T0] w S0:=by
 have HQ:=ae hQ;clear hQ;have f1:¬ ((n:Int)<4):=by omega
 have h1:¬ ((n:Int) > 3840):=by omega
 have Hj:=ae hj;unfold fS
 go_enter_defers func163,ntmps163
 have H3:=((h.alloc (Y #[X (U ⟨g,0,V⟩),Z H (n:Int)] 72 (0,0))).alloc (Y #[R V 0 0] 22 (0,0))).alloc (Y #[Z H 0] 28 (0,0));have D3:=(((aj.refl w).alloc (Y #[X (U ⟨g,0,V⟩),Z H (n:Int)] 72 (0,0))).alloc (Y #[R V 0 0] 22 (0,0))).alloc (Y #[Z H 0] 28 (0,0));simp only [Z2] at H3
 go_wp2_with fail
 generalize ((w.alloc (Y #[X (U ⟨g,0,V⟩),Z H (n:Int)] 72 (0,0))).alloc (Y #[R V 0 0] 22 (0,0))).alloc (Y #[Z H 0] 28 (0,0))=w3 at H3 D3 ⊢;clear h;generalize w.heap.size+1+1=t at *;generalize w.heap.size+1=o at *;generalize w.heap.size=v at *;have s0:=H3.aw.cell 0;have s1:w3.cell? ⟨v,1,V⟩=U (Z H (n:Int)):=H3.aw.cell 1;have u:ag w3 (aB 176 5 e0 g c.rd d.err d.W d.D*(aq e0*(c.RI d.s*(pt t (Y #[Z H 0] 28 (0,0))*(pt o (Y #[R V 0 0] 22 (0,0))*(pt v (Y #[X (U ⟨g,0,V⟩),Z H (n:Int)] 72 (0,0))*(G*F))))))):=H3.to (by unfold cH;ac_rfl);have Y0:=nQ w3.drew e0 g c.rd d.err d.W d.D _ u.drew ⟨_,_,rfl⟩;have R0:=ae Y0;clear Y0
 go_region_held3 (fun E=>E.cell? ⟨v,0,V⟩=U (X (U ⟨g,0,V⟩))/\E.cell? ⟨v,1,V⟩=U (Z H (n:Int)))
  (first|exact ⟨s0,s1⟩|exact i0|go_keep)
  (first|(go_at_call 142;refine (R0.out).mono ?_;rintro e w4 ⟨C,f,r0,rfl,h4,d4⟩;have i0:w4.cell? ⟨v,0,V⟩=U (X (U ⟨g,0,V⟩))/\w4.cell? ⟨v,1,V⟩=U (Z H (n:Int)):=⟨h4.bZ.cell 0,h4.bZ.cell 1⟩))
 have D5:=(D3.drew.trans d4).alloc (Y #[X (U ⟨f,0,V⟩),Z H (n:Int),R V 0 0,J N] 149 (0,0));have H5:=h4.alloc (Y #[X (U ⟨f,0,V⟩),Z H (n:Int),R V 0 0,J N] 149 (0,0))
 have N0:ag (w4.alloc (Y #[X (U ⟨f,0,V⟩),Z H (n:Int),R V 0 0,J N] 149 (0,0))) (aF (⟨c,n,w4.heap.size,f⟩:Wk σ) C ⟨d,V,N⟩*(aq C*(G*(aB 176 5 C g c.rd d.err d.W d.D*(pt t (Y #[Z H 0] 28 (0,0))*(pt o (Y #[R V 0 0] 22 (0,0))*(pt v (Y #[X (U ⟨g,0,V⟩),Z H (n:Int)] 72 (0,0))*F))))))):=
  tZ (H5.to (by ac_rfl))
 have u0:=Hj.out ⟨c,n,w4.heap.size,f⟩ _ C ⟨d,V,N⟩ _ rfl rfl N0;rename_i G0;clear s0 s1 u R0 i0 G0 D3 d4 h4 H5 N0 Hj hj H3;generalize w4.heap.size=k at *;obtain ⟨⟨D0,i⟩,hp⟩:∃ p,m ⟨d,V,N⟩=p:=⟨_,rfl⟩
 rw [hp] at u0
 cases D0 with
 | bad cN=>
  have HE:=ae (lq hp);clear hp
  go_wp2_with fail
  (with_reducible refine u0.mono ?_)
  rintro e w6 ⟨B,d0,d6,rfl,h6⟩;have h7:=tV h6
  have P:ag w6 (c.RI i.b.s*(aB 176 5 C g c.rd d.err d.W d.D*(pt t (Y #[Z H 0] 28 (0,0))*(pt o (Y #[R V 0 0] 22 (0,0))*(aq B*(G*F)))))):=
   (h7.to (by ac_rfl:_=pt v (Y #[X (U ⟨g,0,V⟩),Z H (n:Int)] 72 (0,0))*(c.RI i.b.s*(aB 176 5 C g c.rd d.err d.W d.D*(pt t (Y #[Z H 0] 28 (0,0))*(pt o (Y #[R V 0 0] 22 (0,0))*(aq B*(G*F)))))))).right
  have u:=nC d0 P;have z:ag w6 (pt o (Y #[R V 0 0] 22 (0,0))*(pt t (Y #[Z H 0] 28 (0,0))*(cH c B g { d with s:=i.b.s }*(aq B*(G*F))))):=u.to (by ac_rfl)
  go_wp2_with fail
  exact yu rfl rfl z (.inl rfl) fun E f0 F0=>HQ.out _ _ (by rw [HE.out];exact ⟨B,r0.trans d0,(D5.trans d6).trans F0,rfl,f0⟩)
 | ok a=>
  go_wp2_with fail
  (with_reducible refine u0.mono ?_)
  rintro e w6 ⟨B,v6,d0,d6,rfl,h6⟩;unfold gi at h6;obtain ⟨j,q,rfl⟩:=aE h6;generalize a.length=r at h6 ⊢;have h7:ag w6 (aF (⟨c,n,k,f⟩:Wk σ) B i*(aq B*((bs 5 (R j r q) a*G)*(aB 176 5 C g c.rd d.err d.W d.D*(pt t (Y #[Z H 0] 28 (0,0))*(pt o (Y #[R V 0 0] 22 (0,0))*(pt v (Y #[X (U ⟨g,0,V⟩),Z H (n:Int)] 72 (0,0))*F))))))):=h6.to (by ac_rfl);obtain ⟨S,P⟩:=ag.fq h7;clear u0 h6 h7;have u:ag w6 (pt o (Y #[R V 0 0] 22 (0,0))*(pt t (Y #[Z H 0] 28 (0,0))*(pt v (Y #[X (U ⟨g,0,V⟩),Z H (n:Int)] 72 (0,0))*(pt k (Y #[X (U ⟨f,0,V⟩),Z H (n:Int),S,J i.dt] 149 (0,0))*(cH c B f i.b*(cC i.bits S*(aq B*(aB 176 5 C g c.rd d.err d.W d.D*((bs 5 (R j r q) a*G)*F))))))))):=P.to (by unfold bJ Wk.cells;ac_rfl);have c9:w6.cell? ⟨o,0,V⟩=U (R V 0 0):=u.cell 0;have f9:w6.frozen? ⟨o,0,V⟩=N:=u.frozen 0;have z:=u.setCell 0 (R j r q);have n0:=(D5.trans d6).setCell ⟨o,0,V⟩ (R j r q);have k3:=z.aD.cell 3;clear P u D5 d6
  cases b0:i.dt with
  | false=>
   have HE:=ae (nT hp b0);rw [b0] at k3 z;clear hp b0
   go_wp2_with fail
   generalize w6.setCell ⟨o,0,V⟩ (R j r q)=w7 at *;have m0:ag w7 (aB 176 5 C g c.rd d.err d.W d.D*(aB 176 5 B f c.rd i.b.err i.b.W i.b.D*(aq B*(c.RI i.b.s*(pt o (Y #[R j r q] 22 (0,0))*(pt t (Y #[Z H 0] 28 (0,0))*(pt v (Y #[X (U ⟨g,0,V⟩),Z H (n:Int)] 72 (0,0))*(pt k (Y #[X (U ⟨f,0,V⟩),Z H (n:Int),S,J N] 149 (0,0))*(cC i.bits S*((bs 5 (R j r q) a*G)*F)))))))))):=z.to (by unfold cH;ac_rfl);have c0:=m0.fp (dG d0);have s0:=c0.bZ.cell 0;have k0:=c0.eu.cell 0;have H0:=ae (ir w7.drew B g f c.rd c.rd i.b.err d.err i.b.W i.b.D d.W d.D _ c0.drew ⟨_,_,rfl⟩);clear m0 c0 z
   go_region_held3 (fun E=>E.cell? ⟨v,0,V⟩=U (X (U ⟨g,0,V⟩))/\E.cell? ⟨k,0,V⟩=U (X (U ⟨f,0,V⟩)))
    (first|exact ⟨s0,k0⟩|exact i0|go_keep)
    (first|(go_at_call 144;refine (H0.out).mono ?_;rintro e A ⟨y,g0,rfl,P,d8⟩;have i0:A.cell? ⟨v,0,V⟩=U (X (U ⟨g,0,V⟩))/\A.cell? ⟨k,0,V⟩=U (X (U ⟨f,0,V⟩)):=⟨P.bZ.cell 0,P.eu.cell 0⟩))
   all_goals
    rename_i G0;have u:ag A (pt o (Y #[R j r q] 22 (0,0))*(pt t (Y #[Z H 0] 28 (0,0))*((cH c y g i.b*(aq y*((bs 5 (R j r q) a*G)*F)))*(pt v (Y #[X (U ⟨g,0,V⟩),Z H (n:Int)] 72 (0,0))*(pt k (Y #[X (U ⟨f,0,V⟩),Z H (n:Int),S,J N] 149 (0,0))*(aB 176 5 y f c.rd i.b.err i.b.W i.b.D*cC i.bits S)))))):=P.to (by unfold cH;ac_rfl);have c9:A.cell? ⟨o,0,V⟩=U (R j r q):=u.cell 0;have f9:A.frozen? ⟨o,0,V⟩=N:=u.frozen 0;have e9:A.cell? ⟨t,0,V⟩=U (Z H 0):=u.ah.cell 0;have g9:A.frozen? ⟨t,0,V⟩=N:=u.ah.frozen 0;have K0:¬ (o=t):=ag.ne u;have d1:¬ (t=o):=fun h=>K0 h.symm;have z:=((u.setCell 0 (R j r q)).ah.setCell 0 (Z H 0))
    have ca:=z.ah.cell 0;have ce:=z.cell 0;have D9:=(((n0).drew.trans d8).setCell ⟨o,0,V⟩ (R j r q)).setCell ⟨t,0,V⟩ (Z H 0);have hF:=z.right.right.left;have HD:=ae D9;have HF:=ae hF;have Ca:=ae ca;have Ce:=ae ce
    go_wp2_with fail
    exact yc rfl rfl Ca.out Ce.out (HQ.out _ _ (by rw [HE.out];exact ⟨y,_,r0.trans (d0.trans g0),HD.out,rfl,HF.out.to (by unfold gi;ac_rfl)⟩))
  | true=>
   have j0:=fun st'=>qe (st':=st') hp b0;have l0:=fun st' c=>tX (st':=st') (c:=c) hp b0;have j0:=ae j0;have l0:=ae l0;rw [b0] at k3 z;have k2:=z.aD.cell 2;have L0:=yQ z.dI
   have f0:ag (w6.setCell ⟨o,0,V⟩ (R j r q)) (bJ (⟨c,n,k,f⟩:Wk σ) S B i*(aq B*(pt o (Y #[R j r q] 22 (0,0))*(pt t (Y #[Z H 0] 28 (0,0))*(pt v (Y #[X (U ⟨g,0,V⟩),Z H (n:Int)] 72 (0,0))*(cC i.bits S*(aB 176 5 C g c.rd d.err d.W d.D*((bs 5 (R j r q) a*G)*F)))))))):=
    z.to (by unfold bJ Wk.cells;rw [b0];ac_rfl)
   have x0:=km (⟨c,n,k,f⟩:Wk σ) _ S B i 0 S (i.bits.getD []) _ f0 L0
   obtain ⟨va,vl,vc,rfl⟩:∃ a l c,S = R a l c:=by
    obtain ⟨a,c,e⟩:=L0.shape;exact ⟨_,_,_,e⟩
   have W0:∀ st' D0,bP 0 (i.bits.getD []) i=(D0,st')->st'.dt=L:=fun st' D0 h=>by
    unfold bP at h
    split at h
    .simp only [Prod.mk.injEq] at h;rw [<- h.2];exact b0
    .simp only [Prod.mk.injEq] at h;rw [<- h.2];exact b0
   obtain ⟨⟨r2,x⟩,h0⟩:∃ p,bP 0 (i.bits.getD []) i=p:=⟨_,rfl⟩
   rw [h0] at x0;have X0:=W0 _ _ h0;have a1:=ae X0;clear hp b0 f0 L0 W0 X0
   cases r2 with
   | bad cN=>
    have HE:=ae (l0.out _ _ h0);clear h0 j0 l0
    go_wp2_with fail
    (with_reducible refine x0.mono ?_)
    rintro e A ⟨y,g0,d8,rfl,o0⟩
    have p0:ag A (c.RI x.b.s*(aB 176 5 C g c.rd d.err d.W d.D*(pt o (Y #[R j r q] 22 (0,0))*(pt t (Y #[Z H 0] 28 (0,0))*(aq y*((bs 5 (R j r q) a*G)*F)))))):=
     (o0.to (by unfold bJ cH;ac_rfl:_=(pt k (Y ((⟨c,n,k,f⟩:Wk σ).cells (R va vl vc) x.dt) 149 (0,0))*(aB 176 5 y f c.rd x.b.err x.b.W x.b.D*(pt v (Y #[X (U ⟨g,0,V⟩),Z H (n:Int)] 72 (0,0))*cC i.bits (R va vl vc))))*(c.RI x.b.s*(aB 176 5 C g c.rd d.err d.W d.D*(pt o (Y #[R j r q] 22 (0,0))*(pt t (Y #[Z H 0] 28 (0,0))*(aq y*((bs 5 (R j r q) a*G)*F)))))))).right
    have q0:=nC (d0.trans g0) p0;have b1:ag A (pt o (Y #[R j r q] 22 (0,0))*(pt t (Y #[Z H 0] 28 (0,0))*(cH c y g { d with s:=x.b.s }*(aq y*((bs 5 (R j r q) a*G)*F))))):=q0.to (by ac_rfl)
    go_wp2_with fail
    exact yu rfl rfl b1 (.inr ⟨_,_,_,rfl⟩) fun E f0 F0=>HQ.out _ _ (by rw [HE.out];exact ⟨y,r0.trans (d0.trans g0),(n0.trans d8).trans F0,rfl,(f0.to (by ac_rfl:_=bs 5 (R j r q) a*(cH c y g { d with s:=x.b.s }*(aq y*(G*F))))).right⟩)
   | ok i1=>
    have HE:=ae (j0.out _ h0);clear h0 j0 l0
    go_wp2_with fail
    (with_reducible refine x0.mono ?_)
    rintro e w7 ⟨y,v8,g0,d8,rfl,o0⟩;obtain ⟨rfl,p0⟩:=ag.au.1 o0;have q0:ag w7 (pt o (Y #[R j r q] 22 (0,0))*(pt t (Y #[Z H 0] 28 (0,0))*(pt v (Y #[X (U ⟨g,0,V⟩),Z H (n:Int)] 72 (0,0))*(pt k (Y #[X (U ⟨f,0,V⟩),Z H (n:Int),(R va vl vc),J L] 149 (0,0))*(cH c y f x.b*(cC i.bits (R va vl vc)*(aq y*(aB 176 5 C g c.rd d.err d.W d.D*((bs 5 (R j r q) a*G)*F))))))))):=p0.to (by unfold bJ Wk.cells;rw [a1.out];ac_rfl);have Z0:=n0.trans d8;have V0:=d0.trans g0;clear x0 o0 p0 n0 d8 z k2 k3
    go_wp2_with fail
    have m0:ag w7 (aB 176 5 C g c.rd d.err d.W d.D*(aB 176 5 y f c.rd x.b.err x.b.W x.b.D*(aq y*(c.RI x.b.s*(pt o (Y #[R j r q] 22 (0,0))*(pt t (Y #[Z H 0] 28 (0,0))*(pt v (Y #[X (U ⟨g,0,V⟩),Z H (n:Int)] 72 (0,0))*(pt k (Y #[X (U ⟨f,0,V⟩),Z H (n:Int),(R va vl vc),J L] 149 (0,0))*(cC i.bits (R va vl vc)*((bs 5 (R j r q) a*G)*F)))))))))):=q0.to (by unfold cH;ac_rfl);have c0:=m0.fp (dG V0);have s0:=c0.bZ.cell 0;have k0:=c0.eu.cell 0;have H0:=ae (ir w7.drew y g f c.rd c.rd x.b.err d.err x.b.W x.b.D d.W d.D _ c0.drew ⟨_,_,rfl⟩);clear m0 c0 q0
    go_region_held3 (fun E=>E.cell? ⟨v,0,V⟩=U (X (U ⟨g,0,V⟩))/\E.cell? ⟨k,0,V⟩=U (X (U ⟨f,0,V⟩)))
     (first|exact ⟨s0,k0⟩|exact i0|go_keep)
     (first|(go_at_call 144;refine (H0.out).mono ?_;rintro e A ⟨S5,c1,rfl,P,d8⟩;have i0:A.cell? ⟨v,0,V⟩=U (X (U ⟨g,0,V⟩))/\A.cell? ⟨k,0,V⟩=U (X (U ⟨f,0,V⟩)):=⟨P.bZ.cell 0,P.eu.cell 0⟩))
    all_goals
     rename_i G0;have u:ag A (pt o (Y #[R j r q] 22 (0,0))*(pt t (Y #[Z H 0] 28 (0,0))*((cH c S5 g x.b*(aq S5*((bs 5 (R j r q) a*G)*F)))*(pt v (Y #[X (U ⟨g,0,V⟩),Z H (n:Int)] 72 (0,0))*(pt k (Y #[X (U ⟨f,0,V⟩),Z H (n:Int),(R va vl vc),J L] 149 (0,0))*(aB 176 5 S5 f c.rd x.b.err x.b.W x.b.D*cC i.bits (R va vl vc))))))):=P.to (by unfold cH;ac_rfl);have c9:A.cell? ⟨o,0,V⟩=U (R j r q):=u.cell 0;have f9:A.frozen? ⟨o,0,V⟩=N:=u.frozen 0;have e9:A.cell? ⟨t,0,V⟩=U (Z H 0):=u.ah.cell 0;have g9:A.frozen? ⟨t,0,V⟩=N:=u.ah.frozen 0;have K0:¬ (o=t):=ag.ne u;have d1:¬ (t=o):=fun h=>K0 h.symm;have z:=((u.setCell 0 (R j r q)).ah.setCell 0 (Z H 0))
     have ca:=z.ah.cell 0;have ce:=z.cell 0;have D9:=(((Z0).drew.trans d8).setCell ⟨o,0,V⟩ (R j r q)).setCell ⟨t,0,V⟩ (Z H 0);have hF:=z.right.right.left;have HD:=ae D9;have HF:=ae hF;have Ca:=ae ca;have Ce:=ae ce
     go_wp2_with fail
     exact yc rfl rfl Ca.out Ce.out (HQ.out _ _ (by rw [HE.out];exact ⟨S5,_,r0.trans (V0.trans c1),HD.out,rfl,HF.out.to (by unfold gi;ac_rfl)⟩))
end
theorem dM:(prog.info? 202).map (·.size)=U 0:=by kernel_rfl
section
variable {σ α:Type}
theorem LW (w:O) (g:Nat) (i:Addr) :
    CallsD Q 195 #[X (U ⟨g,0,V⟩),X (U i)] .returning w fun e u j=>e = K (I #[])/\u = .returning/\j=w.alloc (Y #[] 202 (0,0)):=by
  refine callsD_of_wpS func195 rfl fun d l f=>?_;apply wpS_seq;refine wpS_of_wp ?_
  simp only [ntmps195,M2,E2,N2,O2,P2,R2,
     T2,U2,V2,W2,X2]
  go_wp2
  apply wpS_seq;apply wpS_region;simp [wpOpsS,go_sem,recoverD,f,Exit.thenS];refine wpS_of_wp ?_
  go_wp2
  cases d
  simp_all [bodyPostS,results,Tryz.results195]
theorem MO (w:O) (g d:Nat) (c y:Int) (f:List PanicEntry) (t:w.cell? ⟨d,0,V⟩=U (Z H y)) (r:w.frozen? ⟨d,0,V⟩=N) (x:d<w.heap.size) :
    CallsD Q 195 #[X (U ⟨g,0,V⟩),X (U ⟨d,0,V⟩)] (.panicking ({ v:=.iface 220 (Z H c),recovered:=N } :: f)) w fun e u l=>
      e = K (I #[])/\u = .panicking ({ v:=.iface 220 (Z H c),recovered:=L } :: f)/\l=(w.setCell ⟨d,0,V⟩ (Z H c)).alloc (Y #[] 202 (0,0)):=by
  refine callsD_of_wpS func195 rfl fun q o i=>?_;apply wpS_seq;refine wpS_of_wp ?_
  simp only [ntmps195,M2,E2,N2,O2,P2,R2,
     T2,U2,V2,W2,X2]
  go_wp2
  apply wpS_seq;apply wpS_region;simp [wpOpsS,go_sem,recoverD,i,Exit.thenS];refine wpS_of_wp ?_;have z:=jF (Z H c)
  go_wp2_with (first|(refine wpList_load_mid (by exact rfl) 202 (.tmp 2) (by exact rfl) w.heap.size 0 (by exact rfl) [] _ (by exact fun j v h=>by cases h) underlying202 rfl (by exact dM) ?_)|(refine wpList_store_mid (by exact rfl) 202 (.tmp 0) (.tmp 12) (by exact rfl) g 0 #[] (by exact rfl) (by exact rfl) (by exact fun j h=>absurd h (J2 _)) (by exact dM) (by exact rfl) ?_))
  exact ⟨rfl,_,rfl,_,results_none rfl _ _ _,rfl,rfl,rfl⟩
theorem qL {w:O} {d:Array M} {a b:Nat} {F:ai} (e:d[4]?=U (az a)) (f:d[5]?=U (az b)) (g:ag w (pt a (Y #[] 202 (0,0))*F)) (i:w.cell? ⟨b,0,V⟩=U v) :
  (results Tryz.f145 d).run Q w = .ok (I #[.agg #[],v]) w:=by
 have j:=run_loadVar_row (P:=Q) w a 202 202 #[] (0,0) _ g.heap underlying202 rfl dM;simp [results,Tryz.results145,e,f,go_sem,asAddr,j,i]
theorem yo {w:O} {i:Array M} {d f:Nat} {z c:Int} {P:ai} {l:Ending->O->Prop} (o:i[4]?=U (az d)) (q:i[5]?=U (az f))
  (h:ag w (pt d (Y #[] 202 (0,0))*(pt f (Y #[Z H z] 28 (0,0))*P))) (hR:∀ j,ag j P->aj w j->l (K (I #[.agg #[],Z H c])) j) :
  bodyPostD Q Tryz.f145 l (Exit.panic (Ji c)) { tmps:=i,defers:=[{ target:=.fn (.func 195) #[X (U ⟨d,0,V⟩),X (U ⟨f,0,V⟩)],args:=#[] }] } w:=by
 refine leaves_cons (f:=195) (args:=#[X (U ⟨d,0,V⟩),X (U ⟨f,0,V⟩)]) (by simp) (by simp [go_sem]) ?_;refine (MO w d f c z [] (h.ah.cell 0) (h.ah.frozen 0) h.ah.lt).mono ?_;rintro e u r ⟨rfl,rfl,rfl⟩;have g:=((h.ah.setCell 0 (Z H c)).alloc (Y #[] 202 (0,0))).right;exact ⟨_,qL o q g.ah (g.cell 0),hR _ g.right.right (((aj.refl w).setCell _ _).alloc _)⟩
theorem xw {w:O} {i:Array M} {d f:Nat} {z:Int} {P:ai} {l:Ending->O->Prop} (o:i[4]?=U (az d)) (q:i[5]?=U (az f))
  (h:ag w (pt d (Y #[] 202 (0,0))*(pt f (Y #[Z H z] 28 (0,0))*P))) (hR:∀ j,ag j P->aj w j->l (K (I #[.agg #[],Z H z])) j) :
  bodyPostD Q Tryz.f145 l Exit.ret { tmps:=i,defers:=[{ target:=.fn (.func 195) #[X (U ⟨d,0,V⟩),X (U ⟨f,0,V⟩)],args:=#[] }] } w:=by
 refine leaves_cons (f:=195) (args:=#[X (U ⟨d,0,V⟩),X (U ⟨f,0,V⟩)]) (by simp) (by simp [go_sem]) ?_;refine (LW w d ⟨f,0,V⟩).mono ?_;rintro e u r ⟨rfl,rfl,rfl⟩;have g:=(h.alloc (Y #[] 202 (0,0))).right;exact ⟨_,qL o q g (g.ah.cell 0),hR _ g.right.right ((aj.refl w).alloc _)⟩
def MD (a:Unit) (v:M):ai:=fact (v = .agg #[])
theorem Ju (c:Cx σ) (hc:c.Ok) (n:Nat) (g1:4<=n) (i1:n<=3840) (jf:FuncId) (V0:Array M) (G:ai) (m:WM σ Unit)
  (mT:∀ (args:Array M) (w:O),(callFunc jf args).run Q w = .ok (.enter jf args) w) (hj:CL c n jf V0 MD G m)
  (g:Nat) (d:ik σ) (w:O) (h0:Hp) (F:ai) (h:ag w (cH c h0 g d*(aq h0*(G*F)))) (T0:Ending->O->Prop)
  (hQ:∀ e y,CD c g (.agg #[]) MD h0 (G*F) w (dZ m d) e y->T0 e y) :
  Calls Q 145 #[fS g n,.func (.func jf) #[] V0] w T0:=by
 have HQ:=ae hQ;clear hQ;have f1:=nr Q;have h1:¬ ((n:Int)<4):=by omega
 have j1:¬ ((n:Int) > 3840):=by omega
 have Hj:=ae hj;unfold fS
 go_enter_defers func145,ntmps145
 have H3:=((h.alloc (Y #[X (U ⟨g,0,V⟩),Z H (n:Int)] 72 (0,0))).alloc (Y #[] 202 (0,0))).alloc (Y #[Z H 0] 28 (0,0));have D3:=(((aj.refl w).alloc (Y #[X (U ⟨g,0,V⟩),Z H (n:Int)] 72 (0,0))).alloc (Y #[] 202 (0,0))).alloc (Y #[Z H 0] 28 (0,0));simp only [Z2] at H3
 go_wp2_with fail
 generalize ((w.alloc (Y #[X (U ⟨g,0,V⟩),Z H (n:Int)] 72 (0,0))).alloc (Y #[] 202 (0,0))).alloc (Y #[Z H 0] 28 (0,0))=w3 at H3 D3 ⊢;clear h;generalize w.heap.size+1+1=q at *;generalize w.heap.size+1=o at *;generalize w.heap.size=j at *;have s0:w3.cell? ⟨j,0,V⟩=U (X (U ⟨g,0,V⟩)):=H3.aw.cell 0;have s1:w3.cell? ⟨j,1,V⟩=U (Z H (n:Int)):=H3.aw.cell 1;have x:ag w3 (aB 176 5 h0 g c.rd d.err d.W d.D*(aq h0*(c.RI d.s*(pt q (Y #[Z H 0] 28 (0,0))*(pt o (Y #[] 202 (0,0))*(pt j (Y #[X (U ⟨g,0,V⟩),Z H (n:Int)] 72 (0,0))*(G*F))))))):=H3.to (by unfold cH;ac_rfl);have Z0:=nQ w3.drew h0 g c.rd d.err d.W d.D _ x.drew ⟨_,_,rfl⟩;have S0:=ae Z0;clear Z0
 go_region_held3 (fun y=>y.cell? ⟨j,0,V⟩=U (X (U ⟨g,0,V⟩))/\y.cell? ⟨j,1,V⟩=U (Z H (n:Int)))
  (first|exact ⟨s0,s1⟩|exact f0|go_keep)
  (first|(go_at_call 142;refine (S0.out).mono ?_;rintro e w4 ⟨C,f,F0,rfl,h4,d4⟩;have f0:w4.cell? ⟨j,0,V⟩=U (X (U ⟨g,0,V⟩))/\w4.cell? ⟨j,1,V⟩=U (Z H (n:Int)):=⟨h4.bZ.cell 0,h4.bZ.cell 1⟩))
 have D5:=(D3.drew.trans d4).alloc (Y #[X (U ⟨f,0,V⟩),Z H (n:Int),R V 0 0,J N] 149 (0,0));have H5:=h4.alloc (Y #[X (U ⟨f,0,V⟩),Z H (n:Int),R V 0 0,J N] 149 (0,0))
 have R0:ag (w4.alloc (Y #[X (U ⟨f,0,V⟩),Z H (n:Int),R V 0 0,J N] 149 (0,0))) (aF (⟨c,n,w4.heap.size,f⟩:Wk σ) C ⟨d,V,N⟩*(aq C*(G*(aB 176 5 C g c.rd d.err d.W d.D*(pt q (Y #[Z H 0] 28 (0,0))*(pt o (Y #[] 202 (0,0))*(pt j (Y #[X (U ⟨g,0,V⟩),Z H (n:Int)] 72 (0,0))*F))))))):=
  tZ (H5.to (by ac_rfl))
 have G0:=Hj.out ⟨c,n,w4.heap.size,f⟩ _ C ⟨d,V,N⟩ _ rfl rfl R0;rename_i o0;clear s0 s1 x S0 f0 o0 D3 d4 h4 H5 R0 Hj hj H3;generalize w4.alloc (Y #[X (U ⟨f,0,V⟩),Z H (n:Int),R V 0 0,J N] 149 (0,0))=w5 at *;generalize w4.heap.size=k at *;obtain ⟨⟨K0,i⟩,hp⟩:∃ p,m ⟨d,V,N⟩=p:=⟨_,rfl⟩
 rw [hp] at G0
 cases K0 with
 | bad cN=>
  have HE:=ae (lq hp);clear hp
  go_wp2_with fail
  (with_reducible refine G0.mono ?_)
  rintro e w6 ⟨z,e0,d6,rfl,h6⟩;have h7:=tV h6
  have A:ag w6 (c.RI i.b.s*(aB 176 5 C g c.rd d.err d.W d.D*(pt q (Y #[Z H 0] 28 (0,0))*(pt o (Y #[] 202 (0,0))*(aq z*(G*F)))))):=
   (h7.to (by ac_rfl:_=pt j (Y #[X (U ⟨g,0,V⟩),Z H (n:Int)] 72 (0,0))*(c.RI i.b.s*(aB 176 5 C g c.rd d.err d.W d.D*(pt q (Y #[Z H 0] 28 (0,0))*(pt o (Y #[] 202 (0,0))*(aq z*(G*F)))))))).right
  have x:=nC e0 A;have u:ag w6 (pt o (Y #[] 202 (0,0))*(pt q (Y #[Z H 0] 28 (0,0))*(cH c z g { d with s:=i.b.s }*(aq z*(G*F))))):=x.to (by ac_rfl)
  go_wp2_with fail
  exact yo rfl rfl u fun y b0 g0=>HQ.out _ _ (by rw [HE.out];exact ⟨z,F0.trans e0,(D5.trans d6).trans g0,rfl,b0⟩)
 | ok a=>
  go_wp2_with fail
  (with_reducible refine G0.mono ?_)
  rintro e w6 ⟨z,v6,e0,d6,rfl,h6⟩;obtain ⟨rfl,h7⟩:=ag.au.1 h6;obtain ⟨E,A⟩:=ag.fq h7;clear G0 h6 h7;have x:ag w6 (pt o (Y #[] 202 (0,0))*(pt q (Y #[Z H 0] 28 (0,0))*(pt j (Y #[X (U ⟨g,0,V⟩),Z H (n:Int)] 72 (0,0))*(pt k (Y #[X (U ⟨f,0,V⟩),Z H (n:Int),E,J i.dt] 149 (0,0))*(cH c z f i.b*(cC i.bits E*(aq z*(aB 176 5 C g c.rd d.err d.W d.D*(G*F))))))))):=A.to (by unfold bJ Wk.cells;ac_rfl);have u:=x;have r0:=D5.trans d6;have k3:w6.cell? ⟨k,3,V⟩=U (J i.dt):=u.aD.cell 3;clear A x D5 d6
  cases c0:i.dt with
  | false=>
   have HE:=ae (nT hp c0);rw [c0] at k3 u;clear hp c0
   go_wp2_with (refine wpList_store_mid (by exact rfl) 202 (.tmp 4) (.tmp 31) (by exact rfl) o 0 #[] (by exact rfl) (by exact rfl) (by exact fun l0 h=>absurd h (J2 _)) (by exact dM) (by exact rfl) ?_)
   have c1:∃ P,P=w6:=⟨_,rfl⟩
   obtain ⟨P,rfl⟩:=c1;have p0:ag P (aB 176 5 C g c.rd d.err d.W d.D*(aB 176 5 z f c.rd i.b.err i.b.W i.b.D*(aq z*(c.RI i.b.s*(pt o (Y #[] 202 (0,0))*(pt q (Y #[Z H 0] 28 (0,0))*(pt j (Y #[X (U ⟨g,0,V⟩),Z H (n:Int)] 72 (0,0))*(pt k (Y #[X (U ⟨f,0,V⟩),Z H (n:Int),E,J N] 149 (0,0))*(cC i.bits E*(G*F)))))))))):=u.to (by unfold cH;ac_rfl);have d0:=p0.fp (dG e0);have s0:P.cell? ⟨j,0,V⟩=U (X (U ⟨g,0,V⟩)):=d0.bZ.cell 0;have k0:P.cell? ⟨k,0,V⟩=U (X (U ⟨f,0,V⟩)):=d0.eu.cell 0;have q0:=ae (ir P.drew z g f c.rd c.rd i.b.err d.err i.b.W i.b.D d.W d.D _ d0.drew ⟨_,_,rfl⟩);clear p0 d0 u
   go_region_held3 (fun y=>y.cell? ⟨j,0,V⟩=U (X (U ⟨g,0,V⟩))/\y.cell? ⟨k,0,V⟩=U (X (U ⟨f,0,V⟩)))
    (first|exact ⟨s0,k0⟩|exact f0|go_keep)
    (first|(go_at_call 144;refine (q0.out).mono ?_;rintro e B ⟨t,i0,rfl,A,S⟩;have f0:B.cell? ⟨j,0,V⟩=U (X (U ⟨g,0,V⟩))/\B.cell? ⟨k,0,V⟩=U (X (U ⟨f,0,V⟩)):=⟨A.bZ.cell 0,A.eu.cell 0⟩))
   all_goals
    rename_i o0;have x:ag B (pt o (Y #[] 202 (0,0))*(pt q (Y #[Z H 0] 28 (0,0))*((cH c t g i.b*(aq t*(G*F)))*(pt j (Y #[X (U ⟨g,0,V⟩),Z H (n:Int)] 72 (0,0))*(pt k (Y #[X (U ⟨f,0,V⟩),Z H (n:Int),E,J N] 149 (0,0))*(aB 176 5 t f c.rd i.b.err i.b.W i.b.D*cC i.bits E)))))):=A.to (by unfold cH;ac_rfl);have e9:B.cell? ⟨q,0,V⟩=U (Z H 0):=x.ah.cell 0;have g9:B.frozen? ⟨q,0,V⟩=N:=x.ah.frozen 0;have u:=((x.ah.setCell 0 (Z H 0)).ah)
    have D9:=((r0).drew.trans S).setCell ⟨q,0,V⟩ (Z H 0);have HD:=ae D9;have L0:=ae u;clear q0 s0 k0 f0 A x u D9 o0 S
    go_wp2_with (first|(refine wpList_load_mid (by exact rfl) 202 (.tmp 4) (by exact rfl) o 0 (by exact rfl) [] _ (by exact fun l0 v h=>by cases h) underlying202 rfl (by exact dM) ?_)|(refine wpList_store_mid (by exact rfl) 202 (.tmp 4) (.tmp 49) (by exact rfl) o 0 #[] (by exact rfl) (by exact rfl) (by exact fun l0 h=>absurd h (J2 _)) (by exact dM) (by exact rfl) ?_))
    exact xw rfl rfl L0.out fun y b0 g0=>HQ.out _ _ (by rw [HE.out];exact ⟨t,_,F0.trans (e0.trans i0),HD.out.trans g0,rfl,ag.au.2 ⟨rfl,(b0.left).to (by ac_rfl)⟩⟩)
  | true=>
   have m0:=fun st'=>qe (st':=st') hp c0;have n0:=fun st' c=>tX (st':=st') (c:=c) hp c0;have m0:=ae m0;have n0:=ae n0;rw [c0] at k3 u;have k2:w6.cell? ⟨k,2,V⟩=U E:=u.aD.cell 2;have N0:Rd w6 E (i.bits.getD []):=yQ u.dI
   have b0:ag w6 (bJ (⟨c,n,k,f⟩:Wk σ) E z i*(aq z*(pt o (Y #[] 202 (0,0))*(pt q (Y #[Z H 0] 28 (0,0))*(pt j (Y #[X (U ⟨g,0,V⟩),Z H (n:Int)] 72 (0,0))*(cC i.bits E*(aB 176 5 C g c.rd d.err d.W d.D*(G*F)))))))):=
    u.to (by unfold bJ Wk.cells;rw [c0];ac_rfl)
   have H0:=km (⟨c,n,k,f⟩:Wk σ) _ E z i 0 E (i.bits.getD []) _ b0 N0
   obtain ⟨va,vl,vc,rfl⟩:∃ a l c,E = R a l c:=by
    obtain ⟨a,c,e⟩:=N0.shape;exact ⟨_,_,_,e⟩
   have X0:∀ st' K0,bP 0 (i.bits.getD []) i=(K0,st')->st'.dt=L:=fun st' K0 h=>by
    unfold bP at h
    split at h
    .simp only [Prod.mk.injEq] at h;rw [<- h.2];exact c0
    .simp only [Prod.mk.injEq] at h;rw [<- h.2];exact c0
   obtain ⟨⟨r2,r⟩,j0⟩:∃ p,bP 0 (i.bits.getD []) i=p:=⟨_,rfl⟩
   rw [j0] at H0;have Y0:=X0 _ _ j0;have b1:=ae Y0;clear hp c0 b0 N0 X0 Y0
   cases r2 with
   | bad cN=>
    have HE:=ae (n0.out _ _ j0);clear j0 m0 n0
    go_wp2_with (refine wpList_store_mid (by exact rfl) 202 (.tmp 4) (.tmp 31) (by exact rfl) o 0 #[] (by exact rfl) (by exact rfl) (by exact fun l0 h=>absurd h (J2 _)) (by exact dM) (by exact rfl) ?_)
    (with_reducible refine H0.mono ?_)
    rintro e B ⟨t,i0,S,rfl,u0⟩
    have x0:ag B (c.RI r.b.s*(aB 176 5 C g c.rd d.err d.W d.D*(pt o (Y #[] 202 (0,0))*(pt q (Y #[Z H 0] 28 (0,0))*(aq t*(G*F)))))):=
     (u0.to (by unfold bJ cH;ac_rfl:_=(pt k (Y ((⟨c,n,k,f⟩:Wk σ).cells (R va vl vc) r.dt) 149 (0,0))*(aB 176 5 t f c.rd r.b.err r.b.W r.b.D*(pt j (Y #[X (U ⟨g,0,V⟩),Z H (n:Int)] 72 (0,0))*cC i.bits (R va vl vc))))*(c.RI r.b.s*(aB 176 5 C g c.rd d.err d.W d.D*(pt o (Y #[] 202 (0,0))*(pt q (Y #[Z H 0] 28 (0,0))*(aq t*(G*F)))))))).right
    have D0:=nC (e0.trans i0) x0;have d1:ag B (pt o (Y #[] 202 (0,0))*(pt q (Y #[Z H 0] 28 (0,0))*(cH c t g { d with s:=r.b.s }*(aq t*(G*F))))):=D0.to (by ac_rfl)
    go_wp2_with fail
    exact yo rfl rfl d1 fun y b0 g0=>HQ.out _ _ (by rw [HE.out];exact ⟨t,F0.trans (e0.trans i0),(r0.trans S).trans g0,rfl,b0⟩)
   | ok k1=>
    have HE:=ae (m0.out _ j0);clear j0 m0 n0
    go_wp2_with (refine wpList_store_mid (by exact rfl) 202 (.tmp 4) (.tmp 31) (by exact rfl) o 0 #[] (by exact rfl) (by exact rfl) (by exact fun l0 h=>absurd h (J2 _)) (by exact dM) (by exact rfl) ?_)
    (with_reducible refine H0.mono ?_)
    rintro e P ⟨t,v8,i0,S,rfl,u0⟩;obtain ⟨rfl,x0⟩:=ag.au.1 u0;have D0:ag P (pt o (Y #[] 202 (0,0))*(pt q (Y #[Z H 0] 28 (0,0))*(pt j (Y #[X (U ⟨g,0,V⟩),Z H (n:Int)] 72 (0,0))*(pt k (Y #[X (U ⟨f,0,V⟩),Z H (n:Int),(R va vl vc),J L] 149 (0,0))*(cH c t f r.b*(cC i.bits (R va vl vc)*(aq t*(aB 176 5 C g c.rd d.err d.W d.D*(G*F))))))))):=x0.to (by unfold bJ Wk.cells;rw [b1.out];ac_rfl);have a1:=r0.trans S;have W0:=e0.trans i0;clear H0 u0 x0 r0 S u k2 k3
    go_wp2_with fail
    have p0:ag P (aB 176 5 C g c.rd d.err d.W d.D*(aB 176 5 t f c.rd r.b.err r.b.W r.b.D*(aq t*(c.RI r.b.s*(pt o (Y #[] 202 (0,0))*(pt q (Y #[Z H 0] 28 (0,0))*(pt j (Y #[X (U ⟨g,0,V⟩),Z H (n:Int)] 72 (0,0))*(pt k (Y #[X (U ⟨f,0,V⟩),Z H (n:Int),(R va vl vc),J L] 149 (0,0))*(cC i.bits (R va vl vc)*(G*F)))))))))):=D0.to (by unfold cH;ac_rfl);have d0:=p0.fp (dG W0);have s0:P.cell? ⟨j,0,V⟩=U (X (U ⟨g,0,V⟩)):=d0.bZ.cell 0;have k0:P.cell? ⟨k,0,V⟩=U (X (U ⟨f,0,V⟩)):=d0.eu.cell 0;have q0:=ae (ir P.drew t g f c.rd c.rd r.b.err d.err r.b.W r.b.D d.W d.D _ d0.drew ⟨_,_,rfl⟩);clear p0 d0 D0
    go_region_held3 (fun y=>y.cell? ⟨j,0,V⟩=U (X (U ⟨g,0,V⟩))/\y.cell? ⟨k,0,V⟩=U (X (U ⟨f,0,V⟩)))
     (first|exact ⟨s0,k0⟩|exact f0|go_keep)
     (first|(go_at_call 144;refine (q0.out).mono ?_;rintro e B ⟨S5,e1,rfl,A,S⟩;have f0:B.cell? ⟨j,0,V⟩=U (X (U ⟨g,0,V⟩))/\B.cell? ⟨k,0,V⟩=U (X (U ⟨f,0,V⟩)):=⟨A.bZ.cell 0,A.eu.cell 0⟩))
    all_goals
     rename_i o0;have x:ag B (pt o (Y #[] 202 (0,0))*(pt q (Y #[Z H 0] 28 (0,0))*((cH c S5 g r.b*(aq S5*(G*F)))*(pt j (Y #[X (U ⟨g,0,V⟩),Z H (n:Int)] 72 (0,0))*(pt k (Y #[X (U ⟨f,0,V⟩),Z H (n:Int),(R va vl vc),J L] 149 (0,0))*(aB 176 5 S5 f c.rd r.b.err r.b.W r.b.D*cC i.bits (R va vl vc))))))):=A.to (by unfold cH;ac_rfl);have e9:B.cell? ⟨q,0,V⟩=U (Z H 0):=x.ah.cell 0;have g9:B.frozen? ⟨q,0,V⟩=N:=x.ah.frozen 0;have u:=((x.ah.setCell 0 (Z H 0)).ah)
     have D9:=((a1).drew.trans S).setCell ⟨q,0,V⟩ (Z H 0);have HD:=ae D9;have L0:=ae u;clear q0 s0 k0 f0 A x u D9 o0 S
     go_wp2_with (first|(refine wpList_load_mid (by exact rfl) 202 (.tmp 4) (by exact rfl) o 0 (by exact rfl) [] _ (by exact fun l0 v h=>by cases h) underlying202 rfl (by exact dM) ?_)|(refine wpList_store_mid (by exact rfl) 202 (.tmp 4) (.tmp 49) (by exact rfl) o 0 #[] (by exact rfl) (by exact rfl) (by exact fun l0 h=>absurd h (J2 _)) (by exact dM) (by exact rfl) ?_))
     exact xw rfl rfl L0.out fun y b0 g0=>HQ.out _ _ (by rw [HE.out];exact ⟨S5,_,F0.trans (W0.trans e1),HD.out.trans g0,rfl,ag.au.2 ⟨rfl,(b0.left).to (by ac_rfl)⟩⟩)
end
section
variable {σ α:Type}
theorem MS (w:O) (g:Nat) (i:Addr) :
    CallsD Q 214 #[X (U ⟨g,0,V⟩),X (U i)] .returning w fun e u j=>e = K (I #[])/\u = .returning/\j=w.alloc (Y #[Z H 0,Z H 0,Z H 0,Z H 0,Z H 0,Z H 0,Z H 0,Z H 0,Z H 0,Z H 0,Z H 0,Z H 0,Z H 0,Z H 0,Z H 0,Z H 0,Z H 0,Z H 0,Z H 0,Z H 0] 65 (0,0)):=by
  refine callsD_of_wpS func214 rfl fun d l f=>?_;apply wpS_seq;refine wpS_of_wp ?_
  simp only [ntmps214,M2,E2,N2,O2,P2,R2,
     T2,U2,V2,W2,X2]
  go_wp2
  simp only [Exit.thenS];apply wpS_seq;apply wpS_region;simp [wpOpsS,go_sem,recoverD,f,Exit.thenS];refine wpS_of_wp ?_
  go_wp2
  cases d
  simp_all [bodyPostS,results,Tryz.results214]
  try rfl
theorem LZ (w:O) (d f:Nat) (j:Array M) (E:j.size=20) (c y:Int) (v:List PanicEntry) (P:ai) (h:ag w (pt d (Y j 65 (0,0))*(pt f (Y #[Z H y] 28 (0,0))*P))) :
    CallsD Q 214 #[X (U ⟨d,0,V⟩),X (U ⟨f,0,V⟩)] (.panicking ({ v:=.iface 220 (Z H c),recovered:=N } :: v)) w fun e u x=>
      e = K (I #[])/\u = .panicking ({ v:=.iface 220 (Z H c),recovered:=L } :: v)/\ag x (pt d (Y #[Z H 0,Z H 0,Z H 0,Z H 0,Z H 0,Z H 0,Z H 0,Z H 0,Z H 0,Z H 0,Z H 0,Z H 0,Z H 0,Z H 0,Z H 0,Z H 0,Z H 0,Z H 0,Z H 0,Z H 0] 65 (0,0))*(pt f (Y #[Z H c] 28 (0,0))*P))/\aj w x:=by
  refine callsD_of_wpS func214 rfl fun b0 S G=>?_;apply wpS_seq;refine wpS_of_wp ?_
  simp only [ntmps214,M2,E2,N2,O2,P2,R2,
     T2,U2,V2,W2,X2]
  go_wp2
  simp only [Exit.thenS];apply wpS_seq;apply wpS_region;simp [wpOpsS,go_sem,recoverD,G,Exit.thenS];refine wpS_of_wp ?_;have c0:=jF (Z H c);have g:=h.alloc (Y #[Z H 0,Z H 0,Z H 0,Z H 0,Z H 0,Z H 0,Z H 0,Z H 0,Z H 0,Z H 0,Z H 0,Z H 0,Z H 0,Z H 0,Z H 0,Z H 0,Z H 0,Z H 0,Z H 0,Z H 0] 65 (0,0));have l:=(aj.refl w).alloc (Y #[Z H 0,Z H 0,Z H 0,Z H 0,Z H 0,Z H 0,Z H 0,Z H 0,Z H 0,Z H 0,Z H 0,Z H 0,Z H 0,Z H 0,Z H 0,Z H 0,Z H 0,Z H 0,Z H 0,Z H 0] 65 (0,0));have q:=g.heap;have r:=g.ah.heap;have i:=g.ah.setRow (cs':=#[Z H 0,Z H 0,Z H 0,Z H 0,Z H 0,Z H 0,Z H 0,Z H 0,Z H 0,Z H 0,Z H 0,Z H 0,Z H 0,Z H 0,Z H 0,Z H 0,Z H 0,Z H 0,Z H 0,Z H 0]);have z:=ae (((l.setRow d #[Z H 0,Z H 0,Z H 0,Z H 0,Z H 0,Z H 0,Z H 0,Z H 0,Z H 0,Z H 0,Z H 0,Z H 0,Z H 0,Z H 0,Z H 0,Z H 0,Z H 0,Z H 0,Z H 0,Z H 0])).setCell ⟨f,0,V⟩ (Z H c));have o:=(i.aw.setCell 0 (Z H c))
  generalize w.alloc (Y #[Z H 0,Z H 0,Z H 0,Z H 0,Z H 0,Z H 0,Z H 0,Z H 0,Z H 0,Z H 0,Z H 0,Z H 0,Z H 0,Z H 0,Z H 0,Z H 0,Z H 0,Z H 0,Z H 0,Z H 0] 65 (0,0))=w1 at *;generalize w.heap.size=t at *;have e1:=i.aw.cell 0;have f1:=i.aw.frozen 0;have B:=ae q;have C:=ae r;have A:=ae o;clear h g i o l q r
  go_wp2_with (first|(refine wpList_load_row (by exact rfl) 65 (.tmp 2) (by exact rfl) t (by exact rfl) 65 #[Z H 0,Z H 0,Z H 0,Z H 0,Z H 0,Z H 0,Z H 0,Z H 0,Z H 0,Z H 0,Z H 0,Z H 0,Z H 0,Z H 0,Z H 0,Z H 0,Z H 0,Z H 0,Z H 0,Z H 0] (0,0) _ (by with_reducible exact B.out) underlying65 rfl bE ?_)|(refine wpList_store_row (by exact rfl) 65 (.tmp 0) (.tmp 12) (by exact rfl) d #[Z H 0,Z H 0,Z H 0,Z H 0,Z H 0,Z H 0,Z H 0,Z H 0,Z H 0,Z H 0,Z H 0,Z H 0,Z H 0,Z H 0,Z H 0,Z H 0,Z H 0,Z H 0,Z H 0,Z H 0] (by exact rfl) (by exact rfl) 65 j (by with_reducible exact C.out) bE E FG ?_))
  exact ⟨rfl,_,rfl,_,results_none rfl _ _ _,rfl,rfl,(A.out.to (by ac_rfl:_=pt t (Y #[Z H 0,Z H 0,Z H 0,Z H 0,Z H 0,Z H 0,Z H 0,Z H 0,Z H 0,Z H 0,Z H 0,Z H 0,Z H 0,Z H 0,Z H 0,Z H 0,Z H 0,Z H 0,Z H 0,Z H 0] 65 (0,0))*(pt d (Y #[Z H 0,Z H 0,Z H 0,Z H 0,Z H 0,Z H 0,Z H 0,Z H 0,Z H 0,Z H 0,Z H 0,Z H 0,Z H 0,Z H 0,Z H 0,Z H 0,Z H 0,Z H 0,Z H 0,Z H 0] 65 (0,0))*(pt f (Y #[Z H c] 28 (0,0))*P)))).right,z.out⟩
theorem qP {w:O} {d:Array M} {a b:Nat} {e:Array M} {F:ai} (f:d[4]?=U (az a)) (g:d[5]?=U (az b)) (j:ag w (pt a (Y e 65 (0,0))*F)) (i:e.size=20) (l:w.cell? ⟨b,0,V⟩=U v) :
  (results Tryz.f158 d).run Q w = .ok (I #[.agg e,v]) w:=by
 have o:=run_loadVar_row (P:=Q) w a 65 65 e (0,0) _ j.heap underlying65 rfl (by rw [i];exact bE);have r:d.getD 4 undef = X (U ⟨a,0,V⟩):=by simp [f]
 have t:d.getD 5 undef = X (U ⟨b,0,V⟩):=by simp [g]
 have q:(loadVar 28 ⟨b,0,V⟩).run Q w = .ok v w:=by simp [go_sem,l]
 simp [results,Tryz.results158,f,g,asAddr,o,q]
theorem yf {w:O} {j:Array M} {d f:Nat} {g:Array M} {z c:Int} {P:ai} {o:Ending->O->Prop} (r:j[4]?=U (az d)) (t:j[5]?=U (az f))
  (h:ag w (pt d (Y g 65 (0,0))*(pt f (Y #[Z H z] 28 (0,0))*P))) (v:g.size=20) (hR:∀ l,ag l P->aj w l->o (K (I #[.agg #[Z H 0,Z H 0,Z H 0,Z H 0,Z H 0,Z H 0,Z H 0,Z H 0,Z H 0,Z H 0,Z H 0,Z H 0,Z H 0,Z H 0,Z H 0,Z H 0,Z H 0,Z H 0,Z H 0,Z H 0],Z H c])) l) :
  bodyPostD Q Tryz.f158 o (Exit.panic (Ji c)) { tmps:=j,defers:=[{ target:=.fn (.func 214) #[X (U ⟨d,0,V⟩),X (U ⟨f,0,V⟩)],args:=#[] }] } w:=by
 refine leaves_cons (f:=214) (args:=#[X (U ⟨d,0,V⟩),X (U ⟨f,0,V⟩)]) (by simp) (by simp [go_sem]) ?_;refine (LZ w d f g v c z [] P h).mono ?_;rintro e u x ⟨rfl,rfl,i,q⟩;exact ⟨_,qP r t i rfl (i.ah.cell 0),hR _ i.right.right q⟩
theorem yj {w:O} {j:Array M} {d f:Nat} {g:Array M} {z:Int} {P:ai} {o:Ending->O->Prop} (q:j[4]?=U (az d)) (r:j[5]?=U (az f))
  (h:ag w (pt d (Y g 65 (0,0))*(pt f (Y #[Z H z] 28 (0,0))*P))) (t:g.size=20) (hR:∀ l,ag l P->aj w l->o (K (I #[.agg g,Z H z])) l) :
  bodyPostD Q Tryz.f158 o Exit.ret { tmps:=j,defers:=[{ target:=.fn (.func 214) #[X (U ⟨d,0,V⟩),X (U ⟨f,0,V⟩)],args:=#[] }] } w:=by
 refine leaves_cons (f:=214) (args:=#[X (U ⟨d,0,V⟩),X (U ⟨f,0,V⟩)]) (by simp) (by simp [go_sem]) ?_;refine (MS w d ⟨f,0,V⟩).mono ?_;rintro e u v ⟨rfl,rfl,rfl⟩;have i:=(h.alloc (Y #[Z H 0,Z H 0,Z H 0,Z H 0,Z H 0,Z H 0,Z H 0,Z H 0,Z H 0,Z H 0,Z H 0,Z H 0,Z H 0,Z H 0,Z H 0,Z H 0,Z H 0,Z H 0,Z H 0,Z H 0] 65 (0,0))).right;exact ⟨_,qP q r i t (i.ah.cell 0),hR _ i.right.right ((aj.refl w).alloc _)⟩
def Ay (a:Nd) (v:M):ai:=fact (v=a.v/\a.dr.length=16)
theorem Lu (c:Cx σ) (hc:c.Ok) (n:Nat) (p1:4<=n) (r1:n<=3840) (jf:FuncId) (b1:Array M) (G:ai) (m:WM σ Nd)
  (mT:∀ (args:Array M) (w:O),(callFunc jf args).run Q w = .ok (.enter jf args) w) (hj:CL c n jf b1 Ay G m)
  (g:Nat) (d:ik σ) (w:O) (i0:Hp) (F:ai) (h:ag w (cH c i0 g d*(aq i0*(G*F)))) (a1:Ending->O->Prop)
  (hQ:∀ e y,CD c g (.agg #[Z H 0,Z H 0,Z H 0,Z H 0,Z H 0,Z H 0,Z H 0,Z H 0,Z H 0,Z H 0,Z H 0,Z H 0,Z H 0,Z H 0,Z H 0,Z H 0,Z H 0,Z H 0,Z H 0,Z H 0]) Ay i0 (G*F) w (dZ m d) e y->a1 e y) :
  Calls Q 158 #[fS g n,.func (.func jf) #[] b1] w a1:=by
 have HQ:=ae hQ;clear hQ;have o1:=nr Q;have q1:¬ ((n:Int)<4):=by omega
 have t1:¬ ((n:Int) > 3840):=by omega
 have Hj:=ae hj;unfold fS
 go_enter_defers func158,ntmps158
 have H3:=((h.alloc (Y #[X (U ⟨g,0,V⟩),Z H (n:Int)] 72 (0,0))).alloc (Y #[Z H 0,Z H 0,Z H 0,Z H 0,Z H 0,Z H 0,Z H 0,Z H 0,Z H 0,Z H 0,Z H 0,Z H 0,Z H 0,Z H 0,Z H 0,Z H 0,Z H 0,Z H 0,Z H 0,Z H 0] 65 (0,0))).alloc (Y #[Z H 0] 28 (0,0));have D3:=(((aj.refl w).alloc (Y #[X (U ⟨g,0,V⟩),Z H (n:Int)] 72 (0,0))).alloc (Y #[Z H 0,Z H 0,Z H 0,Z H 0,Z H 0,Z H 0,Z H 0,Z H 0,Z H 0,Z H 0,Z H 0,Z H 0,Z H 0,Z H 0,Z H 0,Z H 0,Z H 0,Z H 0,Z H 0,Z H 0] 65 (0,0))).alloc (Y #[Z H 0] 28 (0,0));simp only [Z2] at H3
 go_wp2_with fail
 generalize ((w.alloc (Y #[X (U ⟨g,0,V⟩),Z H (n:Int)] 72 (0,0))).alloc (Y #[Z H 0,Z H 0,Z H 0,Z H 0,Z H 0,Z H 0,Z H 0,Z H 0,Z H 0,Z H 0,Z H 0,Z H 0,Z H 0,Z H 0,Z H 0,Z H 0,Z H 0,Z H 0,Z H 0,Z H 0] 65 (0,0))).alloc (Y #[Z H 0] 28 (0,0))=w3 at H3 D3 ⊢;clear h;generalize w.heap.size+1+1=r at *;generalize w.heap.size+1=o at *;generalize w.heap.size=q at *;have s0:w3.cell? ⟨q,0,V⟩=U (X (U ⟨g,0,V⟩)):=H3.aw.cell 0;have s1:w3.cell? ⟨q,1,V⟩=U (Z H (n:Int)):=H3.aw.cell 1;have x:ag w3 (aB 176 5 i0 g c.rd d.err d.W d.D*(aq i0*(c.RI d.s*(pt r (Y #[Z H 0] 28 (0,0))*(pt o (Y #[Z H 0,Z H 0,Z H 0,Z H 0,Z H 0,Z H 0,Z H 0,Z H 0,Z H 0,Z H 0,Z H 0,Z H 0,Z H 0,Z H 0,Z H 0,Z H 0,Z H 0,Z H 0,Z H 0,Z H 0] 65 (0,0))*(pt q (Y #[X (U ⟨g,0,V⟩),Z H (n:Int)] 72 (0,0))*(G*F))))))):=H3.to (by unfold cH;ac_rfl);have h1:=nQ w3.drew i0 g c.rd d.err d.W d.D _ x.drew ⟨_,_,rfl⟩;have Z0:=ae h1;clear h1
 go_region_held3 (fun y=>y.cell? ⟨q,0,V⟩=U (X (U ⟨g,0,V⟩))/\y.cell? ⟨q,1,V⟩=U (Z H (n:Int)))
  (first|exact ⟨s0,s1⟩|exact f0|go_keep)
  (first|(go_at_call 142;refine (Z0.out).mono ?_;rintro e w4 ⟨C,f,H0,rfl,h4,d4⟩;have f0:w4.cell? ⟨q,0,V⟩=U (X (U ⟨g,0,V⟩))/\w4.cell? ⟨q,1,V⟩=U (Z H (n:Int)):=⟨h4.bZ.cell 0,h4.bZ.cell 1⟩))
 have D5:=(D3.drew.trans d4).alloc (Y #[X (U ⟨f,0,V⟩),Z H (n:Int),R V 0 0,J N] 149 (0,0));have H5:=h4.alloc (Y #[X (U ⟨f,0,V⟩),Z H (n:Int),R V 0 0,J N] 149 (0,0))
 have X0:ag (w4.alloc (Y #[X (U ⟨f,0,V⟩),Z H (n:Int),R V 0 0,J N] 149 (0,0))) (aF (⟨c,n,w4.heap.size,f⟩:Wk σ) C ⟨d,V,N⟩*(aq C*(G*(aB 176 5 C g c.rd d.err d.W d.D*(pt r (Y #[Z H 0] 28 (0,0))*(pt o (Y #[Z H 0,Z H 0,Z H 0,Z H 0,Z H 0,Z H 0,Z H 0,Z H 0,Z H 0,Z H 0,Z H 0,Z H 0,Z H 0,Z H 0,Z H 0,Z H 0,Z H 0,Z H 0,Z H 0,Z H 0] 65 (0,0))*(pt q (Y #[X (U ⟨g,0,V⟩),Z H (n:Int)] 72 (0,0))*F))))))):=
  tZ (H5.to (by ac_rfl))
 have K0:=Hj.out ⟨c,n,w4.heap.size,f⟩ _ C ⟨d,V,N⟩ _ rfl rfl X0;rename_i q0;clear s0 s1 x Z0 f0 q0 D3 d4 h4 H5 X0 Hj hj H3;generalize w4.alloc (Y #[X (U ⟨f,0,V⟩),Z H (n:Int),R V 0 0,J N] 149 (0,0))=w5 at *;generalize w4.heap.size=k at *;obtain ⟨⟨N0,j⟩,hp⟩:∃ p,m ⟨d,V,N⟩=p:=⟨_,rfl⟩
 rw [hp] at K0
 cases N0 with
 | bad cN=>
  have HE:=ae (lq hp);clear hp
  go_wp2_with fail
  (with_reducible refine K0.mono ?_)
  rintro e w6 ⟨z,e0,d6,rfl,h6⟩;have h7:=tV h6
  have A:ag w6 (c.RI j.b.s*(aB 176 5 C g c.rd d.err d.W d.D*(pt r (Y #[Z H 0] 28 (0,0))*(pt o (Y #[Z H 0,Z H 0,Z H 0,Z H 0,Z H 0,Z H 0,Z H 0,Z H 0,Z H 0,Z H 0,Z H 0,Z H 0,Z H 0,Z H 0,Z H 0,Z H 0,Z H 0,Z H 0,Z H 0,Z H 0] 65 (0,0))*(aq z*(G*F)))))):=
   (h7.to (by ac_rfl:_=pt q (Y #[X (U ⟨g,0,V⟩),Z H (n:Int)] 72 (0,0))*(c.RI j.b.s*(aB 176 5 C g c.rd d.err d.W d.D*(pt r (Y #[Z H 0] 28 (0,0))*(pt o (Y #[Z H 0,Z H 0,Z H 0,Z H 0,Z H 0,Z H 0,Z H 0,Z H 0,Z H 0,Z H 0,Z H 0,Z H 0,Z H 0,Z H 0,Z H 0,Z H 0,Z H 0,Z H 0,Z H 0,Z H 0] 65 (0,0))*(aq z*(G*F)))))))).right
  have x:=nC e0 A;have v:ag w6 (pt o (Y #[Z H 0,Z H 0,Z H 0,Z H 0,Z H 0,Z H 0,Z H 0,Z H 0,Z H 0,Z H 0,Z H 0,Z H 0,Z H 0,Z H 0,Z H 0,Z H 0,Z H 0,Z H 0,Z H 0,Z H 0] 65 (0,0))*(pt r (Y #[Z H 0] 28 (0,0))*(cH c z g { d with s:=j.b.s }*(aq z*(G*F))))):=x.to (by ac_rfl)
  go_wp2_with fail
  exact yf rfl rfl v rfl fun y S h0=>HQ.out _ _ (by rw [HE.out];exact ⟨z,H0.trans e0,(D5.trans d6).trans h0,rfl,S⟩)
 | ok a=>
  go_wp2_with fail
  (with_reducible refine K0.mono ?_)
  rintro e w6 ⟨z,v6,e0,d6,rfl,h6⟩;obtain ⟨⟨rfl,V0⟩,h7⟩:=ag.au.1 h6;have d1:a.v = .agg (ints a.l):=rfl;have hX:(ints a.l).size=20:=by rw [dO,Nd.cells V0]
  have j1:(ints a.l).all (·.oneCell')=L:=by simp [ints,L3]
  have g1:∀ w (T0:ai),ag w T0->ag w (Ay a (.agg (ints a.l))*T0):=fun w T0 h=>ag.au.2 ⟨⟨rfl,V0⟩,h⟩;rw [d1];clear V0 h6 d1;generalize ints a.l=i at *;have i1:(prog.info? 65).map (·.size)=U i.size:=by rw [hX];exact bE
  have g0:=ae i1;have o0:=ae j1;have HX:=ae hX;have Y0:=ae g1;clear i1 j1 hX g1;obtain ⟨E,A⟩:=ag.fq h7;clear K0 h7;have x:ag w6 (pt o (Y #[Z H 0,Z H 0,Z H 0,Z H 0,Z H 0,Z H 0,Z H 0,Z H 0,Z H 0,Z H 0,Z H 0,Z H 0,Z H 0,Z H 0,Z H 0,Z H 0,Z H 0,Z H 0,Z H 0,Z H 0] 65 (0,0))*(pt r (Y #[Z H 0] 28 (0,0))*(pt q (Y #[X (U ⟨g,0,V⟩),Z H (n:Int)] 72 (0,0))*(pt k (Y #[X (U ⟨f,0,V⟩),Z H (n:Int),E,J j.dt] 149 (0,0))*(cH c z f j.b*(cC j.bits E*(aq z*(aB 176 5 C g c.rd d.err d.W d.D*(G*F))))))))):=A.to (by unfold bJ Wk.cells;ac_rfl);have S0:=ae x.heap;have v:=x.setRow (cs':=i);have x0:=(D5.trans d6).setRow o i;have k3:(w6.setRow o i).cell? ⟨k,3,V⟩=U (J j.dt):=v.aD.cell 3;clear A x D5 d6
  cases b0:j.dt with
  | false=>
   have HE:=ae (nT hp b0);rw [b0] at k3 v;clear hp b0
   go_wp2_with (refine wpList_store_row (by exact rfl) 65 (.tmp 4) (.tmp 31) (by exact rfl) o i (by exact rfl) (by exact rfl) 65 _ (by with_reducible exact S0.out) g0.out (by rw [HX.out];rfl) o0.out ?_)
   generalize w6.setRow o i=w7 at *;have r0:ag w7 (aB 176 5 C g c.rd d.err d.W d.D*(aB 176 5 z f c.rd j.b.err j.b.W j.b.D*(aq z*(c.RI j.b.s*(pt o (Y i 65 (0,0))*(pt r (Y #[Z H 0] 28 (0,0))*(pt q (Y #[X (U ⟨g,0,V⟩),Z H (n:Int)] 72 (0,0))*(pt k (Y #[X (U ⟨f,0,V⟩),Z H (n:Int),E,J N] 149 (0,0))*(cC j.bits E*(G*F)))))))))):=v.to (by unfold cH;ac_rfl);have d0:=r0.fp (dG e0);have s0:w7.cell? ⟨q,0,V⟩=U (X (U ⟨g,0,V⟩)):=d0.bZ.cell 0;have k0:w7.cell? ⟨k,0,V⟩=U (X (U ⟨f,0,V⟩)):=d0.eu.cell 0;have u0:=ae (ir w7.drew z g f c.rd c.rd j.b.err d.err j.b.W j.b.D d.W d.D _ d0.drew ⟨_,_,rfl⟩);clear r0 d0 v
   go_region_held3 (fun y=>y.cell? ⟨q,0,V⟩=U (X (U ⟨g,0,V⟩))/\y.cell? ⟨k,0,V⟩=U (X (U ⟨f,0,V⟩)))
    (first|exact ⟨s0,k0⟩|exact f0|go_keep)
    (first|(go_at_call 144;refine (u0.out).mono ?_;rintro e B ⟨u,j0,rfl,A,P⟩;have f0:B.cell? ⟨q,0,V⟩=U (X (U ⟨g,0,V⟩))/\B.cell? ⟨k,0,V⟩=U (X (U ⟨f,0,V⟩)):=⟨A.bZ.cell 0,A.eu.cell 0⟩))
   all_goals
    rename_i q0;have x:ag B (pt o (Y i 65 (0,0))*(pt r (Y #[Z H 0] 28 (0,0))*((cH c u g j.b*(aq u*(G*F)))*(pt q (Y #[X (U ⟨g,0,V⟩),Z H (n:Int)] 72 (0,0))*(pt k (Y #[X (U ⟨f,0,V⟩),Z H (n:Int),E,J N] 149 (0,0))*(aB 176 5 u f c.rd j.b.err j.b.W j.b.D*cC j.bits E)))))):=A.to (by unfold cH;ac_rfl);have p0:=ae x.heap;have c0:=x.setRow (cs':=i);have e9:(B.setRow o i).cell? ⟨r,0,V⟩=U (Z H 0):=c0.ah.cell 0;have g9:(B.setRow o i).frozen? ⟨r,0,V⟩=N:=c0.ah.frozen 0;have v:=((c0.ah.setCell 0 (Z H 0)).ah)
    have D9:=(((x0).drew.trans P).setRow o i).setCell ⟨r,0,V⟩ (Z H 0);have HD:=ae D9;have R0:=ae v;clear u0 s0 k0 f0 A x c0 v D9 q0 P
    go_wp2_with (first|(refine wpList_load_row (by exact rfl) 65 (.tmp 4) (by exact rfl) o (by exact rfl) 65 i (0,0) _ (by with_reducible exact p0.out) underlying65 rfl g0.out ?_)|(refine wpList_store_row (by exact rfl) 65 (.tmp 4) (.tmp 49) (by exact rfl) o i (by exact rfl) (by exact rfl) 65 i (by with_reducible exact p0.out) g0.out rfl o0.out ?_))
    exact yj rfl rfl R0.out HX.out fun y S h0=>HQ.out _ _ (by rw [HE.out];exact ⟨u,_,H0.trans (e0.trans j0),HD.out.trans h0,rfl,Y0.out _ _ ((S.left).to (by ac_rfl))⟩)
  | true=>
   have m0:=fun st'=>qe (st':=st') hp b0;have n0:=fun st' c=>tX (st':=st') (c:=c) hp b0;have m0:=ae m0;have n0:=ae n0;rw [b0] at k3 v;have k2:(w6.setRow o i).cell? ⟨k,2,V⟩=U E:=v.aD.cell 2;have W0:Rd (w6.setRow o i) E (j.bits.getD []):=yQ v.dI
   have S:ag (w6.setRow o i) (bJ (⟨c,n,k,f⟩:Wk σ) E z j*(aq z*(pt o (Y i 65 (0,0))*(pt r (Y #[Z H 0] 28 (0,0))*(pt q (Y #[X (U ⟨g,0,V⟩),Z H (n:Int)] 72 (0,0))*(cC j.bits E*(aB 176 5 C g c.rd d.err d.W d.D*(G*F)))))))):=
    v.to (by unfold bJ Wk.cells;rw [b0];ac_rfl)
   have L0:=km (⟨c,n,k,f⟩:Wk σ) _ E z j 0 E (j.bits.getD []) _ S W0
   obtain ⟨va,vl,vc,rfl⟩:∃ a l c,E = R a l c:=by
    obtain ⟨a,c,e⟩:=W0.shape;exact ⟨_,_,_,e⟩
   have e1:∀ st' N0,bP 0 (j.bits.getD []) j=(N0,st')->st'.dt=L:=fun st' N0 h=>by
    unfold bP at h
    split at h
    .simp only [Prod.mk.injEq] at h;rw [<- h.2];exact b0
    .simp only [Prod.mk.injEq] at h;rw [<- h.2];exact b0
   obtain ⟨⟨r2,t⟩,l0⟩:∃ p,bP 0 (j.bits.getD []) j=p:=⟨_,rfl⟩
   rw [l0] at L0;have f1:=e1 _ _ l0;have l1:=ae f1;clear hp b0 S W0 e1 f1
   cases r2 with
   | bad cN=>
    have HE:=ae (n0.out _ _ l0);clear l0 m0 n0
    go_wp2_with (refine wpList_store_row (by exact rfl) 65 (.tmp 4) (.tmp 31) (by exact rfl) o i (by exact rfl) (by exact rfl) 65 _ (by with_reducible exact S0.out) g0.out (by rw [HX.out];rfl) o0.out ?_)
    (with_reducible refine L0.mono ?_)
    rintro e B ⟨u,j0,P,rfl,D0⟩
    have F0:ag B (c.RI t.b.s*(aB 176 5 C g c.rd d.err d.W d.D*(pt o (Y i 65 (0,0))*(pt r (Y #[Z H 0] 28 (0,0))*(aq u*(G*F)))))):=
     (D0.to (by unfold bJ cH;ac_rfl:_=(pt k (Y ((⟨c,n,k,f⟩:Wk σ).cells (R va vl vc) t.dt) 149 (0,0))*(aB 176 5 u f c.rd t.b.err t.b.W t.b.D*(pt q (Y #[X (U ⟨g,0,V⟩),Z H (n:Int)] 72 (0,0))*cC j.bits (R va vl vc))))*(c.RI t.b.s*(aB 176 5 C g c.rd d.err d.W d.D*(pt o (Y i 65 (0,0))*(pt r (Y #[Z H 0] 28 (0,0))*(aq u*(G*F)))))))).right
    have G0:=nC (e0.trans j0) F0;have m1:ag B (pt o (Y i 65 (0,0))*(pt r (Y #[Z H 0] 28 (0,0))*(cH c u g { d with s:=t.b.s }*(aq u*(G*F))))):=G0.to (by ac_rfl)
    go_wp2_with fail
    exact yf rfl rfl m1 HX.out fun y S h0=>HQ.out _ _ (by rw [HE.out];exact ⟨u,H0.trans (e0.trans j0),(x0.trans P).trans h0,rfl,S⟩)
   | ok u1=>
    have HE:=ae (m0.out _ l0);clear l0 m0 n0
    go_wp2_with (refine wpList_store_row (by exact rfl) 65 (.tmp 4) (.tmp 31) (by exact rfl) o i (by exact rfl) (by exact rfl) 65 _ (by with_reducible exact S0.out) g0.out (by rw [HX.out];rfl) o0.out ?_)
    (with_reducible refine L0.mono ?_)
    rintro e w7 ⟨u,v8,j0,P,rfl,D0⟩;obtain ⟨rfl,F0⟩:=ag.au.1 D0;have G0:ag w7 (pt o (Y i 65 (0,0))*(pt r (Y #[Z H 0] 28 (0,0))*(pt q (Y #[X (U ⟨g,0,V⟩),Z H (n:Int)] 72 (0,0))*(pt k (Y #[X (U ⟨f,0,V⟩),Z H (n:Int),(R va vl vc),J L] 149 (0,0))*(cH c u f t.b*(cC j.bits (R va vl vc)*(aq u*(aB 176 5 C g c.rd d.err d.W d.D*(G*F))))))))):=F0.to (by unfold bJ Wk.cells;rw [l1.out];ac_rfl);have k1:=x0.trans P;have c1:=e0.trans j0;clear L0 D0 F0 x0 P v k2 k3
    go_wp2_with fail
    have r0:ag w7 (aB 176 5 C g c.rd d.err d.W d.D*(aB 176 5 u f c.rd t.b.err t.b.W t.b.D*(aq u*(c.RI t.b.s*(pt o (Y i 65 (0,0))*(pt r (Y #[Z H 0] 28 (0,0))*(pt q (Y #[X (U ⟨g,0,V⟩),Z H (n:Int)] 72 (0,0))*(pt k (Y #[X (U ⟨f,0,V⟩),Z H (n:Int),(R va vl vc),J L] 149 (0,0))*(cC j.bits (R va vl vc)*(G*F)))))))))):=G0.to (by unfold cH;ac_rfl);have d0:=r0.fp (dG c1);have s0:w7.cell? ⟨q,0,V⟩=U (X (U ⟨g,0,V⟩)):=d0.bZ.cell 0;have k0:w7.cell? ⟨k,0,V⟩=U (X (U ⟨f,0,V⟩)):=d0.eu.cell 0;have u0:=ae (ir w7.drew u g f c.rd c.rd t.b.err d.err t.b.W t.b.D d.W d.D _ d0.drew ⟨_,_,rfl⟩);clear r0 d0 G0
    go_region_held3 (fun y=>y.cell? ⟨q,0,V⟩=U (X (U ⟨g,0,V⟩))/\y.cell? ⟨k,0,V⟩=U (X (U ⟨f,0,V⟩)))
     (first|exact ⟨s0,k0⟩|exact f0|go_keep)
     (first|(go_at_call 144;refine (u0.out).mono ?_;rintro e B ⟨S5,n1,rfl,A,P⟩;have f0:B.cell? ⟨q,0,V⟩=U (X (U ⟨g,0,V⟩))/\B.cell? ⟨k,0,V⟩=U (X (U ⟨f,0,V⟩)):=⟨A.bZ.cell 0,A.eu.cell 0⟩))
    all_goals
     rename_i q0;have x:ag B (pt o (Y i 65 (0,0))*(pt r (Y #[Z H 0] 28 (0,0))*((cH c S5 g t.b*(aq S5*(G*F)))*(pt q (Y #[X (U ⟨g,0,V⟩),Z H (n:Int)] 72 (0,0))*(pt k (Y #[X (U ⟨f,0,V⟩),Z H (n:Int),(R va vl vc),J L] 149 (0,0))*(aB 176 5 S5 f c.rd t.b.err t.b.W t.b.D*cC j.bits (R va vl vc))))))):=A.to (by unfold cH;ac_rfl);have p0:=ae x.heap;have c0:=x.setRow (cs':=i);have e9:(B.setRow o i).cell? ⟨r,0,V⟩=U (Z H 0):=c0.ah.cell 0;have g9:(B.setRow o i).frozen? ⟨r,0,V⟩=N:=c0.ah.frozen 0;have v:=((c0.ah.setCell 0 (Z H 0)).ah)
     have D9:=(((k1).drew.trans P).setRow o i).setCell ⟨r,0,V⟩ (Z H 0);have HD:=ae D9;have R0:=ae v;clear u0 s0 k0 f0 A x c0 v D9 q0 P
     go_wp2_with (first|(refine wpList_load_row (by exact rfl) 65 (.tmp 4) (by exact rfl) o (by exact rfl) 65 i (0,0) _ (by with_reducible exact p0.out) underlying65 rfl g0.out ?_)|(refine wpList_store_row (by exact rfl) 65 (.tmp 4) (.tmp 49) (by exact rfl) o i (by exact rfl) (by exact rfl) 65 i (by with_reducible exact p0.out) g0.out rfl o0.out ?_))
     exact yj rfl rfl R0.out HX.out fun y S h0=>HQ.out _ _ (by rw [HE.out];exact ⟨S5,_,H0.trans (c1.trans n1),HD.out.trans h0,rfl,Y0.out _ _ ((S.left).to (by ac_rfl))⟩)
end
end Go.Proofs.Fs
namespace Go.SL
open RowKit
def Rs.code {α:Type}:Rs α->Int
 | .ok _=>0
 | .bad c=>c
end Go.SL
namespace Go.Proofs.Fs
open RowKit SL Proofs.Ba
section
variable {σ α:Type}
theorem wP {w:O} {d:Array M} {a:Nat} {F:ai} (e:d[3]?=U (az a)) (f:ag w (pt a (Y #[] 202 (0,0))*F)) :
  (results Tryz.f146 d).run Q w = .ok (.agg #[]) w:=by
 have g:=run_loadVar_row (P:=Q) w a 202 202 #[] (0,0) _ f.heap underlying202 rfl dM;simp [results,Tryz.results146,e,asAddr,g]
def Nz (e:Nat) (f:FuncId) (d:Array M):ai:=pt e (Y #[.func (.func f) #[] d] 138 (0,0))
theorem Gy {c:Cx σ} {n:Nat} {d:FuncId} {g:Array M} {G:ai} {m:WM σ Unit} (mT:∀ (args:Array M) (w:O),(callFunc d args).run Q w = .ok (.enter d args) w)
  (P:CL c n d g jo G m) (e:Nat):CL c n 146 #[X (U ⟨e,0,V⟩)] MD (Nz e d g*G) m:=by
 intro x w S st F b0 c0 h;have i:=fun w F h=>P x w S st F b0 c0 h;have u:=ae i;have C:=h.alloc (Y #[] 202 (0,0));have z:=(aj.refl w).alloc (Y #[] 202 (0,0));clear P h i b0 c0;show Calls Q 146 #[X (U ⟨x.k,0,V⟩),X (U ⟨e,0,V⟩)] w _
 go_enter func146,ntmps146
 have q:ag (w.alloc (Y #[] 202 (0,0))) (Nz e d g*(pt w.heap.size (Y #[] 202 (0,0))*(aF x S st*(aq S*(G*F))))):=C.to (by ac_rfl);have cj:(w.alloc (Y #[] 202 (0,0))).cell? ⟨e,0,V⟩=U (.func (.func d) #[] g):=q.cell 0;have E:ag (w.alloc (Y #[] 202 (0,0))) (aF x S st*(aq S*(G*(Nz e d g*(pt w.heap.size (Y #[] 202 (0,0))*F))))):=q.to (by ac_rfl);have i:=u.out _ _ E;clear u C q E;obtain ⟨⟨e0,y⟩,hp⟩:∃ p,m st=p:=⟨_,rfl⟩
 rw [hp] at i ⊢;clear hp
 cases e0 with
 | bad cN=>
  go_wp2_with fail
  generalize w.alloc (Y #[] 202 (0,0))=w1 at *;generalize w.heap.size=l at *
  (with_reducible refine i.mono ?_)
  rintro d0 w2 ⟨f,r,o,rfl,j⟩
  go_wp2_with fail
  exact ⟨rfl,f,r,z.trans o,rfl,(j.to (by ac_rfl:_=pt l (Y #[] 202 (0,0))*(aF x f y*(aq f*(Nz e d g*G*F))))).right⟩
 | ok g0=>
  go_wp2_with fail
  generalize w.alloc (Y #[] 202 (0,0))=w1 at *;generalize w.heap.size=l at *
  (with_reducible refine i.mono ?_)
  rintro d0 w2 ⟨f,v,r,o,rfl,j⟩;obtain ⟨rfl,A⟩:=ag.au.1 j;have B:ag w2 (pt l (Y #[] 202 (0,0))*(aF x f y*(aq f*(Nz e d g*G*F)))):=A.to (by ac_rfl);have t:=ae B;clear j A B i cj
  go_wp2_with (refine wpList_store_mid (by exact rfl) 202 (.tmp 3) (.tmp 7) (by exact rfl) l 0 #[] (by exact rfl) (by exact rfl) (by exact fun f0 h=>absurd h (J2 _)) (by exact dM) (by exact rfl) ?_)
  exact bodyPost_ret (wP rfl t.out) rfl ⟨f,_,r,z.trans o,rfl,ag.au.2 ⟨rfl,t.out.right⟩⟩
def Ms (c:Cx σ) (g:Nat) (S:Hp) (F:ai) (w:O) (p:Rs Unit × ik σ) (e:Ending) (f:O):Prop:=
 ∃ d,Ext S d/\aj w f/\e = K (Z H p.1.code)/\ag f (cH c d g p.2*(aq d*F))
theorem vy (c:Cx σ) (hc:c.Ok) (n:Nat) (e0:4<=n) (f0:n<=3840) (f:FuncId) (g:Array M) (G:ai) (m:WM σ Unit)
  (mT:∀ (args:Array M) (w:O),(callFunc f args).run Q w = .ok (.enter f args) w) (hj:CL c n f g jo G m)
  (d:Nat) (o:ik σ) (w:O) (S:Hp) (F:ai) (h:ag w (cH c S d o*(aq S*(G*F)))) (u:Ending->O->Prop)
  (hQ:∀ e i,Ms c d S (G*F) w (dZ m o) e i->u e i) :
  Calls Q 83 #[fS d n,.func (.func f) #[] g] w u:=by
 have h0:=nr Q;have P:=ae hQ;have c0:=fun l w F h=>Ju c hc n e0 f0 146 #[X (U ⟨l,0,V⟩)] (Nz l f g*G) m (fun args w=>enters func146 (by kernel_rfl) rfl args w) (Gy mT hj l) d o w S F h;have b0:=ae c0;have y:=(h.alloc (Y #[X (U ⟨d,0,V⟩),Z H (n:Int)] 72 (0,0))).alloc (Y #[.func (.func f) #[] g] 138 (0,0));have dA:=((aj.refl w).alloc (Y #[X (U ⟨d,0,V⟩),Z H (n:Int)] 72 (0,0))).alloc (Y #[.func (.func f) #[] g] 138 (0,0));simp only [Z2] at y;clear hQ c0 hj h mT;unfold fS
 go_enter func83,ntmps83
 go_wp2_with fail
 have hB:ag ((w.alloc (Y #[X (U ⟨d,0,V⟩),Z H (n:Int)] 72 (0,0))).alloc (Y #[.func (.func f) #[] g] 138 (0,0)))
   (cH c S d o*(aq S*(Nz (w.heap.size+1) f g*G*(pt w.heap.size (Y #[X (U ⟨d,0,V⟩),Z H (n:Int)] 72 (0,0))*F)))):=y.to (by unfold Nz;ac_rfl)
 refine b0.out (w.heap.size+1) _ _ hB _ ?_;clear y hB b0;generalize (w.alloc (Y #[X (U ⟨d,0,V⟩),Z H (n:Int)] 72 (0,0))).alloc (Y #[.func (.func f) #[] g] 138 (0,0))=w1 at *;generalize w.heap.size+1=l at *;generalize w.heap.size=sp at *;have C:=ae (fun e i=>P.out e i);clear P;obtain ⟨⟨d0,t⟩,A⟩:∃ p,dZ m o=p:=⟨_,rfl⟩
 rw [A];have E:RowKit.Hid (∀ e i,Ms c d S (G*F) w (d0,t) e i->u e i):=fun e i h=>C.out e i (by rw [A];exact h);clear C A
 cases d0 with
 | bad cN=>
  rintro e B ⟨j,z,x,rfl,q⟩;have r:=ae (q.to (by ac_rfl:_=(cH c j d t*(aq j*(G*F)))*(Nz l f g*pt sp (Y #[X (U ⟨d,0,V⟩),Z H (n:Int)] 72 (0,0)))));clear q
  go_wp2_with (refine wpList_store_mid (by exact rfl) 202 (.tmp 5) (.tmp 11) (by exact rfl) B.heap.size 0 #[] (by exact rfl) (by exact rfl) (by exact fun g0 h=>absurd h (J2 _)) (by exact dM) (by exact rfl) ?_)
  exact E.out _ _ ⟨j,z,(dA.trans x).alloc _,rfl,(r.out.alloc _).right.left⟩
 | ok i0=>
  rintro e B ⟨j,v,z,x,rfl,q⟩;obtain ⟨rfl,h3⟩:=ag.au.1 q;have r:=ae (h3.to (by ac_rfl:_=(cH c j d t*(aq j*(G*F)))*(Nz l f g*pt sp (Y #[X (U ⟨d,0,V⟩),Z H (n:Int)] 72 (0,0)))));clear q h3
  go_wp2_with (refine wpList_store_mid (by exact rfl) 202 (.tmp 5) (.tmp 11) (by exact rfl) B.heap.size 0 #[] (by exact rfl) (by exact rfl) (by exact fun g0 h=>absurd h (J2 _)) (by exact dM) (by exact rfl) ?_)
  exact E.out _ _ ⟨j,z,(dA.trans x).alloc _,rfl,(r.out.alloc _).right.left⟩
end
end Go.Proofs.Fs
namespace Go.SL
open RowKit
section
variable {σ:Type}
def dg (id:Nat) (d:Int):Hd:=⟨id,⟨d,1,0,A2 16 0,0⟩,A2 240 0⟩
def FM (d:Int) (id:Nat):WM σ Nat:=WM.bind (dK (dg id d)) fun _=>WM.pure id
def wI (ask:cO σ) (n:Nat) (d:Int):WM σ Nat:=fun st=>if d=1\/d=2 then (WM.bind (iL ask n) (FM d)) st else (.bad 1,st)
end
end Go.SL
namespace Go.Proofs.Fs
open RowKit SL Proofs.Ba
section
variable {σ α:Type}
def bg (b:Nat) (z:Int):ai:=pt b (Y #[Z H z] 3 (0,0))
theorem n9 (id:Nat) (d:Int):(dg id d).fit:=⟨rfl,rfl⟩
theorem OK {c:Cx σ} (hc:c.Ok) {n:Nat} (hn:n<=3840) (d:Int) (f:Nat):CL c n 128 #[X (U ⟨f,0,V⟩)] MW (bg f d) (wI c.ask n d):=by
 intro x w S st F p0 q0 h;subst p0 q0;have ck:w.cell? ⟨f,0,V⟩=U (Z H d):=(h.to (by ac_rfl:_=bg f d*(aF x S st*(aq S*F)))).cell 0;show Calls Q 128 #[X (U ⟨x.k,0,V⟩),X (U ⟨f,0,V⟩)] w _
 by_cases z:d=1\/d=2
 .have C:=oC x hc hn w S st _ h
  have y:wI x.c.ask x.n d st=(WM.bind (iL x.c.ask x.n) (FM d)) st:=if_pos z;rw [y];obtain ⟨⟨r,t⟩,i⟩:∃ p,iL x.c.ask x.n st=p:=⟨_,rfl⟩
  rw [i] at C;clear y h
  cases r with
  | bad cN=>
   rw [WM.bf i];clear i;rcases z with rfl|rfl
   all_goals
    go_enter func128,ntmps128
    go_wp2_with fail
    (with_reducible refine (gE w).mono ?_)
    rintro e g ⟨rfl,rfl⟩
    go_wp2_with fail
    (with_reducible refine C.mono ?_)
    rintro e g ⟨j,A,E,rfl,u⟩
    go_wp2_with fail
    exact ⟨rfl,j,A,E,rfl,u⟩
  | ok id=>
   rw [WM.aX i];clear i;have B:=pz (id:Int) (dg id d).n (n9 id d).1;have l0:=ae B;obtain ⟨q,b0⟩:∃ n0,n0=ints ((id:Int) :: ((dg id d).n.l++A2 240 0)):=⟨_,rfl⟩
   rw [<- b0] at B;have h0:q=ints (dg id d).l:=b0;have k0:=ae h0;clear l0 b0 h0
   have i0:∀ p,dK (dg id d) t=p->∀ r o,p=(r,o)->FM d id t=(match r with | .ok _=>.ok id | .bad c=>.bad c,o):=by
    intro p i r o he;subst he
    cases r with
    | ok r0=>exact WM.aX i
    | bad c=>exact WM.bf i
   obtain ⟨⟨r2,o⟩,d0⟩:∃ p,dK (dg id d) t=p:=⟨_,rfl⟩
   have g0:=i0 _ d0 r2 o rfl;rw [g0];have e0:=fun w S hb F h o0 hQ=>Bc x w S t hb (dg id d) F h o0 hQ;rw [d0] at e0;have f0:=ae e0;have j0:=n9 id d;have m0:=ae j0;clear i0 g0 d0 e0 j0;rcases z with rfl|rfl
   all_goals
    have Hb:=ae B;clear B
    go_enter func128,ntmps128
    go_wp2_with fail
    (with_reducible refine (gE w).mono ?_)
    rintro e g ⟨rfl,rfl⟩
    go_wp2_with fail
    (with_reducible refine C.mono ?_)
    rintro e g ⟨j,v,A,E,rfl,u⟩;obtain ⟨rfl,P⟩:=ag.au.1 u;have s0:g.cell? ⟨f,0,V⟩=U _:=(P.to (by ac_rfl:_=bg f _*(aF x j t*(aq j*F)))).cell 0;clear ck;have h4:=P.alloc (Y q 136 (0,0));have h5:ag (g.alloc (Y q 136 (0,0))) (aO g.heap.size (dg id _)*(aF x j t*(aq j*(bg f _*F)))):=ag.held.2 ⟨m0.out,by rw [k0.out] at h4 ⊢;exact h4⟩;have D5:=E.alloc (Y q 136 (0,0));have H5:=ae h5;clear u P h4 h5 C
    go_wp2_with (refine gJ (by exact rfl) 136 #[(0,.tmp 15),(1,.tmp 17)] (by exact rfl) _ (by exact rfl) q (by exact Hb.out) ?_)
    refine f0.out _ j _ _ H5.out _ ?_;clear H5 f0;generalize g.alloc (Y q 136 (0,0))=w3 at *
    cases r2 with
    | bad cN=>
     rintro e w4 ⟨l,c0,G,rfl,h6⟩
     go_wp2_with fail
     exact ⟨rfl,l,A.trans c0,D5.trans G,rfl,(h6.to (by ac_rfl:_=aO g.heap.size (dg id _)*(aF x l o*(aq l*(bg f _*F))))).right⟩
    | ok r0=>
     rintro e w4 ⟨l,v4,c0,G,rfl,h6⟩;obtain ⟨rfl,h7⟩:=ag.au.1 h6
     go_wp2_with fail
     go_ret
     exact ⟨l,_,A.trans c0,D5.trans G,rfl,ag.au.2 ⟨rfl,(h7.to (by ac_rfl:_=aO g.heap.size (dg id _)*(aF x l o*(aq l*(bg f _*F))))).right⟩⟩
 .have y:wI x.c.ask x.n d st=(.bad 1,st):=if_neg z
  rw [y];have h1:(d == 1)=N:=by simp;omega
  have u:(d == 2)=N:=by simp;omega
  clear y z
  go_enter func128,ntmps128
  go_wp2_with fail
  (with_reducible refine (gK w).mono ?_)
  rintro e g ⟨rfl,rfl⟩
  go_wp2_with fail
  exact ⟨rfl,S,Ext.refl S,aj.refl w,rfl,h⟩
end
end Go.Proofs.Fs
namespace Go.SL
open RowKit
section
variable {σ α β:Type}
def Hd.oX (h:Hd) (z:Int):Hd:={ h with n:={ h.n with lk:=z } }
def tU (h:Hd) (z:Int):WM σ Unit:=fun st=>if 0<=z/\z<=65535 then dK (h.oX z) st else (.bad 1,st)
def kK (ask:cO σ) (n:Nat) (node d:Int):WM σ Unit:=WM.bind (fY ask n node) fun h=>tU h (wrap64 (h.n.lk+d))
def qy (ask:cO σ) (n:Nat) (node:Int):WM σ Nd:=WM.bind (fY ask n node) fun h=>WM.pure h.n
theorem Hd.ID {h:Hd} (d:h.fit) (z:Int):(h.oX z).fit:=d
end
end Go.SL
namespace Go.Proofs.Fs
open RowKit SL Proofs.Ba
section
variable {σ α:Type}
theorem jQ (x:Wk σ) (d:x.c.Ok) (w:O) (S:Hp) (st:eB σ) (id:Int) (F:ai) (h:ag w (aF x S st*(aq S*F))) :
  Calls Q 85 #[X (U ⟨x.k,0,V⟩),Z H id] w (WQ x oP S F w (fY x.c.ask x.n id st)):=
 vC x d w S st id F h _ fun _ _ h=>h
theorem jK (x:Wk σ) (w:O) (S:Hp) (st:eB σ) (d:Nat) (h:Hd) (F:ai) (hs:ag w (aO d h*(aF x S st*(aq S*F)))) :
  Calls Q 87 #[X (U ⟨x.k,0,V⟩),X (U ⟨d,0,V⟩)] w (WQ x jo S (aO d h*F) w (dK h st)):=
 Bc x w S st d h F hs _ fun _ _ h=>h
theorem ag.oP {w:O} {h:Hd} {v:M} {F:ai} (hs:ag w (oP h v*F)):∃ d,v = X (U ⟨d,0,V⟩)/\ag w (aO d h*F):=by
 obtain ⟨d,e⟩:=ag.ax.1 hs;obtain ⟨f,g⟩:=ag.au.1 (e.to (ay _ _ _));exact ⟨d,f,g⟩
theorem cV {w:O} {d:Nat} {h:Hd} {F:ai} (hs:ag w (aO d h*F)) {j:Nat} (g:j<261):w.cell? ⟨d,j,V⟩=U (Z H (h.l.getD j 0))/\w.frozen? ⟨d,j,V⟩=N:=by
 obtain ⟨f,e⟩:=ag.held.1 hs;exact ⟨by rw [e.cell,bG (by rw [Hd.vG f];exact g)],e.frozen j⟩
theorem jU {w:O} {d:Nat} {h h':Hd} {F:ai} (hs:ag w (aO d h*F)) {j:Nat} {z:Int} (f:h'.fit) (g:h'.l=h.l.set j z):ag (w.setCell ⟨d,j,V⟩ (Z H z)) (aO d h'*F):=by
 obtain ⟨_,e⟩:=ag.held.1 hs;refine ag.held.2 ⟨f,?_⟩;have:=e.setCell j (Z H z);rw [gH] at this;rw [g];exact this
theorem ag.zB {w:O} {d:Nat} {h:Hd} {F:ai} (hs:ag w (aO d h*F)):h.fit:=(ag.held.1 hs).1
theorem I7 {c:Cx σ} (hc:c.Ok) {n:Nat} (node d:Int) (i g:Nat):CL c n 84 #[X (U ⟨i,0,V⟩),X (U ⟨g,0,V⟩)] jo (bg i node*bg g d) (kK c.ask n node d):=by
 intro x w b0 st F k0 l0 h;subst k0 l0;have cn:w.cell? ⟨i,0,V⟩=U (Z H node):=(h.to (by ac_rfl:_=bg i node*(bg g d*(aF x b0 st*(aq b0*F))))).cell 0;show Calls Q 84 #[X (U ⟨x.k,0,V⟩),X (U ⟨i,0,V⟩),X (U ⟨g,0,V⟩)] w _
 have P:=jQ x hc w b0 st node _ h;obtain ⟨⟨n0,o⟩,y⟩:∃ p,fY x.c.ask x.n node st=p:=⟨_,rfl⟩
 rw [y] at P
 cases n0 with
 | bad cN=>
  have u:kK x.c.ask x.n node d st=(.bad cN,o):=WM.bf y;rw [u];clear u y h
  go_enter func84,ntmps84
  go_wp2_with fail
  (with_reducible refine P.mono ?_)
  rintro e w2 ⟨j,r,C,rfl,E⟩
  go_wp2_with fail
  exact ⟨rfl,j,r,C,rfl,E⟩
 | ok f=>
  have u:kK x.c.ask x.n node d st=tU f (wrap64 (f.n.lk+d)) o:=WM.aX y;rw [u];clear u y h;obtain ⟨z,hz⟩:∃ z,wrap64 (f.n.lk+d)=z:=⟨_,rfl⟩
  rw [hz];have h0:f.l.getD 2 0=f.n.lk:=rfl;have Hz:=ae hz;obtain ⟨r2,e0⟩:∃ p,tU f z o=p:=⟨_,rfl⟩
  rw [e0];have B:=ae e0;clear hz e0
  go_enter func84,ntmps84
  go_wp2_with fail
  (with_reducible refine P.mono ?_)
  rintro e w2 ⟨j,v,r,C,rfl,E⟩;obtain ⟨t,rfl,G⟩:=ag.oP E;have d0:=(cV G (j:=2) (by decide)).1;rw [h0] at d0;have cd:w2.cell? ⟨g,0,V⟩=U (Z H d):=(G.to (by ac_rfl:_=bg g d*(bg i node*(aO t f*(aF x j o*(aq j*F)))))).cell 0;clear P E cn h0
  go_wp2_with fail
  go_region_held3 (fun w'=>w'.cell? ⟨t,2,V⟩=U (Z H f.n.lk)/\w'.cell? ⟨g,0,V⟩=U (Z H d)) (first|exact ⟨d0,cd⟩|go_keep) (fail)
  rename_i j0;have q:=ae G.drew;have D2:=ae C.drew;clear j0 G C d0 cd;rw [show IntKind.i64.wrap (f.n.lk+d)=z from by rw [<- Hz.out,IntKind.wrap_i64];unfold wrap64;omega];generalize w2.drew=w3 at *
  by_cases A:0<=z/\z<=65535
  .have S:dK (f.oX z) o=r2:=by rw [<- B.out];exact (if_pos A).symm
   have g2:=(cV q.out (j:=2) (by decide)).1;have f2:=(cV q.out (j:=2) (by decide)).2;have h4:=jU (h':=f.oX z) q.out (j:=2) (z:=z) (Hd.ID (ag.zB q.out) z) rfl;have f0:=jK x _ j o t (f.oX z) _ h4;rw [S] at f0;have g0:=ae f0;have D4:=ae (D2.out.setCell ⟨t,2,V⟩ (Z H z));obtain ⟨z1,z2⟩:=A;clear h4 f0 S B;generalize f.l.getD 2 0=q0 at *;obtain ⟨r3,i0⟩:=r2
   go_wp2_with fail
   (with_reducible refine (gE w3).mono ?_)
   rintro e w4 ⟨rfl,rfl⟩
   cases r3 with
   | bad cN=>
    go_wp2_with fail
    refine g0.out.mono ?_;rintro e w5 ⟨l,c0,d5,rfl,h6⟩
    go_wp2_with fail
    exact ⟨rfl,l,r.trans c0,D4.out.trans d5,rfl,(h6.to (by ac_rfl:_=aO t (f.oX z)*(aF x l i0*(aq l*(bg i node*bg g d*F))))).right⟩
   | ok p0=>
    go_wp2_with fail
    refine g0.out.mono ?_;rintro e w5 ⟨l,v5,c0,d5,rfl,h6⟩;obtain ⟨rfl,h7⟩:=ag.au.1 h6
    go_wp2_with fail
    go_end0
    exact ⟨l,_,r.trans c0,D4.out.trans d5,rfl,ag.au.2 ⟨rfl,(h7.to (by ac_rfl:_=aO t (f.oX z)*(aF x l i0*(aq l*(bg i node*bg g d*F))))).right⟩⟩
  .have S:r2=(.bad 1,o):=by rw [<- B.out];exact if_neg A
   subst S;clear B
   by_cases o0:0<=z
   .have m0:decide (z<=65535)=N:=decide_eq_false (by omega)
    clear A
    go_wp2_with fail
    (with_reducible refine (gK w3).mono ?_)
    rintro e w4 ⟨rfl,rfl⟩
    go_wp2_with fail
    exact ⟨rfl,j,r,D2.out,rfl,q.out.right⟩
   .have m0:z<0:=by omega
    clear A
    go_wp2_with fail
    (with_reducible refine (gK w3).mono ?_)
    rintro e w4 ⟨rfl,rfl⟩
    go_wp2_with fail
    exact ⟨rfl,j,r,D2.out,rfl,q.out.right⟩
theorem tI {w:O} {e:Array M} {a:Nat} {d:Array M} {F:ai} (f:e[3]?=U (az a)) (i:ag w (pt a (Y d 65 (0,0))*F)) (g:d.size=20) :
  (results Tryz.f159 e).run Q w = .ok (.agg d) w:=by
 have j:=run_loadVar_row (P:=Q) w a 65 65 d (0,0) _ i.heap underlying65 rfl (by rw [g];exact bE);simp [results,Tryz.results159,f,asAddr,j]
theorem Kn {c:Cx σ} (hc:c.Ok) {n:Nat} (node:Int) (g:Nat):CL c n 159 #[X (U ⟨g,0,V⟩)] Ay (bg g node) (qy c.ask n node):=by
 intro x w S st F k0 l0 h;subst k0 l0;show Calls Q 159 #[X (U ⟨x.k,0,V⟩),X (U ⟨g,0,V⟩)] w _
 have u:=h.alloc (Y #[Z H 0,Z H 0,Z H 0,Z H 0,Z H 0,Z H 0,Z H 0,Z H 0,Z H 0,Z H 0,Z H 0,Z H 0,Z H 0,Z H 0,Z H 0,Z H 0,Z H 0,Z H 0,Z H 0,Z H 0] 65 (0,0));have B:=(aj.refl w).alloc (Y #[Z H 0,Z H 0,Z H 0,Z H 0,Z H 0,Z H 0,Z H 0,Z H 0,Z H 0,Z H 0,Z H 0,Z H 0,Z H 0,Z H 0,Z H 0,Z H 0,Z H 0,Z H 0,Z H 0,Z H 0] 65 (0,0));have e:=u.to (by ac_rfl:_=aF x S st*(aq S*(bg g node*(pt w.heap.size (Y #[Z H 0,Z H 0,Z H 0,Z H 0,Z H 0,Z H 0,Z H 0,Z H 0,Z H 0,Z H 0,Z H 0,Z H 0,Z H 0,Z H 0,Z H 0,Z H 0,Z H 0,Z H 0,Z H 0,Z H 0] 65 (0,0))*F))));have cn:(w.alloc (Y #[Z H 0,Z H 0,Z H 0,Z H 0,Z H 0,Z H 0,Z H 0,Z H 0,Z H 0,Z H 0,Z H 0,Z H 0,Z H 0,Z H 0,Z H 0,Z H 0,Z H 0,Z H 0,Z H 0,Z H 0] 65 (0,0))).cell? ⟨g,0,V⟩=U (Z H node):=e.aw.cell 0;have t:=jQ x hc _ S st node _ e;obtain ⟨⟨m0,o⟩,l⟩:∃ p,fY x.c.ask x.n node st=p:=⟨_,rfl⟩
 rw [l] at t;have hz:=ae u.heap;clear u e h
 cases m0 with
 | bad cN=>
  have i:qy x.c.ask x.n node st=(.bad cN,o):=WM.bf l;rw [i];clear i l
  go_enter func159,ntmps159
  go_wp2_with fail
  (with_reducible refine t.mono ?_)
  rintro i0 w2 ⟨f,z,q,rfl,e⟩
  go_wp2_with fail
  exact ⟨rfl,f,z,B.trans q,rfl,(e.to (by ac_rfl:_=pt w.heap.size (Y #[Z H 0,Z H 0,Z H 0,Z H 0,Z H 0,Z H 0,Z H 0,Z H 0,Z H 0,Z H 0,Z H 0,Z H 0,Z H 0,Z H 0,Z H 0,Z H 0,Z H 0,Z H 0,Z H 0,Z H 0] 65 (0,0))*(aF x f o*(aq f*(bg g node*F))))).right⟩
 | ok d=>
  have i:qy x.c.ask x.n node st=(.ok d.n,o):=WM.aX l;rw [i];clear i l
  go_enter func159,ntmps159
  go_wp2_with fail
  (with_reducible refine t.mono ?_)
  rintro i0 w2 ⟨f,v,z,q,rfl,e⟩;obtain ⟨P,rfl,r⟩:=ag.oP e;have j:=ag.zB r;have j0:=ae (rF j (ag.held.1 r).2);have b0:(prog.info? 65).map (·.size)=U (d.n.l.map (Z1 H)).length:=by rw [K2,Nd.cells j.1];exact bE
  have A:(d.n.l.map (Z1 H)).toArray.size=20:=by simp [Nd.cells j.1]
  have c0:(prog.info? 65).map (·.size)=U (d.n.l.map (Z1 H)).toArray.size:=by rw [A];exact bE
  have d0:(d.n.l.map (Z1 H)).toArray.all (·.oneCell')=L:=by simp [L3]
  have y:ag w2 (pt w.heap.size (Y #[Z H 0,Z H 0,Z H 0,Z H 0,Z H 0,Z H 0,Z H 0,Z H 0,Z H 0,Z H 0,Z H 0,Z H 0,Z H 0,Z H 0,Z H 0,Z H 0,Z H 0,Z H 0,Z H 0,Z H 0] 65 (0,0))*(aO P d*(aF x f o*(aq f*(bg g node*F))))):=r.to (by ac_rfl);have h0:=ae y.heap;have G:=y.setRow (cs':=(d.n.l.map (Z1 H)).toArray);have D5:=ae ((B.trans q).setRow w.heap.size (d.n.l.map (Z1 H)).toArray);have C:=ae G;have e0:=ae b0;have f0:=ae c0;have g0:=ae d0;have E:=ae A;have Hf:=ae j;clear e r y G b0 c0 d0 j t hz cn q A
  go_wp2_with (first
   | (refine wpList_load_mid (by exact rfl) 65 (.tmp 8) (by exact rfl) P 1 (by exact rfl) (d.n.l.map (Z1 H)) _ (by with_reducible exact j0.out) underlying65 rfl (by with_reducible exact e0.out) ?_)
   | (refine wpList_store_row (by exact rfl) 65 (.tmp 3) (.tmp 9) (by exact rfl) w.heap.size (d.n.l.map (Z1 H)).toArray (by exact rfl) (by exact rfl) 65 #[Z H 0,Z H 0,Z H 0,Z H 0,Z H 0,Z H 0,Z H 0,Z H 0,Z H 0,Z H 0,Z H 0,Z H 0,Z H 0,Z H 0,Z H 0,Z H 0,Z H 0,Z H 0,Z H 0,Z H 0] (by with_reducible exact h0.out) f0.out (by rw [E.out];rfl) g0.out ?_))
  exact bodyPost_ret (tI rfl C.out E.out) rfl ⟨f,_,z,D5.out,rfl,ag.au.2 ⟨⟨rfl,Hf.out.1⟩,C.out.right.right⟩⟩
end
end Go.Proofs.Fs
namespace Go.SL
open RowKit
section
variable {σ:Type}
def jd (ask:cO σ):WM σ Unit:=fun st=>(WM.bind (cJ ask 0 L) fun _=>WM.bind (cJ ask 1 L) fun _=>dK (dg 1 2)) { st with bits:=U (zs 480) }
def Hd.ic (h:Hd):List Int:=h.n.dr++h.row
theorem Hd.jA {h:Hd} (d:h.fit):h.ic.length=256:=by simp [Hd.ic,d.1,d.2]
theorem Hd.uF {h:Hd} (d:h.fit) (i:Nat):h.aN i=h.ic.getD i 0:=by
 unfold Hd.aN Hd.ic
 split
 .rename_i e;rw [B2,B2,A3 (by rw [d.1];exact e)]
 .rename_i e;rw [B2,B2,G3 (by rw [d.1];omega),d.1]
end
end Go.SL
namespace Go.Proofs.Fs
open RowKit SL Proofs.Ba
section
variable {σ α:Type}
theorem aJ {P:Program} {f:FuncId} {args:Array M} {w:O} {d:Ending->O->Prop} (h:∀ g:Ending->O->Prop,RowKit.Hid (∀ e w',d e w'->g e w')->Calls P f args w g):Calls P f args w d:=h d (fun _ _ h=>h)
theorem EJ {c:Cx σ} (hc:c.Ok) {n:Nat}:CL c n 124 #[] jo emp (jd c.ask):=by
 intro x w S st F L0 N0 h;subst L0 N0;show Calls Q 124 #[X (U ⟨x.k,0,V⟩)] w _
 refine aJ fun R0 P=>?_;obtain ⟨v0,h1⟩:=ag.fq h;have x0:=Jy w;obtain ⟨Jo,hA⟩:∃ Jo,Jo=({ st with bits:=U (zs 480) }:eB σ):=⟨_,rfl⟩
 have d:jd x.c.ask st=(WM.bind (cJ x.c.ask 0 L) fun _=>WM.bind (cJ x.c.ask 1 L) fun _=>dK (dg 1 2)) Jo:=by rw [hA];rfl
 have n0:=ae d;have HA:=ae hA;have i0:=pz 1 (dg 1 2).n (n9 1 2).1;obtain ⟨u,g0⟩:∃ H0,H0=ints ((1:Int) :: ((dg 1 2).n.l++A2 240 0)):=⟨_,rfl⟩
 rw [<- g0] at i0;have G0:=ae (show u=ints (dg 1 2).l from g0);have Hb:=ae i0;have u0:(zs 480).length=480:=bh 480;have p0:=ae u0;clear i0 g0 d hA h u0;generalize zs 480=d0 at *;obtain ⟨⟨r1,f⟩,A⟩:∃ p,cJ x.c.ask 0 L Jo=p:=⟨_,rfl⟩
 have j0:∀ (w:O) (S:Hp) (F:ai),ag w (aF x S Jo*(aq S*F))->Calls Q 90 #[X (U ⟨x.k,0,V⟩),Z H 0,J L] w (WQ x jo S F w (cJ x.c.ask 0 L Jo)):=fun w S F h=>vO x hc w S Jo 0 L F (by decide) h;rw [A] at j0
 go_enter func124,ntmps124
 go_wp2_with fail
 (with_reducible refine x0.mono ?_)
 rintro e w2 ⟨v,rfl,h2,d2⟩;have z:=h2.under h1;obtain ⟨j,o,rfl⟩:=aE z;rw [p0.out] at z ⊢;have h4:ag w2 (pt x.k (Y (x.cells v0 st.dt) 149 (0,0))*(cH x.c S x.b st.b*(bs 5 (R j 480 o) d0*(aq S*(emp*F))))):=(z.to (by unfold bJ;ac_rfl:_=cC st.bits v0*(pt x.k (Y (x.cells v0 st.dt) 149 (0,0))*(cH x.c S x.b st.b*(bs 5 (R j 480 o) d0*(aq S*(emp*F))))))).right
 obtain ⟨v1,n1,k1,rfl⟩:∃ a n c,v0 = R a n c:=by
  rcases ag.nU (z.to (by ac_rfl:_=cC st.bits v0*(bs 5 (R j 480 o) d0*(bJ x v0 S st*(aq S*(emp*F)))))) with ⟨_,rfl,_⟩|⟨l,_,_,hx⟩
  .exact ⟨_,_,_,rfl⟩
  .obtain ⟨a,b,e⟩:=aE hx;exact ⟨_,_,_,e⟩
 have g2:w2.cell? ⟨x.k,2,V⟩=U (R v1 n1 k1):=h4.cell 2;have f2:w2.frozen? ⟨x.k,2,V⟩=N:=h4.frozen 2;have h5:=h4.setCell 2 (R j 480 o);have G:=d2.setCell ⟨x.k,2,V⟩ (R j 480 o)
 have h6:ag (w2.setCell ⟨x.k,2,V⟩ (R j 480 o)) (aF x S Jo*(aq S*(emp*F))):=by
  rw [HA.out];refine ag.jr (R j 480 o) ?_;have g:=ag.qG p0.out h5.aw;exact g.to (by unfold bJ Wk.cells;simp only [P3,B3,R3];ac_rfl)
 have hm:=j0 _ S _ h6;clear x0 h1 h2 z h4 h5 h6 j0
 cases r1 with
 | bad cN=>
  have d:(WM.bind (cJ x.c.ask 0 L) fun _=>WM.bind (cJ x.c.ask 1 L) fun _=>dK (dg 1 2)) Jo=(.bad cN,f):=WM.bf A;have q:=ae (n0.out.trans d);clear d A
  go_wp2_with fail
  (with_reducible refine hm.mono ?_)
  rintro e w3 ⟨y,t,r,rfl,g⟩
  go_wp2_with fail
  exact ⟨rfl,P.out _ _ (by rw [q.out];exact ⟨y,t,G.trans r,rfl,g⟩)⟩
 | ok S0=>
  have d:(WM.bind (cJ x.c.ask 0 L) fun _=>WM.bind (cJ x.c.ask 1 L) fun _=>dK (dg 1 2)) Jo=(WM.bind (cJ x.c.ask 1 L) fun _=>dK (dg 1 2)) f:=WM.aX A;have o0:=ae (n0.out.trans d);clear d A;obtain ⟨⟨r2,C⟩,B⟩:∃ p,cJ x.c.ask 1 L f=p:=⟨_,rfl⟩
  have c0:∀ (w:O) (S:Hp) (F:ai),ag w (aF x S f*(aq S*F))->Calls Q 90 #[X (U ⟨x.k,0,V⟩),Z H 1,J L] w (WQ x jo S F w (cJ x.c.ask 1 L f)):=fun w S F h=>vO x hc w S f 1 L F (by decide) h;rw [B] at c0
  cases r2 with
  | bad cN=>
   have d:(WM.bind (cJ x.c.ask 1 L) fun _=>dK (dg 1 2)) f=(.bad cN,C):=WM.bf B;have q:=ae (o0.out.trans d);clear d B
   go_wp2_with fail
   (with_reducible refine hm.mono ?_)
   rintro e w3 ⟨y,v3,t,r,rfl,g⟩;obtain ⟨rfl,h8⟩:=ag.au.1 g
   go_wp2_with fail
   (with_reducible refine (c0 w3 y _ h8).mono ?_)
   rintro e E ⟨S2,b0,d4,rfl,h9⟩
   go_wp2_with fail
   exact ⟨rfl,P.out _ _ (by rw [q.out];exact ⟨S2,t.trans b0,(G.trans r).trans d4,rfl,h9⟩)⟩
  | ok u2=>
   have d:(WM.bind (cJ x.c.ask 1 L) fun _=>dK (dg 1 2)) f=dK (dg 1 2) C:=WM.aX B;have F0:=ae (o0.out.trans d);clear d B;have l0:=fun w S hb F h=>jK x w S C hb (dg 1 2) F h;obtain ⟨⟨r3,D0⟩,k0⟩:∃ p,dK (dg 1 2) C=p:=⟨_,rfl⟩
   rw [k0] at l0;have q:=ae (F0.out.trans k0);have q0:=ae l0;clear k0 l0
   go_wp2_with fail
   (with_reducible refine hm.mono ?_)
   rintro e w3 ⟨y,v3,t,r,rfl,g⟩;obtain ⟨rfl,h8⟩:=ag.au.1 g
   go_wp2_with fail
   (with_reducible refine (c0 w3 y _ h8).mono ?_)
   rintro e E ⟨S2,v4,b0,d4,rfl,h9⟩;obtain ⟨rfl,r0⟩:=ag.au.1 h9;have e0:=r0.alloc (Y u 136 (0,0));have s0:ag (E.alloc (Y u 136 (0,0))) (aO E.heap.size (dg 1 2)*(aF x S2 C*(aq S2*(emp*F)))):=ag.held.2 ⟨n9 1 2,by rw [G0.out] at e0 ⊢;exact e0⟩;have m0:=ae (((G.trans r).trans d4).alloc (Y u 136 (0,0)));have HS:=ae (t.trans b0);have hs:=ae (q0.out _ _ _ _ s0);clear hm c0 g h8 h9 r0 e0 s0 q0 G r d4 t b0
   go_wp2_with (refine gJ (by exact rfl) 136 #[(0,.const (Z H 1)),(1,.tmp 11)] (by exact rfl) _ (by exact rfl) u (by exact Hb.out) ?_)
   refine hs.out.mono ?_
   cases r3 with
   | bad cN=>
    rintro e w5 ⟨i,h0,d5,rfl,f0⟩
    go_wp2_with fail
    exact ⟨rfl,P.out _ _ (by rw [q.out];exact ⟨i,HS.out.trans h0,m0.out.trans d5,rfl,(f0.to (by ac_rfl:_=aO E.heap.size (dg 1 2)*(aF x i D0*(aq i*(emp*F))))).right⟩)⟩
   | ok u3=>
    rintro e w5 ⟨i,v5,h0,d5,rfl,f0⟩;obtain ⟨rfl,K0⟩:=ag.au.1 f0
    go_wp2_with fail
    go_end0
    exact P.out _ _ (by rw [q.out];exact ⟨i,_,HS.out.trans h0,m0.out.trans d5,rfl,ag.au.2 ⟨rfl,(K0.to (by ac_rfl:_=aO E.heap.size (dg 1 2)*(aF x i D0*(aq i*(emp*F))))).right⟩⟩)
end
end Go.Proofs.Fs
namespace Go.SL
open RowKit
section
variable {σ α β:Type}
theorem WM.nA {m:WM σ α} {k:α->WM σ β} {st st':eB σ} {b:β} (h:WM.bind m k st=(.ok b,st')):∃ a d,m st=(.ok a,d)/\k a d=(.ok b,st'):=by
 unfold WM.bind at h
 match hm:m st,h with
 | (.ok a,d),h=>exact ⟨a,d,rfl,h⟩
 | (.bad c,d),h=>cases h
structure Hd.Sn (n:Nat) (h:Hd):Prop where
 fit:h.fit
 ok:h.n.ok=true
 VN:1<=h.id
 Vd:h.id<n
 xN:0<=h.n.rw
 zV:h.n.rw<n
 pg:∀ p ∈ h.ic,0<=p/\p<n
theorem Ft {l:List Int} (h:l.all cZ=L):∀ p ∈ l,0<=p/\p<3840:=fun p d=>ji (List.all_eq_true.1 h p d)
theorem sn {ask:cO σ} {n:Nat} {id:Int} {st st':eB σ} {h:Hd} (o:fY ask n id st=(.ok h,st')):h.Sn n:=by
 unfold fY at o
 split at o
 .rename_i h0
  obtain ⟨j,aR,h1,e⟩:=WM.nA o;unfold Qq at e
  split at e
  .rename_i v
   have q:(ku j).1.ok=L/\(ku j).1.dr.length=16:=by
    refine ⟨?_,ES j⟩;unfold ku at v ⊢
    split at v
    .rename_i i;rw [if_pos i];simp only [Bool.and_eq_true] at i;exact i.1
    .cases v
   generalize (ku j).1=r at *;obtain ⟨q,G⟩:=q;have A:=Nd.qY q;have e0:=ji A.2.2.2.2.2.2.1
   have B:∀ row C,row.length=240->(∀ p ∈ row,0<=p)->(r.rw<n)->iX n id.toNat r row C=(.ok h,st')->h.Sn n:=by
    intro row C S d0 b0 P;obtain ⟨_,f0,f,u⟩:=WM.nA P;obtain ⟨_,g0,l,g⟩:=WM.nA u;simp only [WM.pure,Prod.mk.injEq,Rs.ok.injEq] at g;obtain ⟨rfl,rfl⟩:=g
    have t:r.dr.all (fun x=>decide (x<n))=L:=by
     unfold eF at f;split at f
     .assumption
     .cases f
    have E:row.all (fun x=>decide (x<n))=L:=by
     unfold eF at l;split at l
     .assumption
     .cases l
    refine ⟨⟨G,S⟩,q,by show 1<=id.toNat;omega,by show id.toNat<n;omega,e0.1,b0,fun p d=>?_⟩;rcases List.mem_append.1 d with d|d
    .exact ⟨(Ft A.2.2.2.2.2.1 p d).1,by simpa using List.all_eq_true.1 t p d⟩
    .exact ⟨d0 p d,by simpa using List.all_eq_true.1 E p d⟩
   unfold kU at e
   split at e
   .rename_i hz
    exact B _ _ rfl (fun p d=>by rw [(List.mem_replicate.1 d).2];omega) (by rw [hz];omega) e
   .obtain ⟨_,f0,f,u⟩:=WM.nA e
    obtain ⟨z,g0,l,g⟩:=WM.nA u
    have t:[r.rw].all (fun x=>decide (x<n))=L:=by
     unfold eF at f;split at f
     .assumption
     .cases f
    unfold Ni at g
    split at g
    .rename_i y
     have c0:(lH z).1.all cZ=L:=by
      unfold lH at y ⊢
      split at y
      .rename_i i;rw [if_pos i];exact i
      .cases y
     exact B _ _ (A8 z) (fun p d=>(Ft c0 p d).1) (by simpa using t) g
    .cases g
  .cases e
 .cases o
def iD (ask:cO σ):List Int->WM σ Unit
 | []=>WM.pure ()
 | p :: d=>fun st=>if p=0 then iD ask d st else (WM.bind (cJ ask p.toNat N) fun _=>iD ask d) st
def C2 (ask:cO σ) (h:Hd):WM σ Unit:=fun st=>if h.n.rw=0 then cJ ask h.id N st else (WM.bind (cJ ask h.n.rw.toNat N) fun _=>cJ ask h.id N) st
def qx (ask:cO σ) (n:Nat) (node:Int):WM σ Unit:=WM.bind (fY ask n node) fun h=>WM.bind (iD ask h.ic) fun _=>C2 ask h
def kR (ask:cO σ) (h:Hd) (k:Nat):WM σ Unit:=WM.bind (iD ask (h.ic.drop k)) fun _=>C2 ask h
theorem Hd.mj {h:Hd} (d:h.fit) {k:Nat} (f:k<256):h.ic.drop k=h.aN k :: h.ic.drop (k+1):=by
 have e:k<h.ic.length:=by rw [Hd.jA d];exact f
 rw [List.drop_eq_getElem_cons e,Hd.uF d,B2,J3 e];rfl
theorem JF {ask:cO σ} {h:Hd} (f:h.fit) {k:Nat} (g:k<256) (d:h.aN k=0) (st:eB σ):kR ask h k st=kR ask h (k+1) st:=by
 have e:iD ask (h.ic.drop k) st=iD ask (h.ic.drop (k+1)) st:=by rw [Hd.mj f g];exact if_pos d
 unfold kR WM.bind;rw [e]
theorem Jn {ask:cO σ} {h:Hd} (g:h.fit) {k:Nat} (i:k<256) (f:h.aN k≠0) {st d:eB σ} {c:Int} (hm:cJ ask (h.aN k).toNat N st=(.bad c,d)):kR ask h k st=(.bad c,d):=by
 have e:iD ask (h.ic.drop k) st=(.bad c,d):=by rw [Hd.mj g i];exact (if_neg f).trans (WM.bf hm)
 exact WM.bf e
theorem MC {ask:cO σ} {h:Hd} (g:h.fit) {k:Nat} (i:k<256) (f:h.aN k≠0) {st d:eB σ} (hm:cJ ask (h.aN k).toNat N st=(.ok (),d)):kR ask h k st=kR ask h (k+1) d:=by
 have e:iD ask (h.ic.drop k) st=iD ask (h.ic.drop (k+1)) d:=by rw [Hd.mj g i];exact (if_neg f).trans (WM.aX hm)
 unfold kR WM.bind;rw [e]
theorem MX {ask:cO σ} {h:Hd} (d:h.fit) (st:eB σ):kR ask h 256 st=C2 ask h st:=by
 have e:iD ask (h.ic.drop 256) st=(.ok (),st):=by rw [List.drop_of_length_le (by rw [Hd.jA d];exact Nat.le_refl _)];rfl
 exact WM.aX e
theorem Hd.Sn.aN {n:Nat} {h:Hd} (d:h.Sn n) {k:Nat} (f:k<256):0<=h.aN k/\h.aN k<n:=by
 have e:k<h.ic.length:=by rw [Hd.jA d.fit];exact f
 have:=d.pg _ (List.getElem_mem e);rw [Hd.uF d.fit,B2,J3 e];exact this
end
end Go.SL
namespace Go.Proofs.Fs
open RowKit SL Proofs.Ba
section
variable {σ α:Type}
theorem jI (x:Wk σ) (e:x.c.Ok) (w:O) (S:Hp) (st:eB σ) (p:Int) (t:Bool) (F:ai) (d:0<=p) (f:p<3840) (h:ag w (aF x S st*(aq S*F))) :
  Calls Q 90 #[X (U ⟨x.k,0,V⟩),Z H p,J t] w (WQ x jo S F w (cJ x.c.ask p.toNat t st)):=by
 have:=vO x e w S st p.toNat t F (by omega) h
 rwa [X3 d] at this
def Ph (x:Wk σ) (g:Nat) (e:Hd) (S:Hp) (F:ai) (w:O) (T:Rs Unit × eB σ) (u9:M) (wr:O):Prop:=
 ∃ (k:Nat) (f:eB σ) (d:Hp),k<=256/\u9 = Z H (k:Int)/\kR x.c.ask e k f=T/\Ext S d/\aj w wr/\ag wr (aF x d f*(aq d*(aO g e*F)))
theorem JA {c:Cx σ} (hc:c.Ok) {n:Nat} (hn:n<=3840) (node:Int) (i:Nat):CL c n 88 #[X (U ⟨i,0,V⟩)] jo (bg i node) (qx c.ask n node):=by
 intro x w e0 st F r0 s0 h;subst r0 s0;have cn:w.cell? ⟨i,0,V⟩=U (Z H node):=(h.to (by ac_rfl:_=bg i node*(aF x e0 st*(aq e0*F)))).cell 0;show Calls Q 88 #[X (U ⟨x.k,0,V⟩),X (U ⟨i,0,V⟩)] w _
 refine aJ fun x0 S=>?_;have hl:=jQ x hc w e0 st node _ h;obtain ⟨⟨u0,aR⟩,hp⟩:∃ p,fY x.c.ask x.n node st=p:=⟨_,rfl⟩
 rw [hp] at hl;clear h
 cases u0 with
 | bad cN=>
  have A:=ae (show qx x.c.ask x.n node st=(.bad cN,aR) from WM.bf hp);clear hp
  go_enter func88,ntmps88
  go_wp2_with fail
  (with_reducible refine hl.mono ?_)
  rintro e w2 ⟨S',hS,d2,rfl,h2⟩
  go_wp2_with fail
  exact ⟨rfl,S.out _ _ (by rw [A.out];exact ⟨S',hS,d2,rfl,h2⟩)⟩
 | ok d=>
  have hI:=sn hp;have t:=ae hI;obtain ⟨T,hT⟩:∃ T,kR x.c.ask d 0 aR=T:=⟨_,rfl⟩
  have A:=ae (show qx x.c.ask x.n node st=T from (WM.aX hp).trans hT);clear hp
  go_enter func88,ntmps88
  go_wp2_with fail
  (with_reducible refine hl.mono ?_)
  rintro e w2 ⟨S',v,hS,d2,rfl,h2⟩;obtain ⟨j,rfl,h3⟩:=ag.oP h2;have h4:ag w2 (aF x S' aR*(aq S'*(aO j d*(bg i node*F)))):=h3.to (by ac_rfl);have H4:=ae h4;have HT:=ae hT;clear h2 h3 hl cn hI hT h4
  go_wp2_with fail
  go_loopw [9] (fun u9 wr=>Ph x j d e0 (bg i node*F) w T u9 wr) (fun u9 _=>256-(intOf u9).toNat)
  case atStart=>exact ⟨0,aR,S',Nat.zero_le _,rfl,HT.out,hS,d2,H4.out⟩
  case round=>
   obtain ⟨k,y,Sk,hk,rfl,l0,k0,C,b0⟩:=hrel;have d0:=ae l0;have B:=ae k0;clear H4 HT l0 k0;have z:=b0.to (by ac_rfl:_=aO j d*(aF x Sk y*(aq Sk*(bg i node*F))))
   by_cases G:k<256
   .have F0:(k:Int)<256:=by omega
    have c0:=nJ wr j d _ z k G;unfold Kc at c0
    by_cases E:d.aN k=0
    .have l:=ae ((JF t.out.fit G E y).symm.trans d0.out)
     rw [E] at c0;clear E z
     go_wp2_with fail
     (with_reducible refine c0.mono ?_)
     rintro e w3 ⟨rfl,rfl⟩
     go_wp2_with fail
     go_roundw
     case rel=>exact ⟨k+1,y,Sk,by omega,by go_num,l.out,B.out,C,b0⟩
     case measure=>simp [intOf];omega
    .have h1:(d.aN k != 0)=L:=by simpa using E
     obtain ⟨p0,p1⟩:=t.out.aN G;have hm:=jI x hc wr Sk y (d.aN k) N _ p0 (by omega) b0;obtain ⟨⟨r2,u⟩,g⟩:∃ p,cJ x.c.ask (d.aN k).toNat N y=p:=⟨_,rfl⟩
     rw [g] at hm
     cases r2 with
     | bad cN=>
      have l:=ae ((Jn t.out.fit G E g).symm.trans d0.out);clear E g z p0 p1;generalize d.aN k=i0 at *
      go_wp2_with fail
      (with_reducible refine c0.mono ?_)
      rintro e w3 ⟨rfl,rfl⟩
      go_wp2_with fail
      (with_reducible refine hm.mono ?_)
      rintro e w4 ⟨f,r,o,rfl,q⟩
      go_wp2_with fail
      exact ⟨rfl,S.out _ _ (by rw [A.out,<- l.out];exact ⟨f,B.out.trans r,C.trans o,rfl,(q.to (by ac_rfl:_=aO j d*(aF x f u*(aq f*(bg i node*F))))).right⟩)⟩
     | ok n0=>
      have l:=ae ((MC t.out.fit G E g).symm.trans d0.out);clear E g z p0 p1;generalize d.aN k=i0 at *
      go_wp2_with fail
      (with_reducible refine c0.mono ?_)
      rintro e w3 ⟨rfl,rfl⟩
      go_wp2_with fail
      (with_reducible refine hm.mono ?_)
      rintro e w4 ⟨f,v4,r,o,rfl,q⟩;obtain ⟨rfl,h7⟩:=ag.au.1 q
      go_wp2_with fail
      go_roundw
      case rel=>exact ⟨k+1,u,f,by omega,by go_num,l.out,B.out.trans r,C.trans o,h7⟩
      case measure=>simp [intOf];omega
   .obtain rfl:k=256:=by omega
    have HR:=ae ((MX t.out.fit y).symm.trans d0.out);have q0:wr.cell? ⟨j,20,V⟩=U (Z H d.n.rw):=qi t.out.fit (ag.held.1 z).2;have o0:wr.cell? ⟨j,0,V⟩=U (Z H (d.id:Int)):=zp (ag.held.1 z).2
    by_cases P:d.n.rw=0
    .have hm:=jI x hc wr Sk y (d.id:Int) N _ (by omega) (by have:=t.out.Vd;omega) b0
     rw [Int.toNat_natCast] at hm;obtain ⟨⟨r2,u⟩,g⟩:∃ p,cJ x.c.ask d.id N y=p:=⟨_,rfl⟩
     rw [g] at hm;have l:=ae (HR.out.symm.trans ((if_pos P).trans g));rw [P] at q0;clear P g z G
     cases r2 with
     | bad cN=>
      go_wp2_with fail
      (with_reducible refine hm.mono ?_)
      rintro e w4 ⟨f,r,o,rfl,q⟩
      go_wp2_with fail
      exact ⟨rfl,S.out _ _ (by rw [A.out,l.out];exact ⟨f,B.out.trans r,C.trans o,rfl,(q.to (by ac_rfl:_=aO j d*(aF x f u*(aq f*(bg i node*F))))).right⟩)⟩
     | ok n0=>
      go_wp2_with fail
      (with_reducible refine hm.mono ?_)
      rintro e w4 ⟨f,v4,r,o,rfl,q⟩;obtain ⟨rfl,h7⟩:=ag.au.1 q
      go_wp2_with fail
      go_end0
      exact S.out _ _ (by rw [A.out,l.out];exact ⟨f,_,B.out.trans r,C.trans o,rfl,ag.au.2 ⟨rfl,(h7.to (by ac_rfl:_=aO j d*(aF x f u*(aq f*(bg i node*F))))).right⟩⟩)
    .have h1:(d.n.rw != 0)=L:=by simpa using P
     have hm:=jI x hc wr Sk y d.n.rw N _ t.out.xN (by have:=t.out.zV;omega) b0;obtain ⟨⟨r2,u⟩,g⟩:∃ p,cJ x.c.ask d.n.rw.toNat N y=p:=⟨_,rfl⟩
     rw [g] at hm
     cases r2 with
     | bad cN=>
      have l:=ae (HR.out.symm.trans ((if_neg P).trans (WM.bf g)));clear P g z G;generalize d.n.rw=i0 at *
      go_wp2_with fail
      (with_reducible refine hm.mono ?_)
      rintro e w4 ⟨f,r,o,rfl,q⟩
      go_wp2_with fail
      exact ⟨rfl,S.out _ _ (by rw [A.out,l.out];exact ⟨f,B.out.trans r,C.trans o,rfl,(q.to (by ac_rfl:_=aO j d*(aF x f u*(aq f*(bg i node*F))))).right⟩)⟩
     | ok n0=>
      have l:=ae (HR.out.symm.trans ((if_neg P).trans (WM.aX g)));clear P g z G;generalize d.n.rw=i0 at *
      go_wp2_with fail
      (with_reducible refine hm.mono ?_)
      rintro e w4 ⟨f,v4,r,o,rfl,q⟩;obtain ⟨rfl,h7⟩:=ag.au.1 q;have D0:w4.cell? ⟨j,0,V⟩=U (Z H (d.id:Int)):=zp (ag.held.1 (h7.to (by ac_rfl:_=aO j d*(aF x f u*(aq f*(bg i node*F)))))).2;have f0:=jI x hc w4 f u (d.id:Int) N _ (by omega) (by have:=t.out.Vd;omega) h7;rw [Int.toNat_natCast] at f0;obtain ⟨⟨r3,m0⟩,h0⟩:∃ p,cJ x.c.ask d.id N u=p:=⟨_,rfl⟩
      rw [h0] at f0;have j0:=ae (l.out.trans h0);clear h0 hm o0 q
      cases r3 with
      | bad cN=>
       go_wp2_with fail
       (with_reducible refine f0.mono ?_)
       rintro e w5 ⟨S3,g0,d5,rfl,h8⟩
       go_wp2_with fail
       exact ⟨rfl,S.out _ _ (by rw [A.out,j0.out];exact ⟨S3,(B.out.trans r).trans g0,(C.trans o).trans d5,rfl,(h8.to (by ac_rfl:_=aO j d*(aF x S3 m0*(aq S3*(bg i node*F))))).right⟩)⟩
      | ok u3=>
       go_wp2_with fail
       (with_reducible refine f0.mono ?_)
       rintro e w5 ⟨S3,v5,g0,d5,rfl,h8⟩;obtain ⟨rfl,h9⟩:=ag.au.1 h8
       go_wp2_with fail
       go_end0
       exact S.out _ _ (by rw [A.out,j0.out];exact ⟨S3,_,(B.out.trans r).trans g0,(C.trans o).trans d5,rfl,ag.au.2 ⟨rfl,(h9.to (by ac_rfl:_=aO j d*(aF x S3 m0*(aq S3*(bg i node*F))))).right⟩⟩)
end
end Go.Proofs.Fs

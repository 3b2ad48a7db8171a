/- Steps. -/
import Derived.Test.YtacliaemfegopaaGreatDoorKP22
import Derived.Test.YtacliaemfegopaaGreatDoorKP4
import Derived.Test.YtacliaemfegopaaGreatDoorKP13
import Derived.Test.YtacliaemfegopaaGreatDoorKP6
set_option linter.all false
set_option maxRecDepth 99999
set_option maxHeartbeats 0
open Go.SL
open Go.Value renaming int->Z,slice->R,pointer->X,tuple->H,bool->I
open Go.IntKind renaming i64->G
open Go.Obj renaming cells->Y
open Go.Ending renaming returned->L
open Go renaming World->O,Value->M
open Go.Proofs.Tryz renaming prog->Q
open Option renaming some->U,none->V
open Bool renaming true->J,false->N
open Go.Proofs.Tryz
open Go.Value renaming int->E2,oneCell'->Q3
open List renaming replicate->J2,length_cons->K2,length_map->N2,size_toArray->O2,length_nil->P2,push_toArray->W2,append_toArray->X2,nil_append->Y2,cons_append->Z2,getElem?_cons_succ->B3,getD->J3,set_cons_succ->K3,getElem?_append_left->L3,getElem?_map->P3,setIfInBounds_toArray->S3,set_cons_zero->T3,getElem?_append_right->V3,length_append->W3,getElem?_eq_getElem->X3,getElem?_eq_none->Y3,drop_succ_cons->Z3,take_of_length_le->J4
open Nat renaming not_lt_zero->M2,reduceAdd->R2,reduceSub->T2,add_comm->U3
open Array renaming replicate_succ->U2,replicate_zero->V2
open Go.World renaming size_alloc->G3
namespace Go.SL
open Go.RowKit
inductive Rs (α:Type) where
 | ok (a:α)
 | bad (c:Int)
structure ia (σ:Type) where
 err:Int
 W:List (Int × List UInt8)
 D:List (Int × List UInt8)
 s:σ
structure eZ (σ:Type) where
 b:ia σ
 bits:Option (List UInt8)
 dt:Bool
abbrev dD (σ:Type):=σ->Int->(Int × List UInt8) × σ
abbrev WM (σ α:Type):=eZ σ->Rs α × eZ σ
def WM.bind {σ α β:Type} (m:WM σ α) (k:α->WM σ β):WM σ β:=fun st=>match m st with|(.ok a,st')=>k a st'|(.bad c,st')=>(.bad c,st')
def WM.pure {σ α:Type} (a:α):WM σ α:=fun st=>(.ok a,st)
section
variable {σ α β:Type} {m:WM σ α} {k:α->WM σ β} {st st':eZ σ}
theorem WM.bd {a:α} (h:m st=(.ok a,st')):WM.bind m k st=k a st':=by unfold WM.bind;rw [h]
theorem WM.bK {c:Int} (h:m st=(.bad c,st')):WM.bind m k st=(.bad c,st'):=by unfold WM.bind;rw [h]
end
def qL {σ:Type} (ask:dD σ) (b:ia σ) (id:Int):(Int × List UInt8) × ia σ:=
 if (ask b.s id).1.1=0 then ((0,(ask b.s id).1.2),{ b with D:=SL.fm b.D id (ask b.s id).1.2,s:=(ask b.s id).2 })
 else (((ask b.s id).1.1,(ask b.s id).1.2),{ b with err:=(ask b.s id).1.1,s:=(ask b.s id).2 })
def fD {σ:Type} (ask:dD σ) (b:ia σ) (id:Int):(Int × List UInt8) × ia σ:=
 if b.err≠0 then ((b.err,[]),b) else
 match aG b.W id with
 | some l=>((0,l),b)
 | none=>match aG b.D id with
  | some l=>((0,l),b)
  | none=>qL ask b id
def cZ {σ:Type} (ask:dD σ) (id:Int):WM σ (List UInt8):=fun st=>
 if (fD ask st.b id).1.1≠0 then (.bad (fD ask st.b id).1.1,{ st with b:=(fD ask st.b id).2 })
 else if (fD ask st.b id).1.2.length≠480 then (.bad 4,{ st with b:=(fD ask st.b id).2 })
 else (.ok (fD ask st.b id).1.2,{ st with b:=(fD ask st.b id).2 })
end Go.SL
namespace Go.Proofs.Fs
open Go.RowKit Go.SL Go.Proofs.Ba
structure Cx (σ:Type) where
 T:TypeId
 rv:Value
 fr:FuncId
 rr:Value
 Mq:World->Prop
 ask:dD σ
 RI:σ->ai
def Cx.rd {σ:Type} (c:Cx σ):M:=.iface c.T c.rv
structure Cx.Ok {σ:Type} (c:Cx σ):Prop where
 hM:∀ (s:σ) (F:ai) (w:World),ag w (c.RI s*F)->c.Mq w
 hm : ∀ (k : Nat) (w : World), c.Mq w -> (method (k + 1) c.T c.rv "Read").run prog w = .ok (c.fr, c.rr) w
 jN:∀ (args:Array Value) (w:World),(callFunc c.fr args).run prog w = .ok (.enter c.fr args) w
 hR:∀ (s:σ) (id:Int) (F:ai) (w:World),ag w (c.RI s*F)->Calls prog c.fr #[c.rr,.int .i64 id] w (nn (c.ask s id).1 (c.RI (c.ask s id).2) F w)
 hs:∀ (s:σ) (id:Int),(c.ask s id).1.1=0->small (c.ask s id).1.2
def cG {σ:Type} (c:Cx σ) (S:Hp) (b:Nat) (x:ia σ):ai:=aA 176 5 S b c.rd x.err x.W x.D*c.RI x.s
def Oy {σ:Type} (c:Cx σ) (b:Nat) (S:Hp) (p:(Int × List UInt8) × ia σ) (F:ai) (w:O) (e:Ending) (g:O):Prop:=
 ∃ d f,Ext S d/\e = L (H #[f,Z G p.1.1])/\ag g (oa 5 p.1 f*(cG c d b p.2*(ak d*F)))/\aj w g
theorem DV {σ:Type} {c:Cx σ} (f:c.Ok) (w:O) (S:Hp) (b:Nat) (x:ia σ) (id:Int) (F:ai) (h:ag w (cG c S b x*(ak S*F))) :
  Calls Q 202 #[X (U ⟨b,0,V⟩),Z G id] w (Oy c b S (fD c.ask x id) F w):=by
 obtain ⟨err,W,D,s⟩:=x;have t:ag w (aA 176 5 S b c.rd err W D*(ak S*(c.RI s*F))):=h.to (by unfold cG;ac_rfl)
 by_cases z:err=0
 .subst z
  cases r:aG W id with
  | some l=>
   have q:fD c.ask ⟨0,W,D,s⟩ id=((0,l),⟨0,W,D,s⟩):=by unfold fD;simp only [ne_eq,not_true_eq_false,if_false,r]
   rw [q];refine (NZ w S b c.rd W D id l _ t r).mono ?_;rintro e y ⟨g,i,d,rfl,j,o⟩;exact ⟨g,i,d,rfl,j.to (by unfold cG;ac_rfl),o⟩
  | none=>
   cases u:aG D id with
   | some l=>
    have q:fD c.ask ⟨0,W,D,s⟩ id=((0,l),⟨0,W,D,s⟩):=by unfold fD;simp only [ne_eq,not_true_eq_false,if_false,r,u]
    rw [q];refine (O7 w S b c.rd W D id l _ t r u).mono ?_;rintro e y ⟨g,i,d,rfl,j,o⟩;exact ⟨g,i,d,rfl,j.to (by unfold cG;ac_rfl),o⟩
   | none=>
    have q:fD c.ask ⟨0,W,D,s⟩ id=qL c.ask ⟨0,W,D,s⟩ id:=by unfold fD;simp only [ne_eq,not_true_eq_false,if_false,r,u]
    have hR:=fun F w=>f.hR s id F w;have hs:=f.hs s id;rw [q];unfold qL;generalize c.ask s id=p at *;obtain ⟨⟨A,l⟩,v⟩:=p
    by_cases d:A=0
    .subst d
     rw [if_pos rfl];refine (LG w S b c.T c.rv c.fr W D id l (c.RI s) (c.RI v) F c.rr c.Mq (f.hM s) (f.hM v) f.hm f.jN hR t r u (hs rfl)).mono ?_;rintro e y ⟨g,i,d,rfl,j,o⟩;exact ⟨g,i,d,rfl,j.to (by unfold cG Cx.rd;ac_rfl),o⟩
    .rw [if_neg d]
     refine (xz w S b c.T c.rv c.fr W D id A l (c.RI s) (c.RI v) F c.rr c.Mq (f.hM s) (f.hM v) f.hm f.jN hR d t r u).mono ?_;rintro e y ⟨g,i,d,rfl,j,o⟩;exact ⟨g,i,d,rfl,j.to (by unfold cG Cx.rd;ac_rfl),o⟩
 .have q:fD c.ask ⟨err,W,D,s⟩ id=((err,[]),⟨err,W,D,s⟩):=by unfold fD;rw [if_pos z]
  rw [q];refine (IC w S b c.rd err W D id _ t z).mono ?_;rintro e y ⟨g,i,d,rfl,j,o⟩;exact ⟨g,i,d,rfl,j.to (by unfold cG;ac_rfl),o⟩
def Gf (c:Int):List PanicEntry:=[{ v:=.iface 219 (Z G c),recovered:=N }]
theorem jw (w:O):Calls Q 143 #[Z G 0] w fun e d=>e = L (H #[])/\w=d:=by
 go_enter func143,ntmps143
 go_wp2
 go_end0
 exact ⟨rfl,rfl⟩
theorem fj (w:O) (c:Int) (f:c≠0):Calls Q 143 #[Z G c] w fun e d=>e = .panicked (Gf c)/\w=d:=by
 go_enter func143,ntmps143
 go_wp2
 exact ⟨rfl,rfl,rfl⟩
theorem gW (w:O):Calls Q 83 #[I J] w fun e d=>e = L (H #[])/\w=d:=by
 go_enter func83,ntmps83
 go_wp2
 go_end0
 exact ⟨rfl,rfl⟩
theorem iB (w:O):Calls Q 83 #[I N] w fun e f=>e = .panicked (Gf 1)/\w=f:=by
 have d:=fj w 1 (by decide)
 go_enter func83,ntmps83
 go_wp2_with fail
 (refine d.mono ?_)
 rintro e g ⟨rfl,rfl⟩
 go_wp2
 exact ⟨rfl,rfl,rfl⟩
def bW (o:Option (List UInt8)) (v:M):ai:=fun h=>(o=V/\v = R V 0 0/\h=fun _=>V)\/∃ l,o=U l/\l.length=480/\bs 5 v l h
structure Wk (σ:Type) where
 c:Cx σ
 n:Nat
 k:Nat
 b:Nat
def Wk.cells {σ:Type} (x:Wk σ) (v:M) (t:Bool):Array M:=#[X (U ⟨x.b,0,V⟩),Z G (x.n:Int),v,I t]
def bp {σ:Type} (x:Wk σ) (v:M) (S:Hp) (st:eZ σ):ai:=pt x.k (Y (x.cells v st.dt) 149 (0,0))*cG x.c S x.b st.b
def aM {σ:Type} (x:Wk σ) (S:Hp) (st:eZ σ):ai:=ex fun v=>bp x v S st*bW st.bits v
def WQ {σ α:Type} (x:Wk σ) (g:α->M->ai) (S:Hp) (F:ai) (w:O):Rs α × eZ σ->Ending->O->Prop
 | (.ok a,st'),e,f=>∃ d v,Ext S d/\aj w f/\e = L v/\ag f (g a v*(aM x d st'*(ak d*F)))
 | (.bad c,st'),e,f=>∃ d,Ext S d/\aj w f/\e = .panicked (Gf c)/\ag f (aM x d st'*(ak d*F))
def PM {σ α:Type} (x:Wk σ) (g:M) (i:α->M->ai) (S:Hp) (F:ai) (w:O):Rs α × eZ σ->Ending->O->Prop
 | (.ok a,st'),e,f=>∃ d v,Ext S d/\aj w f/\e = L v/\ag f (i a v*(bp x g d st'*(ak d*F)))
 | (.bad c,st'),e,f=>∃ d,Ext S d/\aj w f/\e = .panicked (Gf c)/\ag f (bp x g d st'*(ak d*F))
def lM (a:Unit) (v:M):ai:=fact (v = H #[])
def fJ (l:List UInt8) (v:M):ai:=bs 5 v l
theorem vD {σ:Type} (x:Wk σ) (hc:x.c.Ok) (w:O) (u:M) (S:Hp) (st:eZ σ) (id:Int) (F:ai) (h:ag w (bp x u S st*(ak S*F))) :
  Calls Q 142 #[X (U ⟨x.k,0,V⟩),Z G id] w (PM x u fJ S F w (cZ x.c.ask id st)):=by
 have E:ag w (cG x.c S x.b st.b*(ak S*(pt x.k (Y (x.cells u st.dt) 149 (0,0))*F))):=h.to (by unfold bp;ac_rfl);have c0:w.cell? ⟨x.k,0,V⟩=U (X (U ⟨x.b,0,V⟩)):=E.aq.cell 0;have t:=DV hc w S x.b st.b id _ E;have K:∀ p,fD x.c.ask st.b id=p->cZ x.c.ask id st=if p.1.1≠0 then (.bad p.1.1,{ st with b:=p.2 }) else if p.1.2.length≠480 then (.bad 4,{ st with b:=p.2 }) else (.ok p.1.2,{ st with b:=p.2 }):=fun p r=>by subst r;rfl
 obtain ⟨⟨⟨B,l⟩,b'⟩,r⟩:∃ p,fD x.c.ask st.b id=p:=⟨_,rfl⟩
 have P:=K _ r;rw [r] at t;rw [P]
 by_cases v:B=0
 .subst v
  rw [if_neg (by simp)]
  by_cases q:l.length=480
  .rw [if_neg (by simp [q])]
   have b0:((480:Int) != 480)=N:=by decide
   have A:=ae q
   go_enter func142,ntmps142
   go_wp2_with fail
   (refine t.mono ?_)
   rintro e f ⟨g,C,o,rfl,j,i⟩;have d:=j.tU;obtain ⟨va,vc,rfl⟩:=aC d;rw [A.out] at d ⊢
   go_wp2_with fail
   (refine (jw f).mono ?_)
   rintro e y ⟨rfl,rfl⟩
   go_wp2_with fail
   go_ret
   exact ⟨g,_,o,i,rfl,by unfold bp cG fJ;exact d.to (by unfold cG;ac_rfl)⟩
  .rw [if_pos q]
   have b0:((l.length:Int) != 480)=J:=by rw [bne_iff_ne];omega
   have A:=ae q
   go_enter func142,ntmps142
   go_wp2_with fail
   (refine t.mono ?_)
   rintro e f ⟨g,C,o,rfl,j,i⟩;have d:=j.tU;obtain ⟨va,vc,rfl⟩:=aC d
   go_wp2_with fail
   (refine (jw f).mono ?_)
   rintro e y ⟨rfl,rfl⟩
   go_wp2_with fail
   (refine (fj f 4 (by decide)).mono ?_)
   rintro e y ⟨rfl,rfl⟩
   go_wp2_with fail
   exact ⟨rfl,g,o,i,rfl,by unfold bp;exact d.right.to (by ac_rfl)⟩
 .rw [if_pos v]
  have z:=ae v
  go_enter func142,ntmps142
  go_wp2_with fail
  (refine t.mono ?_)
  rintro e f ⟨g,C,o,rfl,j,i⟩;obtain ⟨rfl,d⟩:=j.zk z.out
  go_wp2_with fail
  (refine (fj f B z.out).mono ?_)
  rintro e y ⟨rfl,rfl⟩
  go_wp2_with fail
  exact ⟨rfl,g,o,i,rfl,by unfold bp;exact d.to (by ac_rfl)⟩
end Go.Proofs.Fs
namespace Go.SL
open Go.RowKit
section
variable {σ:Type}
def jx (err id:Int) (l:List UInt8):Int:=if err≠0 then err else if id<0\/l.length≠480 then 1 else 0
def bO (id:Int) (l:List UInt8):WM σ Unit:=fun st=>
 if jx st.b.err id l=0 then (.ok (),{ st with b:={ st.b with W:=SL.fm st.b.W id l } }) else (.bad (jx st.b.err id l),st)
def kq (ask:dD σ):WM σ (List UInt8):=fun st=>match st.bits with
 | some l=>(.ok l,st)
 | none=>match cZ ask 0 st with
  | (.ok l,st')=>(.ok l,{ st' with bits:=U l })
  | (.bad c,st')=>(.bad c,st')
def xS (id:Nat) (t:Bool) (l:List UInt8):WM σ Unit:=fun st=>(.ok (),{ st with bits:=U (ea l id t),dt:=J })
def fz (ask:dD σ) (id:Nat) (t:Bool):WM σ Unit:=WM.bind (kq ask) (xS id t)
def Ol (l:List UInt8) (st:eZ σ):Option Nat->Rs Nat × eZ σ
 | some k=>(.ok k,{ st with bits:=U (ea l k J),dt:=J })
 | none=>(.bad 7,st)
def qS (n:Nat) (l:List UInt8):WM σ Nat:=fun st=>Ol l st (eK l n)
def ic (ask:dD σ) (n:Nat):WM σ Nat:=WM.bind (kq ask) (qS n)
theorem tX (ask:dD σ) (id:Int) (st:eZ σ):(cZ ask id st).2.bits=st.bits:=by
 unfold cZ;split
 .rfl
 .split <;> rfl
theorem iZ {ask:dD σ} {id:Int} {st st':eZ σ} {l:List UInt8} (h:cZ ask id st=(.ok l,st')):l.length=480:=by
 unfold cZ at h
 split at h
 .cases h
 .split at h
  .cases h
  .rename_i d;simp only [Prod.mk.injEq,Rs.ok.injEq] at h;rw [<- h.1];exact Decidable.of_not_not d
theorem y7 (id:Int) (l:List UInt8) (st:eZ σ):(bO id l st).2.bits=st.bits:=by
 unfold bO;split <;> rfl
theorem Jm {ask:dD σ} {st st':eZ σ} {l:List UInt8} (h:kq ask st=(.ok l,st')) (f:∀ l,st.bits=U l->l.length=480):st'.bits=U l/\l.length=480:=by
 unfold kq at h
 split at h
 .rename_i i d
  obtain ⟨rfl,rfl⟩:=h;exact ⟨d,f _ d⟩
 .split at h
  .rename_i j g e
   obtain ⟨rfl,rfl⟩:=h;exact ⟨rfl,iZ e⟩
  .cases h
end
end Go.SL
namespace Go.Proofs.Fs
open Go.RowKit Go.SL Go.Proofs.Ba
variable {S:Hp} {v:M}
section
variable {σ α:Type}
theorem ag.eY {w:O} {x:Wk σ} {st:eZ σ} {F:ai} (h:ag w (aM x S st*F)):∃ v,ag w (bp x v S st*(bW st.bits v*F)):=by
 obtain ⟨v,h⟩:=ag.aw.1 h;exact ⟨v,h.to (by ac_rfl)⟩
theorem ag.iK {w:O} {x:Wk σ} {st:eZ σ} {F:ai} (v:M) (h:ag w (bp x v S st*(bW st.bits v*F))):ag w (aM x S st*F):=
 ag.aw.2 ⟨v,h.to (by ac_rfl)⟩
theorem ag.Da {w:O} {F:ai} (h:ag w F):ag w (bW V (R V 0 0)*F):=
 (h.to (cV _).symm).fp fun k d=>.inl ⟨rfl,rfl,d⟩
theorem ag.oV {w:O} {F:ai} {l:List UInt8} (e:l.length=480) (h:ag w (bs 5 v l*F)):ag w (bW (U l) v*F):=
 h.fp fun k d=>.inr ⟨l,rfl,e,d⟩
theorem ag.ny {w:O} {o:Option (List UInt8)} {F:ai} (h:ag w (bW o v*F)) :
  (o=V/\v = R V 0 0/\ag w F)\/∃ l,o=U l/\l.length=480/\ag w (bs 5 v l*F):=by
 obtain ⟨k,a,f,e,p,q,d,rfl⟩:=h;rcases p with ⟨rfl,rfl,rfl⟩|⟨l,rfl,i,g⟩
 .refine .inl ⟨rfl,rfl,_,a,?_⟩
  have:join (fun _=>V) e=e:=by funext c;simp [join]
  rw [this];exact q
 .exact .inr ⟨l,rfl,i,_,a,f,e,g,q,d,rfl⟩
theorem PM.lift {x:Wk σ} {d:M} {l:α->M->ai} {F:ai} {w:O} {st:eZ σ}:∀ {p:Rs α × eZ σ} {e:Ending} {g:O},
  PM x d l S (bW st.bits d*F) w p e g->p.2.bits=st.bits->WQ x l S F w p e g
 | (.ok a,st'),e,g,⟨f,v,o,q,r,i⟩,j=>by
  refine ⟨f,v,o,q,r,?_⟩;dsimp only at j;rw [<- j] at i;exact (ag.iK d (i.to (by ac_rfl):ag g (bp x d f st'*(bW st'.bits d*(l a v*(ak f*F)))))).to (by ac_rfl)
 | (.bad c,st'),e,g,⟨f,o,q,r,i⟩,j=>by
  refine ⟨f,o,q,r,?_⟩;dsimp only at j;rw [<- j] at i;exact (ag.iK d (i.to (by ac_rfl):ag g (bp x d f st'*(bW st'.bits d*(ak f*F)))))
theorem mP (x:Wk σ) (g:x.c.Ok) (w:O) (S:Hp) (st:eZ σ) (id:Int) (F:ai) (h:ag w (aM x S st*(ak S*F))) :
  Calls Q 142 #[X (U ⟨x.k,0,V⟩),Z G id] w (WQ x fJ S F w (cZ x.c.ask id st)):=by
 obtain ⟨v,d⟩:=ag.eY h;refine (vD x g w v S st id (bW st.bits v*F) (d.to (by ac_rfl))).mono fun e i f=>PM.lift f (tX _ _ _)
theorem JE (err id:Int) (l:List UInt8):fT err id l=jx err id l:=rfl
theorem jq (x:Wk σ) (w:O) (g:M) (S:Hp) (st:eZ σ) (id:Int) (q:M) (l:List UInt8) (F:ai) (h:ag w (bp x g S st*(ak S*F))) (B:Rd w q l) :
  Calls Q 90 #[X (U ⟨x.k,0,V⟩),Z G id,q] w (PM x g lM S F w (bO id l st)):=by
 have z:ag w (aA 176 5 S x.b x.c.rd st.b.err st.b.W st.b.D*(ak S*(x.c.RI st.b.s*(pt x.k (Y (x.cells g st.dt) 149 (0,0))*F)))):=h.to (by unfold bp cG;ac_rfl);have E:w.cell? ⟨x.k,0,V⟩=U (X (U ⟨x.b,0,V⟩)):=(h.to (by unfold bp;ac_rfl:_=pt x.k (Y (x.cells g st.dt) 149 (0,0))*(cG x.c S x.b st.b*(ak S*F)))).cell 0;have f:=mZ w S x.b x.c.rd st.b.err st.b.W st.b.D id q l _ z B;unfold gp at f;rw [JE] at f;unfold bO
 by_cases d:jx st.b.err id l=0
 .rw [if_pos d]
  have u:uu st.b.err id l st.b.W=SL.fm st.b.W id l:=tK (by
   unfold jx at d
   split at d
   .rename_i r;exact absurd d r
   .rename_i r
    split at d
    .cases d
    .rename_i P
     exact ⟨Decidable.of_not_not r,by omega,by omega⟩)
  rw [d,u] at f;have y:=ae d
  go_enter func90,ntmps90
  go_wp2_with fail
  (refine f.mono ?_)
  rintro e v ⟨j,t,rfl,i,o⟩
  go_wp2_with fail
  (refine (jw v).mono ?_)
  rintro e C ⟨rfl,rfl⟩
  go_wp2_with fail
  go_end0
  exact ⟨j,_,t,o,rfl,ag.au.2 ⟨rfl,by unfold bp cG;exact i.to (by ac_rfl)⟩⟩
 .rw [if_neg d]
  have u:uu st.b.err id l st.b.W=st.b.W:=nC (by
   rintro ⟨A,i,K⟩;apply d;unfold jx;rw [if_neg (by simp [A]),if_neg (by omega)])
  rw [u] at f;have y:=ae d;generalize jx st.b.err id l=c at *
  go_enter func90,ntmps90
  go_wp2_with fail
  (refine f.mono ?_)
  rintro e v ⟨j,t,rfl,i,o⟩
  go_wp2_with fail
  (refine (fj v c y.out).mono ?_)
  rintro e C ⟨rfl,rfl⟩
  go_wp2_with fail
  exact ⟨rfl,j,t,o,rfl,by unfold bp cG;exact i.to (by ac_rfl)⟩
theorem oq (x:Wk σ) (w:O) (S:Hp) (st:eZ σ) (id:Int) (d:M) (l:List UInt8) (F:ai) (h:ag w (aM x S st*(ak S*F))) (i:Rd w d l) :
  Calls Q 90 #[X (U ⟨x.k,0,V⟩),Z G id,d] w (WQ x lM S F w (bO id l st)):=by
 obtain ⟨v,f⟩:=ag.eY h;refine (jq x w v S st id d l (bW st.bits v*F) (f.to (by ac_rfl)) i).mono fun e j g=>PM.lift g (y7 _ _ _)
def QQ (x:Wk σ) (S:Hp) (F:ai) (w:O):Rs (List UInt8) × eZ σ->Ending->O->Prop
 | (.ok l,st'),e,f=>∃ d v,Ext S d/\aj w f/\e = L v/\l.length=480/\ag f (bp x v d st'*(bs 5 v l*(ak d*F)))
 | (.bad c,st'),e,f=>∃ d,Ext S d/\aj w f/\e = .panicked (Gf c)/\ag f (aM x d st'*(ak d*F))
theorem tj (x:Wk σ) (hc:x.c.Ok) (w:O) (S:Hp) (st:eZ σ) (F:ai) (h:ag w (aM x S st*(ak S*F))) :
  Calls Q 96 #[X (U ⟨x.k,0,V⟩)] w (QQ x S F w (kq x.c.ask st)):=by
 obtain ⟨v,B⟩:=ag.eY h;obtain ⟨b,o,dt⟩:=st;have K:w.cell? ⟨x.k,2,V⟩=U v:=(B.to (by unfold bp;ac_rfl:_=pt x.k (Y (x.cells v dt) 149 (0,0))*(cG x.c S x.b b*(bW o v*(ak S*F))))).cell 2;rcases ag.ny (B.to (by ac_rfl:_=bW o v*(bp x v S ⟨b,o,dt⟩*(ak S*F)))) with ⟨rfl,rfl,d⟩|⟨l,rfl,q,d⟩
 .have C:=vD x hc w (R V 0 0) S ⟨b,V,dt⟩ 0 F d
  have hq:=fun w=>Lib.run_eql_slice_nil (P:=Q) w 37 5 V 0 0 0 0 underlying37;have q:=fun l st'=>iZ (ask:=x.c.ask) (id:=0) (st:=⟨b,V,dt⟩) (st':=st') (l:=l);have z:kq x.c.ask ⟨b,V,dt⟩=match cZ x.c.ask 0 ⟨b,V,dt⟩ with|(.ok l,st')=>(.ok l,{ st' with bits:=U l })|(.bad c,st')=>(.bad c,st'):=rfl
  have hb:=tX x.c.ask 0 ⟨b,V,dt⟩;rw [z];generalize cZ x.c.ask 0 ⟨b,V,dt⟩=p at *;obtain ⟨c0,st'⟩:=p
  cases c0 with
  | ok l=>
   have b0:=q l st' rfl;have j:=ae b0
   go_enter func96,ntmps96
   go_wp2_with fail
   (refine C.mono ?_)
   rintro e E ⟨i,v,A,u,rfl,f⟩;unfold fJ at f;obtain ⟨r,t,rfl⟩:=aC f;rw [j.out] at f ⊢;have y:ag E (pt x.k (Y (x.cells (R V 0 0) st'.dt) 149 (0,0))*(bs 5 (R r 480 t) l*(cG x.c i x.b st'.b*(ak i*F)))):=f.to (by unfold bp;ac_rfl);have f2:=y.frozen 2;have P:=y.setCell 2 (R r 480 t);have g2:=y.cell 2
   go_wp2_with fail
   go_ret
   exact ⟨i,_,A,u.setCell _ _,rfl,j.out,by unfold bp;exact P.to (by unfold Wk.cells;ac_rfl)⟩
  | bad c=>
   go_enter func96,ntmps96
   go_wp2_with fail
   (refine C.mono ?_)
   rintro e E ⟨i,A,u,rfl,f⟩
   go_wp2_with fail
   refine ⟨rfl,i,A,u,rfl,ag.iK (R V 0 0) ?_⟩;rw [hb];exact (ag.Da f).to (by ac_rfl)
 .have z:kq x.c.ask ⟨b,U l,dt⟩=(.ok l,⟨b,U l,dt⟩):=rfl
  rw [z];obtain ⟨r,t,rfl⟩:=aC d
  obtain ⟨g,rfl⟩:∃ g,r=U g:=by
   rcases d.de with ⟨_,h0,_⟩|⟨g,d0,e0,he,_⟩
   .omega
   .cases he;exact ⟨_,rfl⟩
  have j:=ae q;rw [q] at d K;have hq:=fun w=>Lib.run_eql_slice_nil (P:=Q) w 37 5 (U g) 480 t 0 0 underlying37
  go_enter func96,ntmps96
  go_wp2_with fail
  go_ret
  exact ⟨S,_,Ext.refl S,aj.refl w,rfl,j.out,d.to (by ac_rfl)⟩
theorem yM (x:Wk σ) (hc:x.c.Ok) (w:O) (S:Hp) (st:eZ σ) (id:Nat) (t:Bool) (F:ai) (b0:id<3840) (h:ag w (aM x S st*(ak S*F))) :
  Calls Q 87 #[X (U ⟨x.k,0,V⟩),Z G (id:Int),I t] w (WQ x lM S F w (fz x.c.ask id t st)):=by
 have q:=tj x hc w S st F h;obtain ⟨⟨d0,st'⟩,u⟩:∃ p,kq x.c.ask st=p:=⟨_,rfl⟩
 rw [u] at q
 cases d0 with
 | ok l=>
  have j:fz x.c.ask id t st=xS id t l st':=WM.bd u;rw [j]
  go_enter func87,ntmps87
  go_wp2_with fail
  (refine q.mono ?_)
  rintro e A ⟨d,v,o,g,rfl,r,f⟩;have hs:=ss A v l (bp x v d st'*(ak d*F)) (f.to (by ac_rfl)) r id b0 t;have c0:=aC (f.ah);obtain ⟨y,z,rfl⟩:=c0;have B:=ae r;rw [r] at hs f ⊢
  go_wp2_with fail
  (refine hs.mono ?_)
  rintro e w2 ⟨rfl,E,C⟩;have i:ag w2 (pt x.k (Y (x.cells (R y 480 z) st'.dt) 149 (0,0))*(cG x.c d x.b st'.b*(bs 5 (R y 480 z) (ea l id t)*(ak d*F)))):=E.to (by unfold bp;ac_rfl);have f3:=i.frozen 3;have g3:=i.cell 3;have K:=i.setCell 3 (I J)
  go_wp2_with fail
  go_end0
  refine ⟨d,_,o,(g.trans C).setCell _ _,rfl,ag.au.2 ⟨rfl,ag.iK (R y 480 z) ?_⟩⟩;have P:=ag.oV (l:=ea l id t) (by rw [eN];exact B.out) K.aq;exact P.to (by unfold bp Wk.cells;simp only [S3,K3,T3];ac_rfl)
 | bad c=>
  have j:fz x.c.ask id t st=(.bad c,st'):=WM.bK u;rw [j]
  go_enter func87,ntmps87
  go_wp2_with fail
  (refine q.mono ?_)
  rintro e A ⟨d,o,g,rfl,f⟩
  go_wp2_with fail
  exact ⟨rfl,d,o,g,rfl,f⟩
theorem bitsLen {w:O} {x:Wk σ} {st:eZ σ} {F:ai} (h:ag w (aM x S st*F)):∀ l,st.bits=U l->l.length=480:=by
 intro l e;obtain ⟨v,f⟩:=ag.eY h;rcases ag.ny (f.to (by ac_rfl:_=bW st.bits v*(bp x v S st*F))) with ⟨d,_⟩|⟨i,d,g,_⟩
 .rw [e] at d;cases d
 .rw [e] at d;cases d;exact g
def QR (v:M) (l:List UInt8) (F:ai) (w:O):Option Nat->Ending->O->Prop
 | none,e,d=>e = L (H #[Z G 0,I N])/\ag d (bs 5 v l*F)/\aj w d
 | some n,e,d=>e = L (H #[Z G (n:Int),I J])/\ag d (bs 5 v (ea l n J)*F)/\aj w d
theorem F6 (w:O) (v:M) (l:List UInt8) (F:ai) (h:ag w (bs 5 v l*F)) (j:l.length=480) (e:Nat) (i:e<=3840) :
  Calls Q 168 #[v,Z G (e:Int)] w (QR v l F w (eK l e)):=by
 refine Jd w v l F h j e i _ (fun d o f g=>?_) (fun n d o f g=>?_)
 .rw [d];exact ⟨rfl,f,g⟩
 .rw [d];exact ⟨rfl,f,g⟩
def Ia (a:Nat) (v:M):ai:=fact (v = Z G (a:Int))
theorem mQ (x:Wk σ) (hc:x.c.Ok) (hn:x.n<=3840) (w:World) (S:Hp) (st:eZ σ) (F:ai) (h:ag w (aM x S st*(ak S*F))) :
  Calls prog 122 #[.pointer (some ⟨x.k,0,none⟩)] w (WQ x Ia S F w (ic x.c.ask x.n st)):=by
 have hb:=fun (w:World) h=>tj x hc w S st F h;obtain ⟨v0,h1⟩:=ag.eY h;have c1:=(h1.to (by unfold bp;ac_rfl:_=pt x.k (.cells (x.cells v0 st.dt) 149 (0,0))*(cG x.c S x.b st.b*(bW st.bits v0*(ak S*F))))).cell 1;obtain ⟨⟨r,st'⟩,hp⟩:∃ p,kq x.c.ask st=p:=⟨_,rfl⟩
 rw [hp] at hb
 cases r with
 | ok l=>
  have hE:ic x.c.ask x.n st=qS x.n l st':=WM.bd hp;have Hst:=Jm hp (bitsLen h);rw [hE];unfold qS;have ht:=fun w v F h hl=>F6 w v l F h hl x.n hn;obtain ⟨o,ho⟩:∃ o,eK l x.n=o:=⟨_,rfl⟩
  rw [ho];rw [ho] at ht
  cases o with
  | some n=>
   go_enter func122,ntmps122
   go_wp2_with fail
   go_region_held3 (fun w'=>w'.cell? ⟨x.k,1,none⟩=some (.int .i64 (x.n:Int)))
    (first|exact c1|exact k1|exact k2|go_keep)
    (first
     | (go_at_call 96;refine (hb w.drew h.drew).mono ?_;rintro e w1 ⟨S',v,hS,d1,rfl,hl,h2⟩;have k1:w1.cell? ⟨x.k,1,none⟩=some (.int .i64 (x.n:Int)):=(h2.to (by unfold bp;ac_rfl:_=pt x.k (.cells (x.cells v st'.dt) 149 (0,0))*(cG x.c S' x.b st'.b*(bs 5 v l*(ak S'*F))))).cell 1)
     | (go_at_call 168;refine (ht w1 v (bp x v S' st'*(ak S'*F)) (h2.to (by ac_rfl)) hl).mono ?_;rintro e w2 ⟨rfl,h3,d2⟩;have k2:w2.cell? ⟨x.k,1,none⟩=some (.int .i64 (x.n:Int)):=(h3.to (by unfold bp;ac_rfl:_=pt x.k (.cells (x.cells v st'.dt) 149 (0,0))*(cG x.c S' x.b st'.b*(bs 5 v (ea l n true)*(ak S'*F))))).cell 1))
   have h4:ag w2 (pt x.k (.cells (x.cells v st'.dt) 149 (0,0))*(cG x.c S' x.b st'.b*(bs 5 v (ea l n true)*(ak S'*F)))):=h3.to (by unfold bp;ac_rfl);have f3:=h4.frozen 3;have g3:=h4.cell 3;have h5:=h4.setCell 3 (.bool true);have Hl:=ae hl
   go_wp2_with fail
   go_ret
   refine ⟨S',_,hS,(((aj.refl w).drew.trans d1).trans d2).setCell _ _,rfl,ag.au.2 ⟨rfl,ag.iK v ?_⟩⟩;have h6:=ag.oV (l:=ea l n true) (by rw [eN];exact Hl.out) h5.aq;exact h6.to (by unfold bp Wk.cells;simp only [S3,K3,T3];ac_rfl)
  | none=>
   go_enter func122,ntmps122
   go_wp2_with fail
   go_region_held3 (fun w'=>w'.cell? ⟨x.k,1,none⟩=some (.int .i64 (x.n:Int)))
    (first|exact c1|exact k1|exact k2|go_keep)
    (first
     | (go_at_call 96;refine (hb w.drew h.drew).mono ?_;rintro e w1 ⟨S',v,hS,d1,rfl,hl,h2⟩;have k1:w1.cell? ⟨x.k,1,none⟩=some (.int .i64 (x.n:Int)):=(h2.to (by unfold bp;ac_rfl:_=pt x.k (.cells (x.cells v st'.dt) 149 (0,0))*(cG x.c S' x.b st'.b*(bs 5 v l*(ak S'*F))))).cell 1)
     | (go_at_call 168;refine (ht w1 v (bp x v S' st'*(ak S'*F)) (h2.to (by ac_rfl)) hl).mono ?_;rintro e w2 ⟨rfl,h3,d2⟩;have k2:w2.cell? ⟨x.k,1,none⟩=some (.int .i64 (x.n:Int)):=(h3.to (by unfold bp;ac_rfl:_=pt x.k (.cells (x.cells v st'.dt) 149 (0,0))*(cG x.c S' x.b st'.b*(bs 5 v (l)*(ak S'*F))))).cell 1))
   have Hl:=ae hl
   go_wp2_with fail
   (refine (fj w2 7 (by decide)).mono ?_)
   rintro e w3 ⟨rfl,rfl⟩
   go_wp2_with fail
   refine ⟨rfl,S',hS,((aj.refl w).drew.trans d1).trans d2,rfl,ag.iK v ?_⟩;obtain ⟨h8,_⟩:=Hst;rw [h8];exact (ag.oV Hl.out h3).to (by ac_rfl)
 | bad c=>
  have hE:ic x.c.ask x.n st=(.bad c,st'):=WM.bK hp;rw [hE]
  go_enter func122,ntmps122
  go_wp2_with fail
  refine wp_region_held_drew (S:=(fun w'=>w'.cell? ⟨x.k,1,none⟩=some (.int .i64 (x.n:Int)))) (by kernel_rfl) ?_ (fun hHeld=>?_)
  ·(first|exact c1|go_keep)
  refine tk 0 ?_;refine tk 2 ?_;refine tk 3 ?_;refine tk 4 ?_;refine tk 5 ?_;refine tr 1 fun K hK=>?_
  go_simp
  go_wp2_with (go_at_call 96;refine (hb w.drew h.drew).mono ?_;rintro e w1 ⟨S',hS,d1,rfl,h2⟩)
  exact ⟨rfl,S',hS,(aj.refl w).drew.trans d1,rfl,h2⟩
end
end Go.Proofs.Fs
namespace Go.SL
open Go.RowKit
structure Hd where
 id:Nat
 n:Nd
 row:List Int
def Hd.l (h:Hd):List Int:=(h.id:Int) :: (h.n.l++h.row)
def Hd.fit (h:Hd):Prop:=h.n.dr.length=16/\h.row.length=240
def Hd.bk (h:Hd) (i:Nat):Int:=if i<16 then h.n.dr.getD i 0 else h.row.getD (i-16) 0
def Hd.put (h:Hd) (i:Nat) (b:Int):Hd:=if i<16 then { h with n:={ h.n with dr:=h.n.dr.set i b } } else { h with row:=h.row.set (i-16) b }
theorem Hd.Dp {h:Hd} (d:h.fit) (i:Nat) (b:Int):(h.put i b).fit:=by
 unfold Hd.put;split
 .exact ⟨by simpa using d.1,d.2⟩
 .exact ⟨d.1,by simpa using d.2⟩
theorem Hd.sA {h:Hd} (d:h.fit):h.l.length=261:=by
 simp [Hd.l,Nd.cells d.1,d.2]
theorem Hd.RN {h:Hd} (f:h.fit) {i:Nat} (d:i<16):h.l.getD (4+i) 0=h.bk i:=by
 have e:h.l=(h.id:Int) :: h.n.kd :: h.n.lk :: h.n.sz :: (h.n.dr++([h.n.rw]++h.row)):=by simp [Hd.l,Nd.l]
 unfold Hd.bk;rw [if_pos d,e,U3 4 i];simp only [J3,B3];rw [L3 (by rw [f.1];exact d)]
theorem Hd.QM {h:Hd} (d:h.fit) {i:Nat} (f:16<=i):h.l.getD (21+(i-16)) 0=h.bk i:=by
 have e:h.l=((h.id:Int) :: h.n.l)++h.row:=rfl;unfold Hd.bk;rw [if_neg (by omega),e,J3,J3,V3 (by simp [Nd.cells d.1])];simp [Nd.cells d.1]
theorem Hd.Q2 {h:Hd} (d:h.fit) {i:Nat} (b:Int):(h.put i b).l=h.l.set (if i<16 then 4+i else 21+(i-16)) b:=by
 unfold Hd.put
 split
 .rename_i f
  have e:h.l=(h.id:Int) :: h.n.kd :: h.n.lk :: h.n.sz :: (h.n.dr++([h.n.rw]++h.row)):=by simp [Hd.l,Nd.l]
  rw [e,U3 4 i];simp only [K3];rw [List.set_append,if_pos (by rw [d.1];exact f)];simp [Hd.l,Nd.l]
 .rename_i f
  have e:h.l=((h.id:Int) :: h.n.l)++h.row:=rfl;have g:((h.id:Int) :: h.n.l).length=21:=by simp [Nd.cells d.1]
  rw [e,List.set_append,g,if_neg (by omega),show 21+(i-16)-21=i-16 by omega]
  rfl
section
variable {σ:Type}
def eo (n:Nat) (l:List Int):WM σ Unit:=fun st=>(if l.all (fun x=>decide (x<n))=J then .ok () else .bad 4,st)
end
end Go.SL
namespace Go.Proofs.Fs
open Go.RowKit Go.SL Go.Proofs.Ba
def aY (d:Nat) (h:Hd):ai:=fact h.fit*pt d (Y (ints h.l) 137 (0,0))
theorem ag.held {w:O} {e:Nat} {h:Hd} {F:ai}:ag w (aY e h*F)↔h.fit/\ag w (pt e (Y (ints h.l) 137 (0,0))*F):=by
 constructor
 .intro d;exact ag.au.1 (d.to (ax _ _ _))
 .intro d;exact (ag.au.2 d).to (ax _ _ _).symm
def Mt (n:Nat) (l:List Int) (w:O) (u:M) (wr:O):Prop:=
 ∃ k:Nat,k<=l.length/\u = Z G (k:Int)/\(∀ j,j<k->l.getD j 0<n)/\w=wr
theorem iH (w:O) (k n:Nat) (v:M) (l:List Int) (hl:l.length<=1000) (B:nM w v l) (h1:w.cell? ⟨k,1,V⟩=U (Z G (n:Int)))
  (q:Ending->O->Prop) (S:l.all (fun x=>decide (x<n))=J->q (L (H #[])) w) (P:l.all (fun x=>decide (x<n))=N->q (.panicked (Gf 4)) w) :
  Calls Q 144 #[X (U ⟨k,0,V⟩),v] w q:=by
 have E:=ae S;have C:=ae P;have b0:(l.length:Int)<=1000:=by omega
 have z:=fun j (d:j<l.length)=>B.RH d;obtain ⟨va,vc,rfl⟩:=B.Cc;obtain ⟨m,hm⟩:∃ m,l.length=m:=⟨_,rfl⟩
 rw [hm] at b0 z ⊢;have f:=ae hm;clear hm hl
 go_enter func144,ntmps144
 go_wp2_with fail
 go_loopw [8] (fun u wr=>Mt n l w u wr) (fun u _=>m-(intOf u).toNat)
 case atStart=>exact ⟨0,Nat.zero_le _,rfl,fun j d=>absurd d (M2 _),rfl⟩
 case round=>
  obtain ⟨j,d,rfl,y,rfl⟩:=hrel;rw [f.out] at d
  by_cases A:j<m
  .have h0:(j:Int)<(m:Int):=by omega
   obtain ⟨g0,k0,c,e,hc⟩:=z j A;obtain ⟨rfl,-,rfl⟩:=e;have i0:l.getD j 0 ∈ l:=by rw [J3,X3 (by rw [f.out];exact A)];exact List.getElem_mem _
   by_cases t:l.getD j 0<n
   .have d0:∀ i,i<j+1->l.getD i 0<n:=fun i g=>by
     rcases Nat.lt_or_eq_of_le (Nat.le_of_lt_succ g) with r|r
     .exact y i r
     .rw [r];exact t
    have K:=ae d0;have e0:¬ ((n:Int)<=l.getD j 0):=by omega
    go_wp2_with fail
    go_roundw
    case rel=>exact ⟨j+1,by rw [f.out];omega,by go_num,K.out,rfl⟩
    case measure=>simp [intOf];omega
   .have e0:(n:Int)<=l.getD j 0:=by omega
    have c0:l.all (fun x=>decide (x<n))=N:=by grind
    have o:=ae (C.out c0)
    go_wp2_with fail
    (refine (fj _ 4 (by decide)).mono ?_)
    rintro e w2 ⟨rfl,rfl⟩
    go_wp2_with fail
    exact ⟨rfl,o.out⟩
  .obtain rfl:j=m:=by omega
   have f0:l.all (fun x=>decide (x<n))=J:=by
    rw [List.all_eq_true];intro x t;obtain ⟨i,g,rfl⟩:=List.getElem_of_mem t;have:=y i (by rw [<- f.out];exact g);rw [J3,X3 g] at this;simpa using this
   have o:=ae (E.out f0)
   go_wp2_with fail
   go_end0
   exact o.out
def Pu (z:Int) (w:O) (e:Ending) (d:O):Prop:=e = L (Z G z)/\w=d
theorem zn (w:O) (d:Nat) (h:Hd) (F:ai) (hs:ag w (aY d h*F)) (i:Nat) (r:i<256) :
  Calls Q 86 #[X (U ⟨d,0,V⟩),Z G (i:Int)] w (Pu (h.bk i) w):=by
 obtain ⟨f,o⟩:=ag.held.1 hs
 have g:∀ j,j<261->w.cell? ⟨d,j,V⟩=U (Z G (h.l.getD j 0)):=fun j q=>by
  rw [o.cell,bD (by rw [Hd.sA f];exact q)]
 by_cases l:i<16
 .have e:=g (4+i) (by omega)
  rw [Hd.RN f l] at e
  go_enter func86,ntmps86
  go_wp2_with fail
  go_ret
  exact ⟨rfl,rfl⟩
 .have e:=g (21+(i-16)) (by omega)
  rw [Hd.QM f (by omega)] at e
  go_enter func86,ntmps86
  go_wp2_with fail
  go_ret
  exact ⟨rfl,rfl⟩
def PU (f:Nat) (h:Hd) (F:ai) (w:O) (e:Ending) (d:O):Prop:=e = L (H #[])/\ag d (aY f h*F)/\aj w d
theorem tl (w:O) (d:Nat) (h:Hd) (F:ai) (hs:ag w (aY d h*F)) (i:Nat) (z:i<256) (b:Int) :
  Calls Q 149 #[X (U ⟨d,0,V⟩),Z G (i:Int),Z G b] w (PU d (h.put i b) F w):=by
 obtain ⟨l,e⟩:=ag.held.1 hs
 have r:∀ j,j<261->w.cell? ⟨d,j,V⟩=U (Z G (h.l.getD j 0)):=fun j x=>by
  rw [e.cell,bD (by rw [Hd.sA l];exact x)]
 have u:∀ j,ag (w.setCell ⟨d,j,V⟩ (Z G b)) (pt d (Y (ints (h.l.set j b)) 137 (0,0))*F):=fun j=>by
  have:=e.setCell j (Z G b)
  rwa [fX] at this
 have f:=Hd.Q2 l (i:=i) b;have t:=Hd.Dp l i b
 by_cases q:i<16
 .have v:=r (4+i) (by omega)
  have y:=e.frozen (4+i);rw [if_pos q] at f;have o:=ag.held.2 ⟨t,by rw [f];exact u (4+i)⟩;have g:=ae o
  go_enter func149,ntmps149
  go_wp2_with fail
  go_end0
  exact ⟨rfl,g.out,(aj.refl w).setCell _ _⟩
 .have v:=r (21+(i-16)) (by omega)
  have y:=e.frozen (21+(i-16));rw [if_neg q] at f;have o:=ag.held.2 ⟨t,by rw [f];exact u _⟩;have g:=ae o
  go_enter func149,ntmps149
  go_wp2_with fail
  go_end0
  exact ⟨rfl,g.out,(aj.refl w).setCell _ _⟩
end Go.Proofs.Fs
namespace Go.SL
open Go.RowKit
def jE (d:List UInt8):Nd × Int:=if ((gM d).ok && (d.drop 41).all (· == 0))=J then (gM d,0) else (⟨0,0,0,J2 16 0,0⟩,4)
def kG (d:List UInt8):List Int × Int:=if (bC d 0 240).all cS=J then (bC d 0 240,0) else (J2 240 0,4)
theorem DJ (d:List UInt8):(jE d).1.dr.length=16:=by
 unfold jE;split
 .exact bh _ _ _
 .rfl
theorem yP (d:List UInt8):(kG d).1.length=240:=by
 unfold kG;split
 .exact bh _ _ _
 .rfl
theorem PJ (d:List UInt8):(jE d).2=0\/(jE d).2=4:=by unfold jE;split;exact .inl rfl;exact .inr rfl
theorem OK (d:List UInt8):(kG d).2=0\/(kG d).2=4:=by unfold kG;split;exact .inl rfl;exact .inr rfl
section
variable {σ:Type}
def ik (n:Nat) (id:Nat) (d:Nd) (row:List Int):WM σ Hd:=WM.bind (eo n d.dr) fun _=>WM.bind (eo n row) fun _=>WM.pure ⟨id,d,row⟩
def OI (p:Nd × Int) (k:Nd->WM σ Hd):WM σ Hd:=fun st=>if p.2=0 then k p.1 st else (.bad p.2,st)
def JN (p:List Int × Int) (k:List Int->WM σ Hd):WM σ Hd:=fun st=>if p.2=0 then k p.1 st else (.bad p.2,st)
def jX (ask:dD σ) (n:Nat) (id:Nat) (d:Nd):WM σ Hd:=fun st=>
 if d.rw=0 then ik n id d (J2 240 0) st
 else (WM.bind (eo n [d.rw]) fun _=>WM.bind (cZ ask d.rw) fun e=>JN (kG e) (ik n id d)) st
def gR (ask:dD σ) (n:Nat) (id:Int):WM σ Hd:=fun st=>
 if 1<=id/\id<n then (WM.bind (cZ ask id) fun d=>OI (jE d) (jX ask n id.toNat)) st else (.bad 1,st)
end
end Go.SL
namespace Go.Proofs.Fs
open Go.RowKit Go.SL Go.Proofs.Ba
theorem yB (d e f x y z A B C E K g i j l o q r t u v:Int):prog.built 137 [(0,Z G d),(1,.agg #[Z G e,Z G f,Z G x,Z G y,Z G z,Z G A,Z G B,Z G C,Z G E,Z G K,Z G g,Z G i,Z G j,Z G l,Z G o,Z G q,Z G r,Z G t,Z G u,Z G v])]=U (ints ([d,e,f,x,y,z,A,B,C,E,K,g,i,j,l,o,q,r,t,u,v]++J2 240 0)):=by kernel_rfl
theorem OW {l:List Int} (h:l.length=16):∃ a0 d q a3 a4 a5 r t u a9 e f g i j o,l=[a0,d,q,a3,a4,a5,r,t,u,a9,e,f,g,i,j,o]:=by
 match l,h with
 | [a0,d,q,a3,a4,a5,r,t,u,a9,e,f,g,i,j,o],_=>exact ⟨a0,d,q,a3,a4,a5,r,t,u,a9,e,f,g,i,j,o,rfl⟩
theorem n7 (d:Int) (n:Nd) (h:n.dr.length=16):prog.built 137 [(0,Z G d),(1,.agg (n.l.map (E2 G)).toArray)]=U (ints (d :: (n.l++J2 240 0))):=by
 obtain ⟨v,x,y,dr,rw⟩:=n;obtain ⟨a0,e,q,a3,a4,a5,r,t,u,a9,f,g,i,j,l,o,rfl⟩:=OW h;exact yB d v x y a0 e q a3 a4 a5 r t u a9 f g i j l o rw
theorem gn {P:Program} {f:Array Oper} {rest:List Oper} {o:Oper} {a:Act} {w:O} {d:Exit->Act->O->Prop} (j:o.guard=V) (t:TypeId) (parts:Array (Nat × Operand)) (r:o.op = .build t parts)
  (l:List (Nat × M)) (q:parts.toList.map (fun p=>(p.1,a.eval p.2))=l) (C:Array M) (g:P.built t l=U C) (h:wpList P f d rest (a.put o.dst (.agg C)) w):wpList P f d (o :: rest) a w:=by
 have e:P.built t (parts.map fun (i,x)=>(i,a.eval x)).toList=U C:=by rw [Array.toList_map];exact q▸g
 exact wpList_build j t parts r (by rw [e];rfl) (by rw [e];exact h)
def Qz (d:List UInt8) (w:O) (e:Ending) (f:O):Prop:=e = L (H #[(jE d).1.v,Z G (jE d).2])/\ag f (whole w)/\aj w f
def Nh (d:List UInt8) (w:O) (e:Ending) (f:O):Prop:=e = L (H #[.agg (ints (kG d).1),Z G (kG d).2])/\ag f (whole w)/\aj w f
theorem Ld (w:O) (v:M) (d:List UInt8) (o:Rd w v d) (l:d.length=480):Calls Q 141 #[v] w (Qz d w):=by
 refine oe w v d o l _ (fun f j q g i=>?_) (fun f q g i=>?_)
 .have e:jE d=(gM d,0):=if_pos (by rw [f,j];rfl)
  exact ⟨by rw [e],g,i⟩
 .have e:jE d=(⟨0,0,0,J2 16 0,0⟩,4):=if_neg (by rcases f with h|h <;> rw [h] <;> simp)
  exact ⟨by rw [e];rfl,g,i⟩
theorem GC (w:O) (v:M) (d:List UInt8) (l:Rd w v d) (j:d.length=480):Calls Q 145 #[v] w (Nh d w):=by
 refine vf w v d l j _ (fun f o g i=>?_) (fun f o g i=>?_)
 .have e:kG d=(bC d 0 240,0):=if_pos f
  exact ⟨by rw [e],g,i⟩
 .have e:kG d=(J2 240 0,4):=if_neg (by rw [f];simp)
  exact ⟨by rw [e];rfl,g,i⟩
section
variable {σ α:Type}
theorem xQ {w:O} {x:Wk σ} {S:Hp} {st:eZ σ} {F:ai} (h:ag w (aM x S st*F)):w.cell? ⟨x.k,1,V⟩=U (Z G (x.n:Int)):=by
 obtain ⟨v,d⟩:=ag.eY h;exact (d.to (by unfold bp;ac_rfl:_=pt x.k (Y (x.cells v st.dt) 149 (0,0))*(cG x.c S x.b st.b*(bW st.bits v*F)))).cell 1
def rK (h:Hd) (v:M):ai:=ex fun d=>fact (v=ay d)*aY d h
theorem Gq {ask:dD σ} {n:Nat} {id:Int} {st:eZ σ} (h:¬ (1<=id/\id<n)):gR ask n id st=(.bad 1,st):=if_neg h
theorem Ew {ask:dD σ} {n:Nat} {id:Int} {st d:eZ σ} {c:Int} (h:1<=id/\id<n) (e:cZ ask id st=(.bad c,d)):gR ask n id st=(.bad c,d):=
 (if_pos h).trans (WM.bK e)
theorem Fv {ask:dD σ} {n:Nat} {id:Int} {st e:eZ σ} {d:List UInt8} {nd:Nd} (h:1<=id/\id<n) (g:cZ ask id st=(.ok d,e)) (f:jE d=(nd,4)):gR ask n id st=(.bad 4,e):=by
 refine ((if_pos h).trans (WM.bd g)).trans ?_;rw [f];exact if_neg (show ¬ (4:Int)=0 by decide)
theorem KF {ask:dD σ} {n:Nat} {id:Int} {st e:eZ σ} {d:List UInt8} {nd:Nd} (h:1<=id/\id<n) (g:cZ ask id st=(.ok d,e)) (f:jE d=(nd,0)):gR ask n id st=jX ask n id.toNat nd e:=by
 refine ((if_pos h).trans (WM.bd g)).trans ?_;rw [f];exact if_pos rfl
theorem gF {n:Nat} {l:List Int} {st:eZ σ} (h:l.all (fun x=>decide (x<n))=J):eo n l st=(.ok (),st):=by unfold eo;rw [if_pos h]
theorem oj {n:Nat} {l:List Int} {st:eZ σ} (h:l.all (fun x=>decide (x<n))=N):eo n l st=(.bad 4,st):=by unfold eo;rw [if_neg (by rw [h];simp)]
theorem wu {n id:Nat} {nd:Nd} {row:List Int} {st:eZ σ} (d:nd.dr.all (fun x=>decide (x<n))=J) (e:row.all (fun x=>decide (x<n))=J):ik n id nd row st=(.ok ⟨id,nd,row⟩,st):=
 (WM.bd (gF d)).trans (WM.bd (gF e))
theorem th {n id:Nat} {nd:Nd} {row:List Int} {st:eZ σ} (d:nd.dr.all (fun x=>decide (x<n))=J) (e:row.all (fun x=>decide (x<n))=N):ik n id nd row st=(.bad 4,st):=
 (WM.bd (gF d)).trans (WM.bK (oj e))
theorem sU {n id:Nat} {nd:Nd} {row:List Int} {st:eZ σ} (d:nd.dr.all (fun x=>decide (x<n))=N):ik n id nd row st=(.bad 4,st):=
 WM.bK (oj d)
theorem JB {ask:dD σ} {n id:Nat} {nd:Nd} {st:eZ σ} (h:nd.rw=0):jX ask n id nd st=ik n id nd (J2 240 0) st:=if_pos h
theorem KS {ask:dD σ} {n id:Nat} {nd:Nd} {st:eZ σ} (h:nd.rw≠0) (d:[nd.rw].all (fun x=>decide (x<n))=N):jX ask n id nd st=(.bad 4,st):=
 (if_neg h).trans (WM.bK (oj d))
theorem Ir {ask:dD σ} {n id:Nat} {nd:Nd} {st d:eZ σ} {c:Int} (h:nd.rw≠0) (e:[nd.rw].all (fun x=>decide (x<n))=J) (f:cZ ask nd.rw st=(.bad c,d)):jX ask n id nd st=(.bad c,d):=
 (if_neg h).trans ((WM.bd (gF e)).trans (WM.bK f))
theorem Gm {ask:dD σ} {n id:Nat} {nd:Nd} {st e:eZ σ} {d:List UInt8} {row:List Int} (h:nd.rw≠0) (f:[nd.rw].all (fun x=>decide (x<n))=J) (g:cZ ask nd.rw st=(.ok d,e)) (i:kG d=(row,4)):jX ask n id nd st=(.bad 4,e):=by
 refine (if_neg h).trans ((WM.bd (gF f)).trans ((WM.bd g).trans ?_));rw [i];exact if_neg (show ¬ (4:Int)=0 by decide)
theorem JP {ask:dD σ} {n id:Nat} {nd:Nd} {st e:eZ σ} {d:List UInt8} {row:List Int} (h:nd.rw≠0) (f:[nd.rw].all (fun x=>decide (x<n))=J) (g:cZ ask nd.rw st=(.ok d,e)) (i:kG d=(row,0)):jX ask n id nd st=ik n id nd row e:=by
 refine (if_neg h).trans ((WM.bd (gF f)).trans ((WM.bd g).trans ?_));rw [i];exact if_pos rfl
theorem zM (id:Int) (e z r:List Int) (d:e.length=20) (i:z.length=240) (f:r.length=240):fu (ints (id :: (e++z))) 21 (r.map (E2 G))=ints (id :: (e++r)):=by
 have o:(ints (id :: (e++z))).size=261:=by rw [dz];simp [d,i]
 apply Array.ext_getElem?;intro k;rw [ij _ _ _ _ (by rw [N2,f,o];decide),N2,f,dw,dw]
 by_cases g:21<=k/\k<21+240
 .rw [if_pos g,P3]
  obtain ⟨j,rfl⟩:∃ j,k=j+1:=⟨k-1,by omega⟩
  rw [B3,V3 (by omega),d];congr 2
 .rw [if_neg g]
  rcases Nat.lt_or_ge k 21 with l|l
  .cases k with
   | zero=>rfl
   | succ j=>rw [B3,B3,L3 (by omega),L3 (by omega)]
  .rw [Y3 (by simp [d,i];omega),Y3 (by simp [d,f];omega)]
theorem tJ (x:Wk σ) (hc:x.c.Ok) (w:O) (c0:Hp) (st:eZ σ) (id:Int) (F:ai) (h:ag w (aM x c0 st*(ak c0*F))) (q:Ending->O->Prop)
  (hQ:∀ e w',WQ x rK c0 F w (gR x.c.ask x.n id st) e w'->q e w') :
  Calls Q 82 #[X (U ⟨x.k,0,V⟩),Z G id] w q:=by
 have y:=xQ h
 by_cases l0:1<=id/\id<x.n
 .have P:=mP x hc w c0 st id F h
  have Hid:=ae l0;obtain ⟨i1,i2⟩:=l0;clear h;obtain ⟨⟨X1,aQ⟩,hp⟩:∃ p,cZ x.c.ask id st=p:=⟨_,rfl⟩
  rw [hp] at P
  cases X1 with
  | bad c=>
   have o:=ae hQ;have Hp:=ae (Ew Hid.out hp);clear hp hQ
   go_enter func82,ntmps82
   go_wp2_with fail
   (with_reducible refine (gW w).mono ?_)
   rintro e S ⟨rfl,rfl⟩
   go_wp2_with fail
   (with_reducible refine P.mono ?_)
   rintro e w1 ⟨S',hS,d1,rfl,h2⟩
   go_wp2_with fail
   exact ⟨rfl,o.out _ _ (by rw [Hp.out];exact ⟨S',hS,d1,rfl,h2⟩)⟩
  | ok G0=>
   have hL:=iZ hp;have f:=ae (DJ G0);have y1:=PJ G0;have A:=fun w1 v1 P=>Ld w1 v1 G0 P hL;unfold Qz at A;have o:=ae hQ;have l1:=fun d=>KF (nd:=d) Hid.out hp;have i0:=fun d=>Fv (nd:=d) Hid.out hp;generalize jE G0=p at *;obtain ⟨d,c⟩:=p;dsimp only at y1 f A;have S0:=ae (l1 d);have f0:=ae (i0 d);have L1:d.v = .agg (d.l.map (E2 G)).toArray:=rfl;rw [L1] at A;clear hp hQ l1 i0 hL L1
   go_enter func82,ntmps82
   go_wp2_with fail
   (with_reducible refine (gW w).mono ?_)
   rintro e S ⟨rfl,rfl⟩
   go_wp2_with fail
   (with_reducible refine P.mono ?_)
   rintro e w1 ⟨t,v1,K,d1,rfl,h1⟩;have yo:=A w1 v1 h1.nH;have Hk:=ae (fun w' (h:ag w' (whole w1))=>ag.dU h h1);clear P y A
   go_wp2_with fail
   (with_reducible refine yo.mono ?_)
   rintro e S ⟨rfl,h2,d2⟩;have H2:=(Hk.out S h2).right;have D2:=d1.trans d2;clear yo Hk h1 h2 d1 d2;have hZ:=H2.alloc (Y #[Z G 0,Z G 0,Z G 0,Z G 0,Z G 0,Z G 0,Z G 0,Z G 0,Z G 0,Z G 0,Z G 0,Z G 0,Z G 0,Z G 0,Z G 0,Z G 0,Z G 0,Z G 0,Z G 0,Z G 0] 73 (0,0));have DZ:=D2.alloc (Y #[Z G 0,Z G 0,Z G 0,Z G 0,Z G 0,Z G 0,Z G 0,Z G 0,Z G 0,Z G 0,Z G 0,Z G 0,Z G 0,Z G 0,Z G 0,Z G 0,Z G 0,Z G 0,Z G 0,Z G 0] 73 (0,0));have f1:(d.l.map (E2 G)).toArray.size=20:=by simp [Nd.cells f.out]
   have u1:(d.l.map (E2 G)).toArray.all (·.oneCell')=J:=by simp [Q3]
   have H1:(prog.info? 73).map (·.size)=U (d.l.map (E2 G)).toArray.size:=by rw [f1];exact bf
   have O1:=ae f1;have R1:=ae u1;have U1:=ae H1;have B:=hZ.setRow (cs':=(d.l.map (E2 G)).toArray);have j1:=ae (DZ.setRow S.heap.size (d.l.map (E2 G)).toArray);have Hz:=ae hZ.heap;clear f1 u1 H1 H2 D2 DZ hZ
   go_wp2_with (refine wpList_store_row (by exact rfl) 73 (.tmp 5) (.tmp 24) (by exact rfl) S.heap.size (d.l.map (E2 G)).toArray (by exact rfl) (by exact rfl) 73 _ (by with_reducible exact Hz.out) U1.out (by rw [O1.out];rfl) R1.out ?_)
   generalize S.heap.size=i at *;generalize World.setRow _ _ _=l at *;clear Hz;rcases y1 with rfl|rfl
   .have C:=ae (S0.out rfl)
    clear S0 f0;have e1:=n7 id d f.out;obtain ⟨g,N0⟩:∃ V1,V1=J2 240 (0:Int):=⟨_,rfl⟩
    rw [<- N0] at e1;have r:RowKit.Hid (g.length=240):=by show g.length=240;rw [N0];rfl
    have M1:=ae N0;clear N0;have u0:=ae e1
    have E1:l.rangeAt i 0 (d.l.map (E2 G)):=fun Z1 v hv=>by
     rw [Nat.zero_add,B.cell,List.getElem?_toArray];exact hv
    have q1:(prog.info? 73).map (·.size)=U (d.l.map (E2 G)).length:=by rw [N2,Nd.cells f.out];exact bf
    have F0:=ae E1;have x0:=ae q1;clear e1 E1 q1;have c4:l.cell? ⟨i,19,V⟩=U (Z G d.rw):=(B.cell 19).trans (Nd.DR f.out);have T1:=ae B;have s1:i<l.heap.size:=B.lt;clear B;have L0:ag (l.alloc (Y (ints (id :: (d.l++g))) 137 (0,0))) (pt l.heap.size (Y (ints (id :: (d.l++g))) 137 (0,0))*(pt i (Y (d.l.map (E2 G)).toArray 73 (0,0))*(aM x t aQ*(ak t*F)))):=T1.out.alloc _;have D0:=ae (j1.out.alloc (Y (ints (id :: (d.l++g))) 137 (0,0)));have U0:=ae L0;have t1:l.heap.size<(l.alloc (Y (ints (id :: (d.l++g))) 137 (0,0))).heap.size:=L0.lt;have b1:(l.alloc (Y (ints (id :: (d.l++g))) 137 (0,0))).cell? ⟨i,19,V⟩=U (Z G d.rw):=(L0.ah.cell 19).trans (Nd.DR f.out);clear L0
    (with_reducible refine (jw _).mono ?_)
    rintro e w4 ⟨rfl,rfl⟩
    by_cases d0:d.rw=0
    .have e0:=ae ((JB (ask:=x.c.ask) (n:=x.n) (id:=id.toNat) (st:=aQ) d0).trans (by rw [<- M1.out]))
     rw [d0] at c4 b1
     go_wp2_with (first
      | (refine wpList_load_mid (by exact rfl) 73 (.tmp 5) (by exact rfl) i 0 (by exact rfl) (d.l.map (E2 G)) _ (by with_reducible exact F0.out) underlying73 rfl (by with_reducible exact x0.out) ?_)
      | (refine gn (by exact rfl) 137 #[(0,.tmp 28),(1,.tmp 29)] (by exact rfl) _ (by exact rfl) _ (by exact u0.out) ?_))
     have z:=U0.out;generalize l.alloc (Y (ints (id :: (d.l++g))) 137 (0,0))=w5 at *;generalize l.heap.size=j at *;clear c4 b1 F0 x0 s1 t1 u0
     have o0:nM w5 (R (U ⟨i,3,V⟩) 16 16) d.dr:=by
      have h9:ag w5 (pt i (Y (ints d.l) 73 (0,0))*_):=z.ah;have:=nM.row h9 3 16 (by rw [Nd.cells f.out];decide) (by decide)
      rwa [Nd.kD f.out] at this
     have p0:nM w5 (R (U ⟨j,21,V⟩) 240 240) g:=by
      have:=nM.row z 21 240 (by rw [K2,W3,Nd.cells f.out,r.out];decide) (by decide)
      rwa [show ((id :: (d.l++g)).drop 21).take 240=g from by rw [Z3,List.drop_left' (Nd.cells f.out),J4 (by rw [r.out];decide)]] at this
     have y:w5.cell? ⟨x.k,1,V⟩=U (Z G (x.n:Int)):=xQ z.right.right;have hA:∀ q,_->_->Calls Q 144 #[X (U ⟨x.k,0,V⟩),R (U ⟨i,3,V⟩) 16 16] w5 q:=iH w5 x.k x.n _ d.dr (by rw [f.out];decide) o0 y;have E:∀ q,_->_->Calls Q 144 #[X (U ⟨x.k,0,V⟩),R (U ⟨j,21,V⟩) 240 240] w5 q:=iH w5 x.k x.n _ g (by rw [r.out];decide) p0 y;have HT:=ae z;clear o0 p0 y z
     go_wp2_with fail
     refine hA _ (fun q0=>?_) (fun m0=>?_)
     .have h0:=ae q0
      clear q0 hA
      go_wp2_with fail
      refine E _ (fun r0=>?_) (fun n0=>?_)
      .have a1:=ae r0
       clear r0 E
       go_wp2_with fail
       refine o.out _ _ ?_;rw [C.out.trans (e0.out.trans (wu h0.out a1.out))];refine ⟨t,_,K,D0.out,rfl,?_⟩;refine ag.aw.2 ⟨j,(ag.au.2 ⟨rfl,ag.held.2 ⟨⟨f.out,r.out⟩,?_⟩⟩:ag _ (fact _*_)).to (ax _ _ _).symm⟩;have e:(Hd.l ⟨id.toNat,d,g⟩)=id :: (d.l++g):=by show ((id.toNat:Int) :: _)=_;rw [Int.toNat_of_nonneg (by omega)]
       rw [e];exact (HT.out.to (by ac_rfl:_=pt i (Y (d.l.map (E2 G)).toArray 73 (0,0))*(pt j (Y (ints (id :: (d.l++g))) 137 (0,0))*(aM x t aQ*(ak t*F))))).right
      .have X0:=ae n0
       clear n0 E
       go_wp2_with fail
       exact ⟨rfl,o.out _ _ (by rw [C.out.trans (e0.out.trans (th h0.out X0.out))];exact ⟨t,K,D0.out,rfl,HT.out.right.right⟩)⟩
     .have W0:=ae m0
      clear m0 hA E
      go_wp2_with fail
      exact ⟨rfl,o.out _ _ (by rw [C.out.trans (e0.out.trans (sU W0.out))];exact ⟨t,K,D0.out,rfl,HT.out.right.right⟩)⟩
    .have Y1:(d.rw != 0)=J:=by simpa using d0
     have Y0:=ae d0;have e0:=ae (KS (ask:=x.c.ask) (n:=x.n) (id:=id.toNat) (st:=aQ) d0);have k0:=U0.out.alloc (Y #[Z G d.rw] 3 (0,0));have D1:=ae (D0.out.alloc (Y #[Z G d.rw] 3 (0,0)));have V0:=ae k0
     have z1:nM ((l.alloc (Y (ints (id :: (d.l++g))) 137 (0,0))).alloc (Y #[Z G d.rw] 3 (0,0))) (R (U ⟨l.heap.size+1,0,V⟩) 1 1) [d.rw]:=by
      have h8:=k0;rw [G3] at h8;exact nM.row (xs:=[d.rw]) h8 0 1 (Nat.le_refl _) (by decide)
     have y:=xQ k0.right.right.right;have hC:∀ q,_->_->Calls Q 144 #[X (U ⟨x.k,0,V⟩),R (U ⟨l.heap.size+1,0,V⟩) 1 1] _ q:=iH _ x.k x.n _ [d.rw] (by show 1<=1000;decide) z1 y;have W1:=(k0.aq.cell 19).trans (Nd.DR f.out);clear k0 z1 y d0
     go_wp2_with (first
      | (refine wpList_load_mid (by exact rfl) 73 (.tmp 5) (by exact rfl) i 0 (by exact rfl) (d.l.map (E2 G)) _ (by with_reducible exact F0.out) underlying73 rfl (by with_reducible exact x0.out) ?_)
      | (refine gn (by exact rfl) 137 #[(0,.tmp 28),(1,.tmp 29)] (by exact rfl) _ (by exact rfl) _ (by exact u0.out) ?_))
     refine hC _ (fun hy=>?_) (fun hn=>?_)
     .have Hy:=ae hy
      have R0:=mP x hc _ t aQ d.rw _ (V0.out.right.to (by ac_rfl:_=aM x t aQ*(ak t*(pt l.heap.size (Y (ints (id :: (d.l++g))) 137 (0,0))*(pt i (Y (d.l.map (E2 G)).toArray 73 (0,0))*F)))));clear hy hC;generalize l.alloc (Y (ints (id :: (d.l++g))) 137 (0,0))=w4 at *;generalize l.heap.size=j at *;clear c4 b1 F0 x0 s1 t1 u0 U0;obtain ⟨⟨r2,g1⟩,b0⟩:∃ p,cZ x.c.ask d.rw aQ=p:=⟨_,rfl⟩
      rw [b0] at R0
      cases r2 with
      | bad c=>
       have T0:=ae (Ir (id:=id.toNat) Y0.out Hy.out b0);clear b0
       go_wp2_with fail
       (with_reducible refine R0.mono ?_)
       rintro e w6 ⟨u,H0,d6,rfl,h6⟩
       go_wp2_with fail
       exact ⟨rfl,o.out _ _ (by rw [C.out.trans T0.out];exact ⟨u,K.trans H0,D1.out.trans d6,rfl,h6.to (by ac_rfl:_=(aM x u g1*(ak u*F))*(pt j (Y (ints (id :: (d.l++g))) 137 (0,0))*pt i (Y (d.l.map (E2 G)).toArray 73 (0,0)))) |>.left⟩)⟩
      | ok L2=>
       have n1:=iZ b0;have m1:=fun row=>Gm (row:=row) (id:=id.toNat) Y0.out Hy.out b0;have i0:=fun row=>JP (row:=row) (id:=id.toNat) Y0.out Hy.out b0;have A:=fun w1 v1 P=>GC w1 v1 L2 P n1;have c1:=yP L2;have A1:=OK L2;unfold Nh at A;generalize kG L2=p at *;obtain ⟨row,c⟩:=p;dsimp only at A c1 A1;have T0:=ae (m1 row);have f0:=ae (i0 row);have s0:=ae c1;clear m1 i0 b0 n1 c1
       go_wp2_with fail
       (with_reducible refine R0.mono ?_)
       rintro e w6 ⟨u,v2,H0,d6,rfl,h6⟩;have o1:=A w6 v2 h6.nH;have Hk:=ae (fun w' (h:ag w' (whole w6))=>ag.dU h h6);clear R0 A
       go_wp2_with fail
       (with_reducible refine o1.mono ?_)
       rintro e w7 ⟨rfl,h7,d7⟩;have h8:ag w7 (pt j (Y (ints (id :: (d.l++g))) 137 (0,0))*(pt i (Y (d.l.map (E2 G)).toArray 73 (0,0))*(aM x u g1*(ak u*F)))):=(Hk.out w7 h7).right.to (by ac_rfl);have D8:=ae (aj.setCells (row.map (E2 G)) 21 j ((D1.out.trans d6).trans d7));have K0:=K.trans H0;have B:=ag.setCells (row.map (E2 G)) 21 h8;rw [zM id d.l g row (Nd.cells f.out) r.out s0.out] at B
       have K1:w7.there j 21 (row.map (E2 G)).toArray.size:=by
        have hz:(row.map (E2 G)).toArray.size=240:=by simp [s0.out]
        rw [hz];exact ag.there h8 (by rw [dz,K2,W3,Nd.cells f.out,r.out];decide)
       have p1:(prog.info? 135).map (·.size)=U (row.map (E2 G)).toArray.size:=by
        have hz:(row.map (E2 G)).toArray.size=240:=by simp [s0.out]
        rw [hz];exact kF
       have x1:(row.map (E2 G)).toArray.all (·.oneCell')=J:=by simp [Q3]
       have r1:Value.agg (ints row) = .agg (row.map (E2 G)).toArray:=rfl;have k1:=ae K1;have N1:=ae p1;have S1:=ae x1;have Z0:=ae B;rw [r1];clear o1 Hk h6 h7 d6 d7 h8 K1 p1 x1 r1 B V0 D1 K H0 W1
       go_wp2_with (refine wpList_store_mid (by exact rfl) 135 (.tmp 50) (.tmp 47) (by exact rfl) j 21 (row.map (E2 G)).toArray (by exact rfl) (by exact rfl) (by with_reducible exact k1.out) N1.out S1.out ?_)
       rcases A1 with rfl|rfl
       .have g0:=ae (C.out.trans (f0.out rfl))
        (with_reducible refine (jw _).mono ?_)
        rintro e w9 ⟨rfl,rfl⟩;have z:ag (w7.setCells j 21 (row.map (E2 G)).toArray.toList) _:=Z0.out;clear r;have r:=s0;have DD:RowKit.Hid (aj w (w7.setCells j 21 (row.map (E2 G)).toArray.toList)):=D8;clear k1 Z0 D8;generalize w7.setCells j 21 (row.map (E2 G)).toArray.toList=w8 at *
        have o0:nM w8 (R (U ⟨i,3,V⟩) 16 16) d.dr:=by
         have h9:ag w8 (pt i (Y (ints d.l) 73 (0,0))*_):=z.ah;have:=nM.row h9 3 16 (by rw [Nd.cells f.out];decide) (by decide)
         rwa [Nd.kD f.out] at this
        have p0:nM w8 (R (U ⟨j,21,V⟩) 240 240) row:=by
         have:=nM.row z 21 240 (by rw [K2,W3,Nd.cells f.out,r.out];decide) (by decide)
         rwa [show ((id :: (d.l++row)).drop 21).take 240=row from by rw [Z3,List.drop_left' (Nd.cells f.out),J4 (by rw [r.out];decide)]] at this
        have y:w8.cell? ⟨x.k,1,V⟩=U (Z G (x.n:Int)):=xQ z.right.right;have hA:∀ q,_->_->Calls Q 144 #[X (U ⟨x.k,0,V⟩),R (U ⟨i,3,V⟩) 16 16] w8 q:=iH w8 x.k x.n _ d.dr (by rw [f.out];decide) o0 y;have E:∀ q,_->_->Calls Q 144 #[X (U ⟨x.k,0,V⟩),R (U ⟨j,21,V⟩) 240 240] w8 q:=iH w8 x.k x.n _ row (by rw [r.out];decide) p0 y;have HT:=ae z;clear o0 p0 y z
        go_wp2_with fail
        refine hA _ (fun q0=>?_) (fun m0=>?_)
        .have h0:=ae q0
         clear q0 hA
         go_wp2_with fail
         refine E _ (fun r0=>?_) (fun n0=>?_)
         .have a1:=ae r0
          clear r0 E
          go_wp2_with fail
          refine o.out _ _ ?_;rw [g0.out.trans (wu h0.out a1.out)];refine ⟨u,_,K0,DD.out,rfl,?_⟩;refine ag.aw.2 ⟨j,(ag.au.2 ⟨rfl,ag.held.2 ⟨⟨f.out,r.out⟩,?_⟩⟩:ag _ (fact _*_)).to (ax _ _ _).symm⟩;have e:(Hd.l ⟨id.toNat,d,row⟩)=id :: (d.l++row):=by show ((id.toNat:Int) :: _)=_;rw [Int.toNat_of_nonneg (by omega)]
          rw [e];exact (HT.out.to (by ac_rfl:_=pt i (Y (d.l.map (E2 G)).toArray 73 (0,0))*(pt j (Y (ints (id :: (d.l++row))) 137 (0,0))*(aM x u g1*(ak u*F))))).right
         .have X0:=ae n0
          clear n0 E
          go_wp2_with fail
          exact ⟨rfl,o.out _ _ (by rw [g0.out.trans (th h0.out X0.out)];exact ⟨u,K0,DD.out,rfl,HT.out.right.right⟩)⟩
        .have W0:=ae m0
         clear m0 hA E
         go_wp2_with fail
         exact ⟨rfl,o.out _ _ (by rw [g0.out.trans (sU W0.out)];exact ⟨u,K0,DD.out,rfl,HT.out.right.right⟩)⟩
       .have g0:=ae (C.out.trans (T0.out rfl))
        (with_reducible refine (fj _ 4 (by decide)).mono ?_)
        rintro e w9 ⟨rfl,rfl⟩
        go_wp2_with fail
        exact ⟨rfl,o.out _ _ (by rw [g0.out];exact ⟨u,K0,D8.out,rfl,Z0.out.right.right⟩)⟩
     .have Hn:=ae hn
      clear hn hC
      go_wp2_with fail
      exact ⟨rfl,o.out _ _ (by rw [C.out.trans (e0.out Hn.out)];exact ⟨t,K,D1.out,rfl,V0.out.right.right.right⟩)⟩
   .have C:=ae (f0.out rfl)
    clear S0 f0
    (with_reducible refine (fj _ 4 (by decide)).mono ?_)
    rintro e w4 ⟨rfl,rfl⟩
    go_wp2_with fail
    exact ⟨rfl,o.out _ _ (by rw [C.out];exact ⟨t,K,j1.out,rfl,B.right⟩)⟩
 .have Hp:=ae (Gq (ask:=x.c.ask) (st:=st) l0)
  have o:=ae hQ;have HL:=ae (show q (.panicked (Gf 1)) w from hQ _ _ (by rw [Hp.out];exact ⟨c0,Ext.refl c0,aj.refl w,rfl,h⟩));clear hQ
  by_cases h1:1<=id
  .have h2:decide (id<(x.n:Int))=N:=decide_eq_false (by omega)
   clear l0
   go_enter func82,ntmps82
   go_wp2_with fail
   (with_reducible refine (iB w).mono ?_)
   rintro e S ⟨rfl,rfl⟩
   go_wp2_with fail
   exact ⟨rfl,HL.out⟩
  .have h2:id<1:=by omega
   clear l0
   go_enter func82,ntmps82
   go_wp2_with fail
   (with_reducible refine (iB w).mono ?_)
   rintro e S ⟨rfl,rfl⟩
   go_wp2_with fail
   exact ⟨rfl,HL.out⟩
end
end Go.Proofs.Fs
namespace Go.SL
open Go.RowKit
section
variable {σ:Type}
def IY (h:Hd):WM σ Unit:=fun st=>
 if h.n.rw=0 then (.ok (),st) else if h.row.all cS=J then bO h.n.rw (ja h.row) st else (.bad 1,st)
def dZ (h:Hd):WM σ Unit:=fun st=>
 if h.n.ok=J then (WM.bind (bO (h.id:Int) (ie h.n)) fun _=>IY h) st else (.bad 1,st)
theorem G9 {h:Hd} {st:eZ σ} (d:h.n.ok=N):dZ h st=(.bad 1,st):=if_neg (by rw [d];decide)
theorem F8 {h:Hd} {st aQ:eZ σ} {c:Int} (d:h.n.ok=J) (e:bO (h.id:Int) (ie h.n) st=(.bad c,aQ)):dZ h st=(.bad c,aQ):=(if_pos d).trans (WM.bK e)
theorem M5 {h:Hd} {st aQ:eZ σ} (d:h.n.ok=J) (e:bO (h.id:Int) (ie h.n) st=(.ok (),aQ)) (f:h.n.rw=0):dZ h st=(.ok (),aQ):=(if_pos d).trans ((WM.bd e).trans (if_pos f))
theorem GO {h:Hd} {st aQ:eZ σ} (d:h.n.ok=J) (e:bO (h.id:Int) (ie h.n) st=(.ok (),aQ)) (f:h.n.rw≠0) (g:h.row.all cS=N):dZ h st=(.bad 1,aQ):=
 (if_pos d).trans ((WM.bd e).trans ((if_neg f).trans (if_neg (by rw [g];decide))))
theorem KR {h:Hd} {st aQ:eZ σ} (d:h.n.ok=J) (e:bO (h.id:Int) (ie h.n) st=(.ok (),aQ)) (f:h.n.rw≠0) (g:h.row.all cS=J):dZ h st=bO h.n.rw (ja h.row) aQ:=
 (if_pos d).trans ((WM.bd e).trans ((if_neg f).trans (if_pos g)))
end
end Go.SL
namespace Go.Proofs.Fs
open Go.RowKit Go.SL Go.Proofs.Ba
section
variable {σ α:Type}
theorem qo {w:O} {d:Nat} {h:Hd} {F:ai} (f:h.fit) (hs:ag w (pt d (Y (ints h.l) 137 (0,0))*F)):w.rangeAt d 1 (h.n.l.map (E2 G)):=fun j v e=>by
 rw [hs.cell,dw,<- P3,U3];show (List.map (E2 G) ((h.id:Int) :: (h.n.l++h.row)))[j+1]?=U v
 rw [List.map_cons,B3,List.map_append,L3 (List.getElem?_eq_some_iff.1 e).1];exact e
theorem Ih {w:O} {d:Nat} {h:Hd} {F:ai} (e:h.fit) (hs:ag w (pt d (Y (ints h.l) 137 (0,0))*F)):w.rangeAt d 21 (h.row.map (E2 G)):=fun j v f=>by
 rw [hs.cell,dw,<- P3,show 21+j=(20+j)+1 by omega];show (List.map (E2 G) ((h.id:Int) :: (h.n.l++h.row)))[20+j+1]?=U v
 rw [List.map_cons,B3,List.map_append,V3 (by rw [N2,Nd.cells e.1];omega),N2,Nd.cells e.1,Nat.add_sub_cancel_left];exact f
theorem xU {w:O} {d:Nat} {h:Hd} {F:ai} (e:h.fit) (hs:ag w (pt d (Y (ints h.l) 137 (0,0))*F)):w.cell? ⟨d,20,V⟩=U (Z G h.n.rw):=by
 have:=qo e hs 19 (Z G h.n.rw) (by
  have:=Nd.DR e.1
  rwa [dw,<- P3] at this)
 exact this
theorem MC {w:O} {d:Nat} {h:Hd} {F:ai} (hs:ag w (pt d (Y (ints h.l) 137 (0,0))*F)):w.cell? ⟨d,0,V⟩=U (Z G (h.id:Int)):=hs.cell 0
theorem yF (x:Wk σ) (w:O) (S:Hp) (st:eZ σ) (i:Nat) (h:Hd) (F:ai) (hs:ag w (aY i h*(aM x S st*(ak S*F)))) (m0:Ending->O->Prop)
  (hQ:∀ e w',WQ x lM S (aY i h*F) w (dZ h st) e w'->m0 e w') :
  Calls Q 84 #[X (U ⟨x.k,0,V⟩),X (U ⟨i,0,V⟩)] w m0:=by
 obtain ⟨g,h0⟩:=ag.held.1 hs;have t:=ae hQ;have Hf:=ae g;have z:=ae (qo g h0);have r0:(prog.info? 73).map (·.size)=U (h.n.l.map (E2 G)).length:=by rw [N2,Nd.cells g.1];exact bf
 have k0:=ae r0;have o0:h.n.v = .agg (h.n.l.map (E2 G)).toArray:=rfl;have Hs:=ae hs
 cases q:h.n.ok with
 | false=>
  have f:=qe w h.n g.1 q;rw [o0] at f;have j:=ae (G9 (st:=st) q)
  go_enter func84,ntmps84
  go_wp2_with (refine wpList_load_mid (by exact rfl) 73 (.tmp 9) (by exact rfl) i 1 (by exact rfl) (h.n.l.map (E2 G)) _ (by with_reducible exact z.out) underlying73 rfl (by with_reducible exact k0.out) ?_)
  (refine f.mono ?_)
  rintro e w2 ⟨rfl,h2,E⟩;have v:=h2.dU Hs.out
  go_wp2_with fail
  (refine (fj _ 1 (by decide)).mono ?_)
  rintro e u ⟨rfl,rfl⟩
  go_wp2_with fail
  exact ⟨rfl,t.out _ _ (by rw [j.out];exact ⟨S,Ext.refl S,E,rfl,v.to (by ac_rfl)⟩)⟩
 | true=>
  have f:=lq w h.n g.1 q;have D0:=fun d c=>F8 (h:=h) (st:=st) (aQ:=d) (c:=c) q;have F0:=fun d=>M5 (h:=h) (st:=st) (aQ:=d) q;have G0:=fun d=>GO (h:=h) (st:=st) (aQ:=d) q;have H0:=fun d=>KR (h:=h) (st:=st) (aQ:=d) q;rw [o0] at f;have p0:=ae D0;have b0:=ae F0;have d0:=ae G0;have e0:=ae H0
  go_enter func84,ntmps84
  go_wp2_with (refine wpList_load_mid (by exact rfl) 73 (.tmp 9) (by exact rfl) i 1 (by exact rfl) (h.n.l.map (E2 G)) _ (by with_reducible exact z.out) underlying73 rfl (by with_reducible exact k0.out) ?_)
  (refine f.mono ?_)
  rintro e w2 ⟨v2,rfl,h2,E⟩;have v:=h2.under Hs.out;have u0:=v.nH;have H3:=v.right.to (by ac_rfl:_=aM x S st*(ak S*(aY i h*F)));have c0:=MC (ag.held.1 v.right).2;have r:=oq x w2 S st (h.id:Int) _ (ie h.n) _ H3 u0;obtain ⟨⟨g0,d⟩,o⟩:∃ p,bO (h.id:Int) (ie h.n) st=p:=⟨_,rfl⟩
  rw [o] at r
  go_wp2_with fail
  (refine (jw _).mono ?_)
  rintro e u ⟨rfl,rfl⟩
  cases g0 with
  | bad c=>
   have j:=ae (p0.out _ _ o)
   go_wp2_with fail
   (refine r.mono ?_)
   rintro e u ⟨l,hS,d3,rfl,h3⟩
   go_wp2_with fail
   exact ⟨rfl,t.out _ _ (by rw [j.out];exact ⟨l,hS,E.trans d3,rfl,h3⟩)⟩
  | ok K0=>
   have b0:=ae (b0.out _ o);have d0:=ae (d0.out _ o);have e0:=ae (e0.out _ o)
   go_wp2_with fail
   (with_reducible refine r.mono ?_)
   rintro e u ⟨l,v3,hS,d3,rfl,h3⟩;obtain ⟨rfl,h4⟩:=ag.au.1 h3;have h5:ag u (aY i h*(aM x l d*(ak l*F))):=h4.to (by ac_rfl);obtain ⟨g,h6⟩:=ag.held.1 h5;have q0:=xU g h6;have B:=ae (E.trans d3);have C:=ae hS
   by_cases A:h.n.rw=0
   .have j:=ae (b0.out A)
    have H4:=ae h4;rw [A] at q0
    go_wp2_with fail
    go_end0
    refine t.out _ _ ?_;rw [j.out];exact ⟨l,_,C.out,B.out,rfl,ag.au.2 ⟨rfl,H4.out⟩⟩
   .have N0:(h.n.rw != 0)=J:=by simpa using A
    have z:=ae (Ih g h6);have s0:(prog.info? 135).map (·.size)=U (h.row.map (E2 G)).length:=by rw [N2,g.2];exact kF
    have l0:=ae s0;have n0:Value.agg (ints h.row) = .agg (h.row.map (E2 G)).toArray:=rfl;have H5:=ae h5
    cases P:h.row.all cS with
    | false=>
     have j:=ae (d0.out A P);have f:=xJ u h.row g.2 P;rw [n0] at f
     go_wp2_with (refine wpList_load_mid (by exact rfl) 135 (.tmp 32) (by exact rfl) i 21 (by exact rfl) (h.row.map (E2 G)) _ (by with_reducible exact z.out) underlying135 rfl (by with_reducible exact l0.out) ?_)
     (with_reducible refine f.mono ?_)
     rintro e w4 ⟨rfl,h7,K⟩;have y:=h7.dU H5.out
     go_wp2_with fail
     (with_reducible refine (fj _ 1 (by decide)).mono ?_)
     rintro e w5 ⟨rfl,rfl⟩
     go_wp2_with fail
     exact ⟨rfl,t.out _ _ (by rw [j.out];exact ⟨l,C.out,B.out.trans K,rfl,y.to (by ac_rfl)⟩)⟩
    | true=>
     have j:=ae (e0.out A P);have f:=uY u h.row g.2 P;rw [n0] at f
     go_wp2_with (refine wpList_load_mid (by exact rfl) 135 (.tmp 32) (by exact rfl) i 21 (by exact rfl) (h.row.map (E2 G)) _ (by with_reducible exact z.out) underlying135 rfl (by with_reducible exact l0.out) ?_)
     (with_reducible refine f.mono ?_)
     rintro e w4 ⟨v4,rfl,h7,K⟩;have y:=h7.under H5.out;have x0:=y.nH;have L0:=xU Hf.out (ag.held.1 y.right).2;have r:=oq x w4 l d h.n.rw _ (ja h.row) _ (y.right.to (by ac_rfl:_=aM x l d*(ak l*(aY i h*F)))) x0;obtain ⟨⟨g0,R0⟩,o⟩:∃ p,bO h.n.rw (ja h.row) d=p:=⟨_,rfl⟩
     rw [o] at r;have i0:=ae (j.out.trans o)
     go_wp2_with fail
     (with_reducible refine (jw _).mono ?_)
     rintro e w5 ⟨rfl,rfl⟩
     cases g0 with
     | bad c=>
      go_wp2_with fail
      (with_reducible refine r.mono ?_)
      rintro e w5 ⟨S2,f0,d5,rfl,h8⟩
      go_wp2_with fail
      exact ⟨rfl,t.out _ _ (by rw [i0.out];exact ⟨S2,C.out.trans f0,(B.out.trans K).trans d5,rfl,h8⟩)⟩
     | ok K0=>
      go_wp2_with fail
      (with_reducible refine r.mono ?_)
      rintro e w5 ⟨S2,v5,f0,d5,rfl,h8⟩;obtain ⟨rfl,h9⟩:=ag.au.1 h8
      go_wp2_with fail
      go_end0
      refine t.out _ _ ?_;rw [i0.out];exact ⟨S2,_,C.out.trans f0,(B.out.trans K).trans d5,rfl,ag.au.2 ⟨rfl,h9⟩⟩
end
end Go.Proofs.Fs
namespace Go.SL
open Go.RowKit
section
variable {σ α:Type}
def my:WM σ Unit:=fun st=>if st.dt=J then bO 0 (st.bits.getD []) st else (.ok (),st)
def Qm (d:ia σ):Rs α × eZ σ->Rs α × ia σ
 | (.ok a,st)=>(.ok a,st.b)
 | (.bad c,st)=>(.bad c,{ d with s:=st.b.s })
def eu (m:WM σ α) (d:ia σ):Rs α × ia σ:=Qm d ((WM.bind m fun a=>WM.bind my fun _=>WM.pure a) ⟨d,V,N⟩)
theorem kE {m:WM σ α} {d:ia σ} {st:eZ σ} {c:Int} (h:m ⟨d,V,N⟩=(.bad c,st)):eu m d=(.bad c,{ d with s:=st.b.s }):=by
 unfold eu;rw [WM.bK h];rfl
theorem mY {m:WM σ α} {d:ia σ} {st:eZ σ} {a:α} (h:m ⟨d,V,N⟩=(.ok a,st)) (f:st.dt=N):eu m d=(.ok a,st.b):=by
 have e:(WM.bind my fun _=>WM.pure a) st=(.ok a,st):=WM.bd (if_neg (by rw [f];decide));unfold eu;rw [WM.bd h,e];rfl
theorem oK {m:WM σ α} {d:ia σ} {st st':eZ σ} {a:α} (h:m ⟨d,V,N⟩=(.ok a,st)) (f:st.dt=J) (g:bO 0 (st.bits.getD []) st=(.ok (),st')):eu m d=(.ok a,st'.b):=by
 have e:(WM.bind my fun _=>WM.pure a) st=(.ok a,st'):=WM.bd ((if_pos f).trans g);unfold eu;rw [WM.bd h,e];rfl
theorem sf {m:WM σ α} {d:ia σ} {st st':eZ σ} {a:α} {c:Int} (h:m ⟨d,V,N⟩=(.ok a,st)) (f:st.dt=J) (g:bO 0 (st.bits.getD []) st=(.bad c,st')):eu m d=(.bad c,{ d with s:=st'.b.s }):=by
 have e:(WM.bind my fun _=>WM.pure a) st=(.bad c,st'):=WM.bK ((if_pos f).trans g);unfold eu;rw [WM.bd h,e];rfl
end
end Go.SL
namespace Go.Proofs.Fs
open Go.RowKit Go.SL Go.Proofs.Ba
variable {e v:M} {S:Hp}
theorem iU (v:M) (w:O):(Instr.typeAssert (.iface 219 v) 20 219 J).run Q w = .ok (H #[v,I J]) w:=by
 simp [Instr.typeAssert,run_underlying underlying219,go_sem,Result.andThen]
section
variable {σ α:Type}
theorem Jj (w:O) (g i:Addr) :
    CallsD Q 155 #[X (U g),X (U i)] .returning w fun e u j=>e = L (H #[])/\u = .returning/\w=j:=by
  refine callsD_of_wpS func155 rfl fun d l f=>?_;apply wpS_seq;refine wpS_of_wp ?_
  simp only [ntmps155,O2,K2,P2,R2,T2,U2,
     V2,W2,X2,Y2,Z2]
  go_wp2
  apply wpS_seq;apply wpS_region;simp [wpOpsS,go_sem,recoverD,f,Exit.thenS];refine wpS_of_wp ?_
  go_wp2
  cases d
  simp_all [bodyPostS,results,Tryz.results155]
theorem Jf (w:O) (d f:Addr) (c x y:Int) (g:List PanicEntry) (t:w.cell? d=U (Z G x)) (v:w.cell? f=U (Z G y)) (q:w.frozen? d=N) (r:w.frozen? f=N) (z:d≠f) :
    CallsD Q 155 #[X (U d),X (U f)] (.panicking ({ v:=.iface 219 (Z G c),recovered:=N } :: g)) w fun e u j=>
      e = L (H #[])/\u = .panicking ({ v:=.iface 219 (Z G c),recovered:=J } :: g)/\j=(w.setCell d (Z G 0)).setCell f (Z G c):=by
  refine callsD_of_wpS func155 rfl fun o l i=>?_;apply wpS_seq;refine wpS_of_wp ?_
  simp only [ntmps155,O2,K2,P2,R2,T2,U2,
     V2,W2,X2,Y2,Z2]
  go_wp2
  apply wpS_seq;apply wpS_region;simp [wpOpsS,go_sem,recoverD,i,Exit.thenS];refine wpS_of_wp ?_;have A:=iU (Z G c)
  go_wp2
  exact ⟨rfl,_,rfl,_,results_none rfl _ _ _,rfl,rfl,rfl⟩
def yI (c:Cx σ) (i:Nat) (zero:M) (j:α->M->ai) (S:Hp) (F:ai) (w:O):Rs α × ia σ->Ending->O->Prop
 | (.ok a,g),e,f=>∃ d v,Ext S d/\aj w f/\e = L (H #[v,Z G 0])/\ag f (j a v*(cG c d i g*(ak d*F)))
 | (.bad n,g),e,f=>∃ d,Ext S d/\aj w f/\e = L (H #[zero,Z G n])/\ag f (cG c d i g*(ak d*F))
def Em (c:Cx σ) (n:Nat) (g:FuncId) (f:Array M) (e:α->M->ai) (d:ai) (m:WM σ α):Prop:=
 ∀ (x:Wk σ) (w:O) (S:Hp) (st:eZ σ) (F:ai),x.c=c->x.n=n->ag w (aM x S st*(ak S*(d*F)))->Calls Q g (#[X (U ⟨x.k,0,V⟩)]++f) w (WQ x e S (d*F) w (m st))
def gq (d n:Nat):M:=.agg #[X (U ⟨d,0,V⟩),Z G (n:Int)]
theorem oY {w:O} {d:Array M} {a b:Nat} (f:d[4]?=U (ay a)) (g:d[5]?=U (ay b)) (i:w.cell? ⟨a,0,V⟩=U v) (j:w.cell? ⟨b,0,V⟩=U e) :
  (results Tryz.f93 d).run Q w = .ok (H #[v,e]) w:=by
 simp [results,Tryz.results93,f,g,go_sem,i,j]
theorem sr {w:O} {x:Wk σ} {st:eZ σ} {F:ai} (h:ag w (aM x S st*F)):ag w (x.c.RI st.b.s*F):=by
 obtain ⟨v,d⟩:=ag.eY h;have e:ag w ((pt x.k (Y (x.cells v st.dt) 149 (0,0))*(aA 176 5 S x.b x.c.rd st.b.err st.b.W st.b.D*bW st.bits v))*(x.c.RI st.b.s*F)):=d.to (by unfold bp cG;ac_rfl);exact e.right
theorem mu {w:O} {c:Cx σ} {S e:Hp} {f:Nat} {d:ia σ} {s:σ} {F:ai} (g:Ext S e) (h:ag w (c.RI s*(aA 176 5 S f c.rd d.err d.W d.D*F))):ag w (cG c e f { d with s:=s }*F):=
 ((h.ah).fp (dK g)).to (by unfold cG;ac_rfl)
theorem sa {w:O} {c:Cx σ} {n k f:Nat} {d:ia σ} {F:ai} (h:ag w (pt k (Y #[X (U ⟨f,0,V⟩),Z G (n:Int),R V 0 0,I N] 149 (0,0))*(aA 176 5 S f c.rd d.err d.W d.D*(c.RI d.s*F)))) :
  ag w (aM (⟨c,n,k,f⟩:Wk σ) S ⟨d,V,N⟩*F):=
 ag.iK (R V 0 0) ((ag.Da h).to (by unfold bp cG Wk.cells;ac_rfl))
theorem wK {w:O} {i:Array M} {d f:Nat} {y z c:Int} {P:ai} {l:Ending->O->Prop} (o:i[4]?=U (ay d)) (q:i[5]?=U (ay f))
  (h:ag w (pt d (Y #[Z G y] 3 (0,0))*(pt f (Y #[Z G z] 28 (0,0))*P))) (hR:∀ j,ag j P->aj w j->l (L (H #[Z G 0,Z G c])) j) :
  bodyPostD Q Tryz.f93 l (Exit.panic (Gf c)) { tmps:=i,defers:=[{ target:=.fn (.func 155) #[X (U ⟨d,0,V⟩),X (U ⟨f,0,V⟩)],args:=#[] }] } w:=by
 have r:=ag.ne h;refine leaves_cons (f:=155) (args:=#[X (U ⟨d,0,V⟩),X (U ⟨f,0,V⟩)]) (by simp) (by simp [go_sem]) ?_;refine (Jf w ⟨d,0,V⟩ ⟨f,0,V⟩ c y z [] (h.cell 0) (h.ah.cell 0) (h.frozen 0) (h.ah.frozen 0) (by intro h;injection h with h;exact r h)).mono ?_;rintro e u t ⟨rfl,rfl,rfl⟩;have g:=((h.setCell 0 (Z G 0)).ah.setCell 0 (Z G c))
 exact ⟨_,oY o q (g.ah.cell 0) (g.cell 0),hR _ g.right.right (((aj.refl w).setCell _ _).setCell _ _)⟩
theorem vJ {w:O} {g:Array M} {d f:Nat} {i:Ending->O->Prop} (j:g[4]?=U (ay d)) (l:g[5]?=U (ay f))
  (o:w.cell? ⟨d,0,V⟩=U v) (q:w.cell? ⟨f,0,V⟩=U e) (hR:i (L (H #[v,e])) w) :
  bodyPostD Q Tryz.f93 i Exit.ret { tmps:=g,defers:=[{ target:=.fn (.func 155) #[X (U ⟨d,0,V⟩),X (U ⟨f,0,V⟩)],args:=#[] }] } w:=by
 refine leaves_cons (f:=155) (args:=#[X (U ⟨d,0,V⟩),X (U ⟨f,0,V⟩)]) (by simp) (by simp [go_sem]) ?_;refine (Jj w ⟨d,0,V⟩ ⟨f,0,V⟩).mono ?_;rintro r u t ⟨rfl,rfl,rfl⟩;exact ⟨_,oY j l o q,hR⟩
theorem xt {w:O} {o:Option (List UInt8)} {F:ai} (h:ag w (bW o v*F)):Rd w v (o.getD []):=by
 rcases ag.ny h with ⟨rfl,rfl,_⟩|⟨l,rfl,_,d⟩
 .exact ⟨rfl,.inl ⟨rfl,rfl⟩⟩
 .exact d.nH
theorem Gk (c:Cx σ) (hc:c.Ok) (n:Nat) (c1:4<=n) (e1:n<=3840) (jf:FuncId) (L0:Array M) (r:ai) (m:WM σ Nat)
  (jN:∀ (args:Array M) (w:O),(callFunc jf args).run Q w = .ok (.enter jf args) w) (hj:Em c n jf L0 Ia r m)
  (g:Nat) (d:ia σ) (w:O) (c0:Hp) (F:ai) (h:ag w (cG c c0 g d*(ak c0*(r*F)))) (K0:Ending->O->Prop)
  (hQ:∀ e B,yI c g (Z G 0) Ia c0 (r*F) w (eu m d) e B->K0 e B) :
  Calls Q 93 #[gq g n,.func (.func jf) #[] L0] w K0:=by
 have HQ:=ae hQ;clear hQ;have d1:¬ ((n:Int)<4):=by omega
 have f1:¬ ((n:Int) > 3840):=by omega
 have Hj:=ae hj;unfold gq
 go_enter_defers func93,ntmps93
 have H3:=((h.alloc (Y #[X (U ⟨g,0,V⟩),Z G (n:Int)] 83 (0,0))).alloc (Y #[Z G 0] 3 (0,0))).alloc (Y #[Z G 0] 28 (0,0));have D3:=(((aj.refl w).alloc (Y #[X (U ⟨g,0,V⟩),Z G (n:Int)] 83 (0,0))).alloc (Y #[Z G 0] 3 (0,0))).alloc (Y #[Z G 0] 28 (0,0));simp only [G3] at H3
 go_wp2_with fail
 generalize ((w.alloc (Y #[X (U ⟨g,0,V⟩),Z G (n:Int)] 83 (0,0))).alloc (Y #[Z G 0] 3 (0,0))).alloc (Y #[Z G 0] 28 (0,0))=w3 at H3 D3 ⊢;clear h;generalize w.heap.size+1+1=o at *;generalize w.heap.size+1=j at *;generalize w.heap.size=x at *;have s0:=H3.aq.cell 0;have s1:=H3.aq.cell 1;have q:ag w3 (aA 176 5 c0 g c.rd d.err d.W d.D*(ak c0*(c.RI d.s*(pt o (Y #[Z G 0] 28 (0,0))*(pt j (Y #[Z G 0] 3 (0,0))*(pt x (Y #[X (U ⟨g,0,V⟩),Z G (n:Int)] 83 (0,0))*(r*F))))))):=H3.to (by unfold cG;ac_rfl);have U0:=pP w3.drew c0 g c.rd d.err d.W d.D _ q.drew ⟨_,_,rfl⟩;have Y0:=ae U0;clear U0
 go_region_held3 (fun B=>B.cell? ⟨x,0,V⟩=U (X (U ⟨g,0,V⟩))/\B.cell? ⟨x,1,V⟩=U (Z G (n:Int)))
  (first|exact ⟨s0,s1⟩|exact l0|go_keep)
  (first|(go_at_call 135;refine (Y0.out).mono ?_;rintro e w4 ⟨A,f,q0,rfl,h4,d4⟩;have l0:w4.cell? ⟨x,0,V⟩=U (X (U ⟨g,0,V⟩))/\w4.cell? ⟨x,1,V⟩=U (Z G (n:Int)):=⟨h4.bP.cell 0,h4.bP.cell 1⟩))
 have D5:=(D3.drew.trans d4).alloc (Y #[X (U ⟨f,0,V⟩),Z G (n:Int),R V 0 0,I N] 149 (0,0));have H5:=h4.alloc (Y #[X (U ⟨f,0,V⟩),Z G (n:Int),R V 0 0,I N] 149 (0,0))
 have W0:ag (w4.alloc (Y #[X (U ⟨f,0,V⟩),Z G (n:Int),R V 0 0,I N] 149 (0,0))) (aM (⟨c,n,w4.heap.size,f⟩:Wk σ) A ⟨d,V,N⟩*(ak A*(r*(aA 176 5 A g c.rd d.err d.W d.D*(pt o (Y #[Z G 0] 28 (0,0))*(pt j (Y #[Z G 0] 3 (0,0))*(pt x (Y #[X (U ⟨g,0,V⟩),Z G (n:Int)] 83 (0,0))*F))))))):=
  sa (H5.to (by ac_rfl))
 have r0:=Hj.out ⟨c,n,w4.heap.size,f⟩ _ A ⟨d,V,N⟩ _ rfl rfl W0;rename_i R0;generalize w4.heap.size=k at *;obtain ⟨⟨x0,i⟩,hp⟩:∃ p,m ⟨d,V,N⟩=p:=⟨_,rfl⟩
 rw [hp] at r0
 cases x0 with
 | bad cN=>
  have HE:=ae (kE hp);clear hp
  go_wp2_with fail
  (with_reducible refine r0.mono ?_)
  rintro e w6 ⟨z,b0,d6,rfl,h6⟩;have h7:=sr h6
  have C:ag w6 (c.RI i.b.s*(aA 176 5 A g c.rd d.err d.W d.D*(pt o (Y #[Z G 0] 28 (0,0))*(pt j (Y #[Z G 0] 3 (0,0))*(ak z*(r*F)))))):=
   (h7.to (by ac_rfl:_=pt x (Y #[X (U ⟨g,0,V⟩),Z G (n:Int)] 83 (0,0))*(c.RI i.b.s*(aA 176 5 A g c.rd d.err d.W d.D*(pt o (Y #[Z G 0] 28 (0,0))*(pt j (Y #[Z G 0] 3 (0,0))*(ak z*(r*F)))))))).right
  have q:=mu b0 C;have v:ag w6 (pt j (Y #[Z G 0] 3 (0,0))*(pt o (Y #[Z G 0] 28 (0,0))*(cG c z g { d with s:=i.b.s }*(ak z*(r*F))))):=q.to (by ac_rfl)
  go_wp2_with fail
  exact wK rfl rfl v fun B d0 D0=>HQ.out _ _ (by rw [HE.out];exact ⟨z,q0.trans b0,(D5.trans d6).trans D0,rfl,d0⟩)
 | ok a=>
  go_wp2_with fail
  (with_reducible refine r0.mono ?_)
  rintro e w6 ⟨z,v6,b0,d6,rfl,h6⟩;obtain ⟨rfl,h7⟩:=ag.au.1 h6;obtain ⟨E,C⟩:=ag.eY h7;clear r0 h6 h7;have q:ag w6 (pt j (Y #[Z G 0] 3 (0,0))*(pt o (Y #[Z G 0] 28 (0,0))*(pt x (Y #[X (U ⟨g,0,V⟩),Z G (n:Int)] 83 (0,0))*(pt k (Y #[X (U ⟨f,0,V⟩),Z G (n:Int),E,I i.dt] 149 (0,0))*(cG c z f i.b*(bW i.bits E*(ak z*(aA 176 5 A g c.rd d.err d.W d.D*(r*F))))))))):=C.to (by unfold bp Wk.cells;ac_rfl);have c9:w6.cell? ⟨j,0,V⟩=U (Z G 0):=q.cell 0;have f9:w6.frozen? ⟨j,0,V⟩=N:=q.frozen 0;have v:=q.setCell 0 (Z G (a:Int));have m0:=(D5.trans d6).setCell ⟨j,0,V⟩ (Z G (a:Int));have k3:=v.aD.cell 3;clear C q D5 d6
  cases K:i.dt with
  | false=>
   have HE:=ae (mY hp K);rw [K] at k3 v;clear hp K
   go_wp2_with fail
   generalize w6.setCell ⟨j,0,V⟩ (Z G (a:Int))=w7 at *;have i0:ag w7 (aA 176 5 A g c.rd d.err d.W d.D*(aA 176 5 z f c.rd i.b.err i.b.W i.b.D*(ak z*(c.RI i.b.s*(pt j (Y #[Z G (a:Int)] 3 (0,0))*(pt o (Y #[Z G 0] 28 (0,0))*(pt x (Y #[X (U ⟨g,0,V⟩),Z G (n:Int)] 83 (0,0))*(pt k (Y #[X (U ⟨f,0,V⟩),Z G (n:Int),E,I N] 149 (0,0))*(bW i.bits E*(r*F)))))))))):=v.to (by unfold cG;ac_rfl);have P:=i0.fp (dK b0);have s0:=P.bP.cell 0;have k0:=P.dR.cell 0;have F0:=ae (iE w7.drew z g f c.rd c.rd i.b.err d.err i.b.W i.b.D d.W d.D _ P.drew ⟨_,_,rfl⟩);clear i0 P v
   go_region_held3 (fun B=>B.cell? ⟨x,0,V⟩=U (X (U ⟨g,0,V⟩))/\B.cell? ⟨k,0,V⟩=U (X (U ⟨f,0,V⟩)))
    (first|exact ⟨s0,k0⟩|exact l0|go_keep)
    (first|(go_at_call 138;refine (F0.out).mono ?_;rintro e y ⟨u,e0,rfl,C,S⟩;have l0:y.cell? ⟨x,0,V⟩=U (X (U ⟨g,0,V⟩))/\y.cell? ⟨k,0,V⟩=U (X (U ⟨f,0,V⟩)):=⟨C.bP.cell 0,C.dR.cell 0⟩))
   all_goals
    rename_i R0;have q:ag y (pt j (Y #[Z G (a:Int)] 3 (0,0))*(pt o (Y #[Z G 0] 28 (0,0))*((cG c u g i.b*(ak u*(r*F)))*(pt x (Y #[X (U ⟨g,0,V⟩),Z G (n:Int)] 83 (0,0))*(pt k (Y #[X (U ⟨f,0,V⟩),Z G (n:Int),E,I N] 149 (0,0))*(aA 176 5 u f c.rd i.b.err i.b.W i.b.D*bW i.bits E)))))):=C.to (by unfold cG;ac_rfl);have c9:=q.cell 0;have f9:y.frozen? ⟨j,0,V⟩=N:=q.frozen 0;have e9:y.cell? ⟨o,0,V⟩=U (Z G 0):=q.ah.cell 0;have g9:y.frozen? ⟨o,0,V⟩=N:=q.ah.frozen 0;have G0:¬ (j=o):=ag.ne q;have b1:¬ (o=j):=fun h=>G0 h.symm;have v:=((q.setCell 0 (Z G (a:Int))).ah.setCell 0 (Z G 0))
    have ca:=v.ah.cell 0;have ce:=v.cell 0;have D9:=(((m0).drew.trans S).setCell ⟨j,0,V⟩ (Z G (a:Int))).setCell ⟨o,0,V⟩ (Z G 0);have hF:ag _ ((cG c u g i.b*(ak u*(r*F)))):=v.right.right.left;have HD:=ae D9;have HF:=ae hF;have Ca:=ae ca;have Ce:=ae ce
    go_wp2_with fail
    exact vJ rfl rfl Ca.out Ce.out (HQ.out _ _ (by rw [HE.out];exact ⟨u,_,q0.trans (b0.trans e0),HD.out,rfl,ag.au.2 ⟨rfl,HF.out.to (by ac_rfl)⟩⟩))
  | true=>
   have g0:=fun st'=>oK (st':=st') hp K;have h0:=fun st' c=>sf (st':=st') (c:=c) hp K;have g0:=ae g0;have h0:=ae h0;rw [K] at k3 v;have k2:=v.aD.cell 2;have H0:=xt v.du
   have d0:ag (w6.setCell ⟨j,0,V⟩ (Z G (a:Int))) (bp (⟨c,n,k,f⟩:Wk σ) E z i*(ak z*(pt j (Y #[Z G (a:Int)] 3 (0,0))*(pt o (Y #[Z G 0] 28 (0,0))*(pt x (Y #[X (U ⟨g,0,V⟩),Z G (n:Int)] 83 (0,0))*(bW i.bits E*(aA 176 5 A g c.rd d.err d.W d.D*(r*F)))))))):=
    v.to (by unfold bp Wk.cells;rw [K];ac_rfl)
   have u0:=jq (⟨c,n,k,f⟩:Wk σ) _ E z i 0 E (i.bits.getD []) _ d0 H0
   obtain ⟨va,vl,vc,rfl⟩:∃ a l c,E = R a l c:=by
    obtain ⟨a,c,e⟩:=H0.shape;exact ⟨_,_,_,e⟩
   have S0:∀ st' x0,bO 0 (i.bits.getD []) i=(x0,st')->st'.dt=J:=fun st' x0 h=>by
    unfold bO at h
    split at h
    .simp only [Prod.mk.injEq] at h;rw [<- h.2];exact K
    .simp only [Prod.mk.injEq] at h;rw [<- h.2];exact K
   obtain ⟨⟨r2,t⟩,f0⟩:∃ p,bO 0 (i.bits.getD []) i=p:=⟨_,rfl⟩
   rw [f0] at u0;have T0:=S0 _ _ f0;have X0:=ae T0;clear hp K d0 H0 S0 T0
   cases r2 with
   | bad cN=>
    have HE:=ae (h0.out _ _ f0);clear f0 g0 h0
    go_wp2_with fail
    (with_reducible refine u0.mono ?_)
    rintro e y ⟨u,e0,S,rfl,n0⟩
    have o0:ag y (c.RI t.b.s*(aA 176 5 A g c.rd d.err d.W d.D*(pt j (Y #[Z G (a:Int)] 3 (0,0))*(pt o (Y #[Z G 0] 28 (0,0))*(ak u*(r*F)))))):=
     (n0.to (by unfold bp cG;ac_rfl:_=(pt k (Y ((⟨c,n,k,f⟩:Wk σ).cells (R va vl vc) t.dt) 149 (0,0))*(aA 176 5 u f c.rd t.b.err t.b.W t.b.D*(pt x (Y #[X (U ⟨g,0,V⟩),Z G (n:Int)] 83 (0,0))*bW i.bits (R va vl vc))))*(c.RI t.b.s*(aA 176 5 A g c.rd d.err d.W d.D*(pt j (Y #[Z G (a:Int)] 3 (0,0))*(pt o (Y #[Z G 0] 28 (0,0))*(ak u*(r*F)))))))).right
    have p0:=mu (b0.trans e0) o0;have Z0:ag y (pt j (Y #[Z G (a:Int)] 3 (0,0))*(pt o (Y #[Z G 0] 28 (0,0))*(cG c u g { d with s:=t.b.s }*(ak u*(r*F))))):=p0.to (by ac_rfl)
    go_wp2_with fail
    exact wK rfl rfl Z0 fun B d0 D0=>HQ.out _ _ (by rw [HE.out];exact ⟨u,q0.trans (b0.trans e0),(m0.trans S).trans D0,rfl,d0⟩)
   | ok g1=>
    have HE:=ae (g0.out _ f0);clear f0 g0 h0
    go_wp2_with fail
    (with_reducible refine u0.mono ?_)
    rintro e w7 ⟨u,v8,e0,S,rfl,n0⟩;obtain ⟨rfl,o0⟩:=ag.au.1 n0;have p0:ag w7 (pt j (Y #[Z G (a:Int)] 3 (0,0))*(pt o (Y #[Z G 0] 28 (0,0))*(pt x (Y #[X (U ⟨g,0,V⟩),Z G (n:Int)] 83 (0,0))*(pt k (Y #[X (U ⟨f,0,V⟩),Z G (n:Int),(R va vl vc),I J] 149 (0,0))*(cG c u f t.b*(bW i.bits (R va vl vc)*(ak u*(aA 176 5 A g c.rd d.err d.W d.D*(r*F))))))))):=o0.to (by unfold bp Wk.cells;rw [X0.out];ac_rfl);have V0:=m0.trans S;have N0:=b0.trans e0;clear u0 n0 o0 m0 S v k2 k3
    go_wp2_with fail
    have i0:ag w7 (aA 176 5 A g c.rd d.err d.W d.D*(aA 176 5 u f c.rd t.b.err t.b.W t.b.D*(ak u*(c.RI t.b.s*(pt j (Y #[Z G (a:Int)] 3 (0,0))*(pt o (Y #[Z G 0] 28 (0,0))*(pt x (Y #[X (U ⟨g,0,V⟩),Z G (n:Int)] 83 (0,0))*(pt k (Y #[X (U ⟨f,0,V⟩),Z G (n:Int),(R va vl vc),I J] 149 (0,0))*(bW i.bits (R va vl vc)*(r*F)))))))))):=p0.to (by unfold cG;ac_rfl);have P:=i0.fp (dK N0);have s0:=P.bP.cell 0;have k0:=P.dR.cell 0;have F0:=ae (iE w7.drew u g f c.rd c.rd t.b.err d.err t.b.W t.b.D d.W d.D _ P.drew ⟨_,_,rfl⟩);clear i0 P p0
    go_region_held3 (fun B=>B.cell? ⟨x,0,V⟩=U (X (U ⟨g,0,V⟩))/\B.cell? ⟨k,0,V⟩=U (X (U ⟨f,0,V⟩)))
     (first|exact ⟨s0,k0⟩|exact l0|go_keep)
     (first|(go_at_call 138;refine (F0.out).mono ?_;rintro e y ⟨S5,a1,rfl,C,S⟩;have l0:y.cell? ⟨x,0,V⟩=U (X (U ⟨g,0,V⟩))/\y.cell? ⟨k,0,V⟩=U (X (U ⟨f,0,V⟩)):=⟨C.bP.cell 0,C.dR.cell 0⟩))
    all_goals
     rename_i R0;have q:ag y (pt j (Y #[Z G (a:Int)] 3 (0,0))*(pt o (Y #[Z G 0] 28 (0,0))*((cG c S5 g t.b*(ak S5*(r*F)))*(pt x (Y #[X (U ⟨g,0,V⟩),Z G (n:Int)] 83 (0,0))*(pt k (Y #[X (U ⟨f,0,V⟩),Z G (n:Int),(R va vl vc),I J] 149 (0,0))*(aA 176 5 S5 f c.rd t.b.err t.b.W t.b.D*bW i.bits (R va vl vc))))))):=C.to (by unfold cG;ac_rfl);have c9:y.cell? ⟨j,0,V⟩=U (Z G (a:Int)):=q.cell 0;have f9:y.frozen? ⟨j,0,V⟩=N:=q.frozen 0;have e9:y.cell? ⟨o,0,V⟩=U (Z G 0):=q.ah.cell 0;have g9:y.frozen? ⟨o,0,V⟩=N:=q.ah.frozen 0;have G0:¬ (j=o):=ag.ne q;have b1:¬ (o=j):=fun h=>G0 h.symm;have v:=((q.setCell 0 (Z G (a:Int))).ah.setCell 0 (Z G 0))
     have ca:=v.ah.cell 0;have ce:=v.cell 0;have D9:=(((V0).drew.trans S).setCell ⟨j,0,V⟩ (Z G (a:Int))).setCell ⟨o,0,V⟩ (Z G 0);have hF:ag _ ((cG c S5 g t.b*(ak S5*(r*F)))):=v.right.right.left;have HD:=ae D9;have HF:=ae hF;have Ca:=ae ca;have Ce:=ae ce
     go_wp2_with fail
     exact vJ rfl rfl Ca.out Ce.out (HQ.out _ _ (by rw [HE.out];exact ⟨S5,_,q0.trans (N0.trans a1),HD.out,rfl,ag.au.2 ⟨rfl,HF.out.to (by ac_rfl)⟩⟩))
end
section
variable {σ α:Type}
theorem Jh (w:O) (g i:Addr) :
    CallsD Q 209 #[X (U g),X (U i)] .returning w fun e u j=>e = L (H #[])/\u = .returning/\w=j:=by
  refine callsD_of_wpS func209 rfl fun d l f=>?_;apply wpS_seq;refine wpS_of_wp ?_
  simp only [ntmps209,O2,K2,P2,R2,T2,U2,
     V2,W2,X2,Y2,Z2]
  go_wp2
  apply wpS_seq;apply wpS_region;simp [wpOpsS,go_sem,recoverD,f,Exit.thenS];refine wpS_of_wp ?_
  go_wp2
  cases d
  simp_all [bodyPostS,results,Tryz.results209]
theorem I6 (w:O) (d f:Addr) (c y:Int) (x:M) (g:List PanicEntry) (t:w.cell? d=U x) (B:x = R V 0 0\/∃ a n c,x = R a n c) (v:w.cell? f=U (Z G y)) (q:w.frozen? d=N) (r:w.frozen? f=N) (z:d≠f) :
    CallsD Q 209 #[X (U d),X (U f)] (.panicking ({ v:=.iface 219 (Z G c),recovered:=N } :: g)) w fun e u j=>
      e = L (H #[])/\u = .panicking ({ v:=.iface 219 (Z G c),recovered:=J } :: g)/\j=(w.setCell d (R V 0 0)).setCell f (Z G c):=by
  refine callsD_of_wpS func209 rfl fun o l i=>?_;apply wpS_seq;refine wpS_of_wp ?_
  simp only [ntmps209,O2,K2,P2,R2,T2,U2,
     V2,W2,X2,Y2,Z2]
  go_wp2
  apply wpS_seq;apply wpS_region;simp [wpOpsS,go_sem,recoverD,i,Exit.thenS];refine wpS_of_wp ?_;have A:=iU (Z G c)
  go_wp2
  exact ⟨rfl,_,rfl,_,results_none rfl _ _ _,rfl,rfl,rfl⟩
theorem oG {w:O} {d:Array M} {a b:Nat} (f:d[4]?=U (ay a)) (g:d[5]?=U (ay b)) (i:w.cell? ⟨a,0,V⟩=U v) (j:w.cell? ⟨b,0,V⟩=U e) :
  (results Tryz.f153 d).run Q w = .ok (H #[v,e]) w:=by
 simp [results,Tryz.results153,f,g,go_sem,i,j]
theorem wb {w:O} {i:Array M} {d f:Nat} {z c:Int} {P:ai} {l:Ending->O->Prop} (o:i[4]?=U (ay d)) (q:i[5]?=U (ay f))
  (h:ag w (pt d (Y #[v] 37 (0,0))*(pt f (Y #[Z G z] 28 (0,0))*P))) (t:v = R V 0 0\/∃ a n c,v = R a n c) (hR:∀ j,ag j P->aj w j->l (L (H #[R V 0 0,Z G c])) j) :
  bodyPostD Q Tryz.f153 l (Exit.panic (Gf c)) { tmps:=i,defers:=[{ target:=.fn (.func 209) #[X (U ⟨d,0,V⟩),X (U ⟨f,0,V⟩)],args:=#[] }] } w:=by
 have r:=ag.ne h;refine leaves_cons (f:=209) (args:=#[X (U ⟨d,0,V⟩),X (U ⟨f,0,V⟩)]) (by simp) (by simp [go_sem]) ?_;refine (I6 w ⟨d,0,V⟩ ⟨f,0,V⟩ c z v [] (h.cell 0) t (h.ah.cell 0) (h.frozen 0) (h.ah.frozen 0) (by intro h;injection h with h;exact r h)).mono ?_;rintro e u x ⟨rfl,rfl,rfl⟩;have g:=((h.setCell 0 (R V 0 0)).ah.setCell 0 (Z G c))
 exact ⟨_,oG o q (g.ah.cell 0) (g.cell 0),hR _ g.right.right (((aj.refl w).setCell _ _).setCell _ _)⟩
theorem vW {w:O} {g:Array M} {d f:Nat} {i:Ending->O->Prop} (j:g[4]?=U (ay d)) (l:g[5]?=U (ay f))
  (o:w.cell? ⟨d,0,V⟩=U v) (q:w.cell? ⟨f,0,V⟩=U e) (hR:i (L (H #[v,e])) w) :
  bodyPostD Q Tryz.f153 i Exit.ret { tmps:=g,defers:=[{ target:=.fn (.func 209) #[X (U ⟨d,0,V⟩),X (U ⟨f,0,V⟩)],args:=#[] }] } w:=by
 refine leaves_cons (f:=209) (args:=#[X (U ⟨d,0,V⟩),X (U ⟨f,0,V⟩)]) (by simp) (by simp [go_sem]) ?_;refine (Jh w ⟨d,0,V⟩ ⟨f,0,V⟩).mono ?_;rintro r u t ⟨rfl,rfl,rfl⟩;exact ⟨_,oG j l o q,hR⟩
theorem tR (c:Cx σ) (hc:c.Ok) (n:Nat) (e1:4<=n) (g1:n<=3840) (jf:FuncId) (U0:Array M) (x:ai) (m:WM σ (List UInt8))
  (jN:∀ (args:Array M) (w:O),(callFunc jf args).run Q w = .ok (.enter jf args) w) (hj:Em c n jf U0 fJ x m)
  (g:Nat) (d:ia σ) (w:O) (e0:Hp) (F:ai) (h:ag w (cG c e0 g d*(ak e0*(x*F)))) (T0:Ending->O->Prop)
  (hQ:∀ e K,yI c g (R V 0 0) fJ e0 (x*F) w (eu m d) e K->T0 e K) :
  Calls Q 153 #[gq g n,.func (.func jf) #[] U0] w T0:=by
 have HQ:=ae hQ;clear hQ;have f1:¬ ((n:Int)<4):=by omega
 have h1:¬ ((n:Int) > 3840):=by omega
 have Hj:=ae hj;unfold gq
 go_enter_defers func153,ntmps153
 have H3:=((h.alloc (Y #[X (U ⟨g,0,V⟩),Z G (n:Int)] 83 (0,0))).alloc (Y #[R V 0 0] 37 (0,0))).alloc (Y #[Z G 0] 28 (0,0));have D3:=(((aj.refl w).alloc (Y #[X (U ⟨g,0,V⟩),Z G (n:Int)] 83 (0,0))).alloc (Y #[R V 0 0] 37 (0,0))).alloc (Y #[Z G 0] 28 (0,0));simp only [G3] at H3
 go_wp2_with fail
 generalize ((w.alloc (Y #[X (U ⟨g,0,V⟩),Z G (n:Int)] 83 (0,0))).alloc (Y #[R V 0 0] 37 (0,0))).alloc (Y #[Z G 0] 28 (0,0))=w3 at H3 D3 ⊢;clear h;generalize w.heap.size+1+1=t at *;generalize w.heap.size+1=o at *;generalize w.heap.size=v at *;have s0:=H3.aq.cell 0;have s1:w3.cell? ⟨v,1,V⟩=U (Z G (n:Int)):=H3.aq.cell 1;have u:ag w3 (aA 176 5 e0 g c.rd d.err d.W d.D*(ak e0*(c.RI d.s*(pt t (Y #[Z G 0] 28 (0,0))*(pt o (Y #[R V 0 0] 37 (0,0))*(pt v (Y #[X (U ⟨g,0,V⟩),Z G (n:Int)] 83 (0,0))*(x*F))))))):=H3.to (by unfold cG;ac_rfl);have Y0:=pP w3.drew e0 g c.rd d.err d.W d.D _ u.drew ⟨_,_,rfl⟩;have S0:=ae Y0;clear Y0
 go_region_held3 (fun K=>K.cell? ⟨v,0,V⟩=U (X (U ⟨g,0,V⟩))/\K.cell? ⟨v,1,V⟩=U (Z G (n:Int)))
  (first|exact ⟨s0,s1⟩|exact i0|go_keep)
  (first|(go_at_call 135;refine (S0.out).mono ?_;rintro e w4 ⟨E,f,u0,rfl,h4,d4⟩;have i0:w4.cell? ⟨v,0,V⟩=U (X (U ⟨g,0,V⟩))/\w4.cell? ⟨v,1,V⟩=U (Z G (n:Int)):=⟨h4.bP.cell 0,h4.bP.cell 1⟩))
 have D5:=(D3.drew.trans d4).alloc (Y #[X (U ⟨f,0,V⟩),Z G (n:Int),R V 0 0,I N] 149 (0,0));have H5:=h4.alloc (Y #[X (U ⟨f,0,V⟩),Z G (n:Int),R V 0 0,I N] 149 (0,0))
 have R0:ag (w4.alloc (Y #[X (U ⟨f,0,V⟩),Z G (n:Int),R V 0 0,I N] 149 (0,0))) (aM (⟨c,n,w4.heap.size,f⟩:Wk σ) E ⟨d,V,N⟩*(ak E*(x*(aA 176 5 E g c.rd d.err d.W d.D*(pt t (Y #[Z G 0] 28 (0,0))*(pt o (Y #[R V 0 0] 37 (0,0))*(pt v (Y #[X (U ⟨g,0,V⟩),Z G (n:Int)] 83 (0,0))*F))))))):=
  sa (H5.to (by ac_rfl))
 have x0:=Hj.out ⟨c,n,w4.heap.size,f⟩ _ E ⟨d,V,N⟩ _ rfl rfl R0;rename_i H0;clear s0 s1 u S0 i0 H0 D3 d4 h4 H5 R0 Hj hj H3;generalize w4.heap.size=k at *;obtain ⟨⟨F0,i⟩,hp⟩:∃ p,m ⟨d,V,N⟩=p:=⟨_,rfl⟩
 rw [hp] at x0
 cases F0 with
 | bad cN=>
  have HE:=ae (kE hp);clear hp
  go_wp2_with fail
  (with_reducible refine x0.mono ?_)
  rintro e w6 ⟨C,d0,d6,rfl,h6⟩;have h7:=sr h6
  have P:ag w6 (c.RI i.b.s*(aA 176 5 E g c.rd d.err d.W d.D*(pt t (Y #[Z G 0] 28 (0,0))*(pt o (Y #[R V 0 0] 37 (0,0))*(ak C*(x*F)))))):=
   (h7.to (by ac_rfl:_=pt v (Y #[X (U ⟨g,0,V⟩),Z G (n:Int)] 83 (0,0))*(c.RI i.b.s*(aA 176 5 E g c.rd d.err d.W d.D*(pt t (Y #[Z G 0] 28 (0,0))*(pt o (Y #[R V 0 0] 37 (0,0))*(ak C*(x*F)))))))).right
  have u:=mu d0 P;have A:ag w6 (pt o (Y #[R V 0 0] 37 (0,0))*(pt t (Y #[Z G 0] 28 (0,0))*(cG c C g { d with s:=i.b.s }*(ak C*(x*F))))):=u.to (by ac_rfl)
  go_wp2_with fail
  exact wb rfl rfl A (.inl rfl) fun K f0 G0=>HQ.out _ _ (by rw [HE.out];exact ⟨C,u0.trans d0,(D5.trans d6).trans G0,rfl,f0⟩)
 | ok a=>
  go_wp2_with fail
  (with_reducible refine x0.mono ?_)
  rintro e w6 ⟨C,v6,d0,d6,rfl,h6⟩;unfold fJ at h6;obtain ⟨j,q,rfl⟩:=aC h6;generalize a.length=r at h6 ⊢;have h7:ag w6 (aM (⟨c,n,k,f⟩:Wk σ) C i*(ak C*((bs 5 (R j r q) a*x)*(aA 176 5 E g c.rd d.err d.W d.D*(pt t (Y #[Z G 0] 28 (0,0))*(pt o (Y #[R V 0 0] 37 (0,0))*(pt v (Y #[X (U ⟨g,0,V⟩),Z G (n:Int)] 83 (0,0))*F))))))):=h6.to (by ac_rfl);obtain ⟨S,P⟩:=ag.eY h7;clear x0 h6 h7;have u:ag w6 (pt o (Y #[R V 0 0] 37 (0,0))*(pt t (Y #[Z G 0] 28 (0,0))*(pt v (Y #[X (U ⟨g,0,V⟩),Z G (n:Int)] 83 (0,0))*(pt k (Y #[X (U ⟨f,0,V⟩),Z G (n:Int),S,I i.dt] 149 (0,0))*(cG c C f i.b*(bW i.bits S*(ak C*(aA 176 5 E g c.rd d.err d.W d.D*((bs 5 (R j r q) a*x)*F))))))))):=P.to (by unfold bp Wk.cells;ac_rfl);have c9:w6.cell? ⟨o,0,V⟩=U (R V 0 0):=u.cell 0;have f9:w6.frozen? ⟨o,0,V⟩=N:=u.frozen 0;have A:=u.setCell 0 (R j r q);have o0:=(D5.trans d6).setCell ⟨o,0,V⟩ (R j r q);have k3:=A.aD.cell 3;clear P u D5 d6
  cases b0:i.dt with
  | false=>
   have HE:=ae (mY hp b0);rw [b0] at k3 A;clear hp b0
   go_wp2_with fail
   generalize w6.setCell ⟨o,0,V⟩ (R j r q)=w7 at *;have n0:ag w7 (aA 176 5 E g c.rd d.err d.W d.D*(aA 176 5 C f c.rd i.b.err i.b.W i.b.D*(ak C*(c.RI i.b.s*(pt o (Y #[R j r q] 37 (0,0))*(pt t (Y #[Z G 0] 28 (0,0))*(pt v (Y #[X (U ⟨g,0,V⟩),Z G (n:Int)] 83 (0,0))*(pt k (Y #[X (U ⟨f,0,V⟩),Z G (n:Int),S,I N] 149 (0,0))*(bW i.bits S*((bs 5 (R j r q) a*x)*F)))))))))):=A.to (by unfold cG;ac_rfl);have c0:=n0.fp (dK d0);have s0:=c0.bP.cell 0;have k0:=c0.dR.cell 0;have K0:=ae (iE w7.drew C g f c.rd c.rd i.b.err d.err i.b.W i.b.D d.W d.D _ c0.drew ⟨_,_,rfl⟩);clear n0 c0 A
   go_region_held3 (fun K=>K.cell? ⟨v,0,V⟩=U (X (U ⟨g,0,V⟩))/\K.cell? ⟨k,0,V⟩=U (X (U ⟨f,0,V⟩)))
    (first|exact ⟨s0,k0⟩|exact i0|go_keep)
    (first|(go_at_call 138;refine (K0.out).mono ?_;rintro e B ⟨z,g0,rfl,P,d8⟩;have i0:B.cell? ⟨v,0,V⟩=U (X (U ⟨g,0,V⟩))/\B.cell? ⟨k,0,V⟩=U (X (U ⟨f,0,V⟩)):=⟨P.bP.cell 0,P.dR.cell 0⟩))
   all_goals
    rename_i H0;have u:ag B (pt o (Y #[R j r q] 37 (0,0))*(pt t (Y #[Z G 0] 28 (0,0))*((cG c z g i.b*(ak z*((bs 5 (R j r q) a*x)*F)))*(pt v (Y #[X (U ⟨g,0,V⟩),Z G (n:Int)] 83 (0,0))*(pt k (Y #[X (U ⟨f,0,V⟩),Z G (n:Int),S,I N] 149 (0,0))*(aA 176 5 z f c.rd i.b.err i.b.W i.b.D*bW i.bits S)))))):=P.to (by unfold cG;ac_rfl);have c9:B.cell? ⟨o,0,V⟩=U (R j r q):=u.cell 0;have f9:B.frozen? ⟨o,0,V⟩=N:=u.frozen 0;have e9:B.cell? ⟨t,0,V⟩=U (Z G 0):=u.ah.cell 0;have g9:B.frozen? ⟨t,0,V⟩=N:=u.ah.frozen 0;have L0:¬ (o=t):=ag.ne u;have d1:¬ (t=o):=fun h=>L0 h.symm;have A:=((u.setCell 0 (R j r q)).ah.setCell 0 (Z G 0))
    have ca:=A.ah.cell 0;have ce:=A.cell 0;have D9:=(((o0).drew.trans d8).setCell ⟨o,0,V⟩ (R j r q)).setCell ⟨t,0,V⟩ (Z G 0);have hF:=A.right.right.left;have HD:=ae D9;have HF:=ae hF;have Ca:=ae ca;have Ce:=ae ce
    go_wp2_with fail
    exact vW rfl rfl Ca.out Ce.out (HQ.out _ _ (by rw [HE.out];exact ⟨z,_,u0.trans (d0.trans g0),HD.out,rfl,HF.out.to (by unfold fJ;ac_rfl)⟩))
  | true=>
   have l0:=fun st'=>oK (st':=st') hp b0;have m0:=fun st' c=>sf (st':=st') (c:=c) hp b0;have l0:=ae l0;have m0:=ae m0;rw [b0] at k3 A;have k2:=A.aD.cell 2;have N0:=xt A.du
   have f0:ag (w6.setCell ⟨o,0,V⟩ (R j r q)) (bp (⟨c,n,k,f⟩:Wk σ) S C i*(ak C*(pt o (Y #[R j r q] 37 (0,0))*(pt t (Y #[Z G 0] 28 (0,0))*(pt v (Y #[X (U ⟨g,0,V⟩),Z G (n:Int)] 83 (0,0))*(bW i.bits S*(aA 176 5 E g c.rd d.err d.W d.D*((bs 5 (R j r q) a*x)*F)))))))):=
    A.to (by unfold bp Wk.cells;rw [b0];ac_rfl)
   have D0:=jq (⟨c,n,k,f⟩:Wk σ) _ S C i 0 S (i.bits.getD []) _ f0 N0
   obtain ⟨va,vl,vc,rfl⟩:∃ a l c,S = R a l c:=by
    obtain ⟨a,c,e⟩:=N0.shape;exact ⟨_,_,_,e⟩
   have W0:∀ st' F0,bO 0 (i.bits.getD []) i=(F0,st')->st'.dt=J:=fun st' F0 h=>by
    unfold bO at h
    split at h
    .simp only [Prod.mk.injEq] at h;rw [<- h.2];exact b0
    .simp only [Prod.mk.injEq] at h;rw [<- h.2];exact b0
   obtain ⟨⟨r2,y⟩,h0⟩:∃ p,bO 0 (i.bits.getD []) i=p:=⟨_,rfl⟩
   rw [h0] at D0;have X0:=W0 _ _ h0;have a1:=ae X0;clear hp b0 f0 N0 W0 X0
   cases r2 with
   | bad cN=>
    have HE:=ae (m0.out _ _ h0);clear h0 l0 m0
    go_wp2_with fail
    (with_reducible refine D0.mono ?_)
    rintro e B ⟨z,g0,d8,rfl,p0⟩
    have q0:ag B (c.RI y.b.s*(aA 176 5 E g c.rd d.err d.W d.D*(pt o (Y #[R j r q] 37 (0,0))*(pt t (Y #[Z G 0] 28 (0,0))*(ak z*((bs 5 (R j r q) a*x)*F)))))):=
     (p0.to (by unfold bp cG;ac_rfl:_=(pt k (Y ((⟨c,n,k,f⟩:Wk σ).cells (R va vl vc) y.dt) 149 (0,0))*(aA 176 5 z f c.rd y.b.err y.b.W y.b.D*(pt v (Y #[X (U ⟨g,0,V⟩),Z G (n:Int)] 83 (0,0))*bW i.bits (R va vl vc))))*(c.RI y.b.s*(aA 176 5 E g c.rd d.err d.W d.D*(pt o (Y #[R j r q] 37 (0,0))*(pt t (Y #[Z G 0] 28 (0,0))*(ak z*((bs 5 (R j r q) a*x)*F)))))))).right
    have r0:=mu (d0.trans g0) q0;have b1:ag B (pt o (Y #[R j r q] 37 (0,0))*(pt t (Y #[Z G 0] 28 (0,0))*(cG c z g { d with s:=y.b.s }*(ak z*((bs 5 (R j r q) a*x)*F))))):=r0.to (by ac_rfl)
    go_wp2_with fail
    exact wb rfl rfl b1 (.inr ⟨_,_,_,rfl⟩) fun K f0 G0=>HQ.out _ _ (by rw [HE.out];exact ⟨z,u0.trans (d0.trans g0),(o0.trans d8).trans G0,rfl,(f0.to (by ac_rfl:_=bs 5 (R j r q) a*(cG c z g { d with s:=y.b.s }*(ak z*(x*F))))).right⟩)
   | ok i1=>
    have HE:=ae (l0.out _ h0);clear h0 l0 m0
    go_wp2_with fail
    (with_reducible refine D0.mono ?_)
    rintro e w7 ⟨z,v8,g0,d8,rfl,p0⟩;obtain ⟨rfl,q0⟩:=ag.au.1 p0;have r0:ag w7 (pt o (Y #[R j r q] 37 (0,0))*(pt t (Y #[Z G 0] 28 (0,0))*(pt v (Y #[X (U ⟨g,0,V⟩),Z G (n:Int)] 83 (0,0))*(pt k (Y #[X (U ⟨f,0,V⟩),Z G (n:Int),(R va vl vc),I J] 149 (0,0))*(cG c z f y.b*(bW i.bits (R va vl vc)*(ak z*(aA 176 5 E g c.rd d.err d.W d.D*((bs 5 (R j r q) a*x)*F))))))))):=q0.to (by unfold bp Wk.cells;rw [a1.out];ac_rfl);have Z0:=o0.trans d8;have V0:=d0.trans g0;clear D0 p0 q0 o0 d8 A k2 k3
    go_wp2_with fail
    have n0:ag w7 (aA 176 5 E g c.rd d.err d.W d.D*(aA 176 5 z f c.rd y.b.err y.b.W y.b.D*(ak z*(c.RI y.b.s*(pt o (Y #[R j r q] 37 (0,0))*(pt t (Y #[Z G 0] 28 (0,0))*(pt v (Y #[X (U ⟨g,0,V⟩),Z G (n:Int)] 83 (0,0))*(pt k (Y #[X (U ⟨f,0,V⟩),Z G (n:Int),(R va vl vc),I J] 149 (0,0))*(bW i.bits (R va vl vc)*((bs 5 (R j r q) a*x)*F)))))))))):=r0.to (by unfold cG;ac_rfl);have c0:=n0.fp (dK V0);have s0:=c0.bP.cell 0;have k0:=c0.dR.cell 0;have K0:=ae (iE w7.drew z g f c.rd c.rd y.b.err d.err y.b.W y.b.D d.W d.D _ c0.drew ⟨_,_,rfl⟩);clear n0 c0 r0
    go_region_held3 (fun K=>K.cell? ⟨v,0,V⟩=U (X (U ⟨g,0,V⟩))/\K.cell? ⟨k,0,V⟩=U (X (U ⟨f,0,V⟩)))
     (first|exact ⟨s0,k0⟩|exact i0|go_keep)
     (first|(go_at_call 138;refine (K0.out).mono ?_;rintro e B ⟨S5,c1,rfl,P,d8⟩;have i0:B.cell? ⟨v,0,V⟩=U (X (U ⟨g,0,V⟩))/\B.cell? ⟨k,0,V⟩=U (X (U ⟨f,0,V⟩)):=⟨P.bP.cell 0,P.dR.cell 0⟩))
    all_goals
     rename_i H0;have u:ag B (pt o (Y #[R j r q] 37 (0,0))*(pt t (Y #[Z G 0] 28 (0,0))*((cG c S5 g y.b*(ak S5*((bs 5 (R j r q) a*x)*F)))*(pt v (Y #[X (U ⟨g,0,V⟩),Z G (n:Int)] 83 (0,0))*(pt k (Y #[X (U ⟨f,0,V⟩),Z G (n:Int),(R va vl vc),I J] 149 (0,0))*(aA 176 5 S5 f c.rd y.b.err y.b.W y.b.D*bW i.bits (R va vl vc))))))):=P.to (by unfold cG;ac_rfl);have c9:B.cell? ⟨o,0,V⟩=U (R j r q):=u.cell 0;have f9:B.frozen? ⟨o,0,V⟩=N:=u.frozen 0;have e9:B.cell? ⟨t,0,V⟩=U (Z G 0):=u.ah.cell 0;have g9:B.frozen? ⟨t,0,V⟩=N:=u.ah.frozen 0;have L0:¬ (o=t):=ag.ne u;have d1:¬ (t=o):=fun h=>L0 h.symm;have A:=((u.setCell 0 (R j r q)).ah.setCell 0 (Z G 0))
     have ca:=A.ah.cell 0;have ce:=A.cell 0;have D9:=(((Z0).drew.trans d8).setCell ⟨o,0,V⟩ (R j r q)).setCell ⟨t,0,V⟩ (Z G 0);have hF:=A.right.right.left;have HD:=ae D9;have HF:=ae hF;have Ca:=ae ca;have Ce:=ae ce
     go_wp2_with fail
     exact vW rfl rfl Ca.out Ce.out (HQ.out _ _ (by rw [HE.out];exact ⟨S5,_,u0.trans (V0.trans c1),HD.out,rfl,HF.out.to (by unfold fJ;ac_rfl)⟩))
end
theorem dy:(prog.info? 202).map (·.size)=U 0:=by kernel_rfl
section
variable {σ α:Type}
theorem IA (w:O) (g:Nat) (i:Addr) :
    CallsD Q 193 #[X (U ⟨g,0,V⟩),X (U i)] .returning w fun e u j=>e = L (H #[])/\u = .returning/\j=w.alloc (Y #[] 202 (0,0)):=by
  refine callsD_of_wpS func193 rfl fun d l f=>?_;apply wpS_seq;refine wpS_of_wp ?_
  simp only [ntmps193,O2,K2,P2,R2,T2,U2,
     V2,W2,X2,Y2,Z2]
  go_wp2
  apply wpS_seq;apply wpS_region;simp [wpOpsS,go_sem,recoverD,f,Exit.thenS];refine wpS_of_wp ?_
  go_wp2
  cases d
  simp_all [bodyPostS,results,Tryz.results193]
theorem KD (w:O) (g d:Nat) (c y:Int) (f:List PanicEntry) (t:w.cell? ⟨d,0,V⟩=U (Z G y)) (r:w.frozen? ⟨d,0,V⟩=N) (x:d<w.heap.size) :
    CallsD Q 193 #[X (U ⟨g,0,V⟩),X (U ⟨d,0,V⟩)] (.panicking ({ v:=.iface 219 (Z G c),recovered:=N } :: f)) w fun e u l=>
      e = L (H #[])/\u = .panicking ({ v:=.iface 219 (Z G c),recovered:=J } :: f)/\l=(w.setCell ⟨d,0,V⟩ (Z G c)).alloc (Y #[] 202 (0,0)):=by
  refine callsD_of_wpS func193 rfl fun q o i=>?_;apply wpS_seq;refine wpS_of_wp ?_
  simp only [ntmps193,O2,K2,P2,R2,T2,U2,
     V2,W2,X2,Y2,Z2]
  go_wp2
  apply wpS_seq;apply wpS_region;simp [wpOpsS,go_sem,recoverD,i,Exit.thenS];refine wpS_of_wp ?_;have z:=iU (Z G c)
  go_wp2_with (first|(refine wpList_load_mid (by exact rfl) 202 (.tmp 2) (by exact rfl) w.heap.size 0 (by exact rfl) [] _ (by exact fun j v h=>by cases h) underlying202 rfl (by exact dy) ?_)|(refine wpList_store_mid (by exact rfl) 202 (.tmp 0) (.tmp 12) (by exact rfl) g 0 #[] (by exact rfl) (by exact rfl) (by exact fun j h=>absurd h (M2 _)) (by exact dy) (by exact rfl) ?_))
  exact ⟨rfl,_,rfl,_,results_none rfl _ _ _,rfl,rfl,rfl⟩
theorem pS {w:O} {d:Array M} {a b:Nat} {F:ai} (e:d[4]?=U (ay a)) (f:d[5]?=U (ay b)) (g:ag w (pt a (Y #[] 202 (0,0))*F)) (i:w.cell? ⟨b,0,V⟩=U v) :
  (results Tryz.f139 d).run Q w = .ok (H #[.agg #[],v]) w:=by
 have j:=run_loadVar_row (P:=Q) w a 202 202 #[] (0,0) _ g.heap underlying202 rfl dy;simp [results,Tryz.results139,e,f,go_sem,asAddr,j,i]
theorem vR {w:O} {i:Array M} {d f:Nat} {z c:Int} {P:ai} {l:Ending->O->Prop} (o:i[4]?=U (ay d)) (q:i[5]?=U (ay f))
  (h:ag w (pt d (Y #[] 202 (0,0))*(pt f (Y #[Z G z] 28 (0,0))*P))) (hR:∀ j,ag j P->aj w j->l (L (H #[.agg #[],Z G c])) j) :
  bodyPostD Q Tryz.f139 l (Exit.panic (Gf c)) { tmps:=i,defers:=[{ target:=.fn (.func 193) #[X (U ⟨d,0,V⟩),X (U ⟨f,0,V⟩)],args:=#[] }] } w:=by
 refine leaves_cons (f:=193) (args:=#[X (U ⟨d,0,V⟩),X (U ⟨f,0,V⟩)]) (by simp) (by simp [go_sem]) ?_;refine (KD w d f c z [] (h.ah.cell 0) (h.ah.frozen 0) h.ah.lt).mono ?_;rintro e u r ⟨rfl,rfl,rfl⟩;have g:=((h.ah.setCell 0 (Z G c)).alloc (Y #[] 202 (0,0))).right;exact ⟨_,pS o q g.ah (g.cell 0),hR _ g.right.right (((aj.refl w).setCell _ _).alloc _)⟩
theorem wD {w:O} {i:Array M} {d f:Nat} {z:Int} {P:ai} {l:Ending->O->Prop} (o:i[4]?=U (ay d)) (q:i[5]?=U (ay f))
  (h:ag w (pt d (Y #[] 202 (0,0))*(pt f (Y #[Z G z] 28 (0,0))*P))) (hR:∀ j,ag j P->aj w j->l (L (H #[.agg #[],Z G z])) j) :
  bodyPostD Q Tryz.f139 l Exit.ret { tmps:=i,defers:=[{ target:=.fn (.func 193) #[X (U ⟨d,0,V⟩),X (U ⟨f,0,V⟩)],args:=#[] }] } w:=by
 refine leaves_cons (f:=193) (args:=#[X (U ⟨d,0,V⟩),X (U ⟨f,0,V⟩)]) (by simp) (by simp [go_sem]) ?_;refine (IA w d ⟨f,0,V⟩).mono ?_;rintro e u r ⟨rfl,rfl,rfl⟩;have g:=(h.alloc (Y #[] 202 (0,0))).right;exact ⟨_,pS o q g (g.ah.cell 0),hR _ g.right.right ((aj.refl w).alloc _)⟩
def GX (a:Unit) (v:M):ai:=fact (v = .agg #[])
theorem KH (c:Cx σ) (hc:c.Ok) (n:Nat) (g1:4<=n) (i1:n<=3840) (jf:FuncId) (V0:Array M) (t:ai) (m:WM σ Unit)
  (jN:∀ (args:Array M) (w:O),(callFunc jf args).run Q w = .ok (.enter jf args) w) (hj:Em c n jf V0 GX t m)
  (g:Nat) (d:ia σ) (w:O) (h0:Hp) (F:ai) (h:ag w (cG c h0 g d*(ak h0*(t*F)))) (U0:Ending->O->Prop)
  (hQ:∀ e z,yI c g (.agg #[]) GX h0 (t*F) w (eu m d) e z->U0 e z) :
  Calls Q 139 #[gq g n,.func (.func jf) #[] V0] w U0:=by
 have HQ:=ae hQ;clear hQ;have f1:=ot Q;have h1:¬ ((n:Int)<4):=by omega
 have j1:¬ ((n:Int) > 3840):=by omega
 have Hj:=ae hj;unfold gq
 go_enter_defers func139,ntmps139
 have H3:=((h.alloc (Y #[X (U ⟨g,0,V⟩),Z G (n:Int)] 83 (0,0))).alloc (Y #[] 202 (0,0))).alloc (Y #[Z G 0] 28 (0,0));have D3:=(((aj.refl w).alloc (Y #[X (U ⟨g,0,V⟩),Z G (n:Int)] 83 (0,0))).alloc (Y #[] 202 (0,0))).alloc (Y #[Z G 0] 28 (0,0));simp only [G3] at H3
 go_wp2_with fail
 generalize ((w.alloc (Y #[X (U ⟨g,0,V⟩),Z G (n:Int)] 83 (0,0))).alloc (Y #[] 202 (0,0))).alloc (Y #[Z G 0] 28 (0,0))=w3 at H3 D3 ⊢;clear h;generalize w.heap.size+1+1=q at *;generalize w.heap.size+1=o at *;generalize w.heap.size=j at *;have s0:w3.cell? ⟨j,0,V⟩=U (X (U ⟨g,0,V⟩)):=H3.aq.cell 0;have s1:w3.cell? ⟨j,1,V⟩=U (Z G (n:Int)):=H3.aq.cell 1;have y:ag w3 (aA 176 5 h0 g c.rd d.err d.W d.D*(ak h0*(c.RI d.s*(pt q (Y #[Z G 0] 28 (0,0))*(pt o (Y #[] 202 (0,0))*(pt j (Y #[X (U ⟨g,0,V⟩),Z G (n:Int)] 83 (0,0))*(t*F))))))):=H3.to (by unfold cG;ac_rfl);have Z0:=pP w3.drew h0 g c.rd d.err d.W d.D _ y.drew ⟨_,_,rfl⟩;have T0:=ae Z0;clear Z0
 go_region_held3 (fun z=>z.cell? ⟨j,0,V⟩=U (X (U ⟨g,0,V⟩))/\z.cell? ⟨j,1,V⟩=U (Z G (n:Int)))
  (first|exact ⟨s0,s1⟩|exact f0|go_keep)
  (first|(go_at_call 135;refine (T0.out).mono ?_;rintro e w4 ⟨E,f,G0,rfl,h4,d4⟩;have f0:w4.cell? ⟨j,0,V⟩=U (X (U ⟨g,0,V⟩))/\w4.cell? ⟨j,1,V⟩=U (Z G (n:Int)):=⟨h4.bP.cell 0,h4.bP.cell 1⟩))
 have D5:=(D3.drew.trans d4).alloc (Y #[X (U ⟨f,0,V⟩),Z G (n:Int),R V 0 0,I N] 149 (0,0));have H5:=h4.alloc (Y #[X (U ⟨f,0,V⟩),Z G (n:Int),R V 0 0,I N] 149 (0,0))
 have S0:ag (w4.alloc (Y #[X (U ⟨f,0,V⟩),Z G (n:Int),R V 0 0,I N] 149 (0,0))) (aM (⟨c,n,w4.heap.size,f⟩:Wk σ) E ⟨d,V,N⟩*(ak E*(t*(aA 176 5 E g c.rd d.err d.W d.D*(pt q (Y #[Z G 0] 28 (0,0))*(pt o (Y #[] 202 (0,0))*(pt j (Y #[X (U ⟨g,0,V⟩),Z G (n:Int)] 83 (0,0))*F))))))):=
  sa (H5.to (by ac_rfl))
 have H0:=Hj.out ⟨c,n,w4.heap.size,f⟩ _ E ⟨d,V,N⟩ _ rfl rfl S0;rename_i p0;clear s0 s1 y T0 f0 p0 D3 d4 h4 H5 S0 Hj hj H3;generalize w4.alloc (Y #[X (U ⟨f,0,V⟩),Z G (n:Int),R V 0 0,I N] 149 (0,0))=w5 at *;generalize w4.heap.size=k at *;obtain ⟨⟨L0,i⟩,hp⟩:∃ p,m ⟨d,V,N⟩=p:=⟨_,rfl⟩
 rw [hp] at H0
 cases L0 with
 | bad cN=>
  have HE:=ae (kE hp);clear hp
  go_wp2_with fail
  (with_reducible refine H0.mono ?_)
  rintro e w6 ⟨A,e0,d6,rfl,h6⟩;have h7:=sr h6
  have B:ag w6 (c.RI i.b.s*(aA 176 5 E g c.rd d.err d.W d.D*(pt q (Y #[Z G 0] 28 (0,0))*(pt o (Y #[] 202 (0,0))*(ak A*(t*F)))))):=
   (h7.to (by ac_rfl:_=pt j (Y #[X (U ⟨g,0,V⟩),Z G (n:Int)] 83 (0,0))*(c.RI i.b.s*(aA 176 5 E g c.rd d.err d.W d.D*(pt q (Y #[Z G 0] 28 (0,0))*(pt o (Y #[] 202 (0,0))*(ak A*(t*F)))))))).right
  have y:=mu e0 B;have x:ag w6 (pt o (Y #[] 202 (0,0))*(pt q (Y #[Z G 0] 28 (0,0))*(cG c A g { d with s:=i.b.s }*(ak A*(t*F))))):=y.to (by ac_rfl)
  go_wp2_with fail
  exact vR rfl rfl x fun z b0 g0=>HQ.out _ _ (by rw [HE.out];exact ⟨A,G0.trans e0,(D5.trans d6).trans g0,rfl,b0⟩)
 | ok a=>
  go_wp2_with fail
  (with_reducible refine H0.mono ?_)
  rintro e w6 ⟨A,v6,e0,d6,rfl,h6⟩;obtain ⟨rfl,h7⟩:=ag.au.1 h6;obtain ⟨K,B⟩:=ag.eY h7;clear H0 h6 h7;have y:ag w6 (pt o (Y #[] 202 (0,0))*(pt q (Y #[Z G 0] 28 (0,0))*(pt j (Y #[X (U ⟨g,0,V⟩),Z G (n:Int)] 83 (0,0))*(pt k (Y #[X (U ⟨f,0,V⟩),Z G (n:Int),K,I i.dt] 149 (0,0))*(cG c A f i.b*(bW i.bits K*(ak A*(aA 176 5 E g c.rd d.err d.W d.D*(t*F))))))))):=B.to (by unfold bp Wk.cells;ac_rfl);have x:=y;have u0:=D5.trans d6;have k3:w6.cell? ⟨k,3,V⟩=U (I i.dt):=x.aD.cell 3;clear B y D5 d6
  cases c0:i.dt with
  | false=>
   have HE:=ae (mY hp c0);rw [c0] at k3 x;clear hp c0
   go_wp2_with (refine wpList_store_mid (by exact rfl) 202 (.tmp 4) (.tmp 31) (by exact rfl) o 0 #[] (by exact rfl) (by exact rfl) (by exact fun m0 h=>absurd h (M2 _)) (by exact dy) (by exact rfl) ?_)
   have c1:∃ P,P=w6:=⟨_,rfl⟩
   obtain ⟨P,rfl⟩:=c1;have q0:ag P (aA 176 5 E g c.rd d.err d.W d.D*(aA 176 5 A f c.rd i.b.err i.b.W i.b.D*(ak A*(c.RI i.b.s*(pt o (Y #[] 202 (0,0))*(pt q (Y #[Z G 0] 28 (0,0))*(pt j (Y #[X (U ⟨g,0,V⟩),Z G (n:Int)] 83 (0,0))*(pt k (Y #[X (U ⟨f,0,V⟩),Z G (n:Int),K,I N] 149 (0,0))*(bW i.bits K*(t*F)))))))))):=x.to (by unfold cG;ac_rfl);have d0:=q0.fp (dK e0);have s0:P.cell? ⟨j,0,V⟩=U (X (U ⟨g,0,V⟩)):=d0.bP.cell 0;have k0:P.cell? ⟨k,0,V⟩=U (X (U ⟨f,0,V⟩)):=d0.dR.cell 0;have r0:=ae (iE P.drew A g f c.rd c.rd i.b.err d.err i.b.W i.b.D d.W d.D _ d0.drew ⟨_,_,rfl⟩);clear q0 d0 x
   go_region_held3 (fun z=>z.cell? ⟨j,0,V⟩=U (X (U ⟨g,0,V⟩))/\z.cell? ⟨k,0,V⟩=U (X (U ⟨f,0,V⟩)))
    (first|exact ⟨s0,k0⟩|exact f0|go_keep)
    (first|(go_at_call 138;refine (r0.out).mono ?_;rintro e C ⟨u,i0,rfl,B,S⟩;have f0:C.cell? ⟨j,0,V⟩=U (X (U ⟨g,0,V⟩))/\C.cell? ⟨k,0,V⟩=U (X (U ⟨f,0,V⟩)):=⟨B.bP.cell 0,B.dR.cell 0⟩))
   all_goals
    rename_i p0;have y:ag C (pt o (Y #[] 202 (0,0))*(pt q (Y #[Z G 0] 28 (0,0))*((cG c u g i.b*(ak u*(t*F)))*(pt j (Y #[X (U ⟨g,0,V⟩),Z G (n:Int)] 83 (0,0))*(pt k (Y #[X (U ⟨f,0,V⟩),Z G (n:Int),K,I N] 149 (0,0))*(aA 176 5 u f c.rd i.b.err i.b.W i.b.D*bW i.bits K)))))):=B.to (by unfold cG;ac_rfl);have e9:C.cell? ⟨q,0,V⟩=U (Z G 0):=y.ah.cell 0;have g9:C.frozen? ⟨q,0,V⟩=N:=y.ah.frozen 0;have x:=((y.ah.setCell 0 (Z G 0)).ah)
    have D9:=((u0).drew.trans S).setCell ⟨q,0,V⟩ (Z G 0);have HD:=ae D9;have N0:=ae x;clear r0 s0 k0 f0 B y x D9 p0 S
    go_wp2_with (first|(refine wpList_load_mid (by exact rfl) 202 (.tmp 4) (by exact rfl) o 0 (by exact rfl) [] _ (by exact fun m0 v h=>by cases h) underlying202 rfl (by exact dy) ?_)|(refine wpList_store_mid (by exact rfl) 202 (.tmp 4) (.tmp 49) (by exact rfl) o 0 #[] (by exact rfl) (by exact rfl) (by exact fun m0 h=>absurd h (M2 _)) (by exact dy) (by exact rfl) ?_))
    exact wD rfl rfl N0.out fun z b0 g0=>HQ.out _ _ (by rw [HE.out];exact ⟨u,_,G0.trans (e0.trans i0),HD.out.trans g0,rfl,ag.au.2 ⟨rfl,(b0.left).to (by ac_rfl)⟩⟩)
  | true=>
   have n0:=fun st'=>oK (st':=st') hp c0;have o0:=fun st' c=>sf (st':=st') (c:=c) hp c0;have n0:=ae n0;have o0:=ae o0;rw [c0] at k3 x;have k2:w6.cell? ⟨k,2,V⟩=U K:=x.aD.cell 2;have R0:Rd w6 K (i.bits.getD []):=xt x.du
   have b0:ag w6 (bp (⟨c,n,k,f⟩:Wk σ) K A i*(ak A*(pt o (Y #[] 202 (0,0))*(pt q (Y #[Z G 0] 28 (0,0))*(pt j (Y #[X (U ⟨g,0,V⟩),Z G (n:Int)] 83 (0,0))*(bW i.bits K*(aA 176 5 E g c.rd d.err d.W d.D*(t*F)))))))):=
    x.to (by unfold bp Wk.cells;rw [c0];ac_rfl)
   have K0:=jq (⟨c,n,k,f⟩:Wk σ) _ K A i 0 K (i.bits.getD []) _ b0 R0
   obtain ⟨va,vl,vc,rfl⟩:∃ a l c,K = R a l c:=by
    obtain ⟨a,c,e⟩:=R0.shape;exact ⟨_,_,_,e⟩
   have X0:∀ st' L0,bO 0 (i.bits.getD []) i=(L0,st')->st'.dt=J:=fun st' L0 h=>by
    unfold bO at h
    split at h
    .simp only [Prod.mk.injEq] at h;rw [<- h.2];exact c0
    .simp only [Prod.mk.injEq] at h;rw [<- h.2];exact c0
   obtain ⟨⟨r2,r⟩,l0⟩:∃ p,bO 0 (i.bits.getD []) i=p:=⟨_,rfl⟩
   rw [l0] at K0;have Y0:=X0 _ _ l0;have b1:=ae Y0;clear hp c0 b0 R0 X0 Y0
   cases r2 with
   | bad cN=>
    have HE:=ae (o0.out _ _ l0);clear l0 n0 o0
    go_wp2_with (refine wpList_store_mid (by exact rfl) 202 (.tmp 4) (.tmp 31) (by exact rfl) o 0 #[] (by exact rfl) (by exact rfl) (by exact fun m0 h=>absurd h (M2 _)) (by exact dy) (by exact rfl) ?_)
    (with_reducible refine K0.mono ?_)
    rintro e C ⟨u,i0,S,rfl,x0⟩
    have D0:ag C (c.RI r.b.s*(aA 176 5 E g c.rd d.err d.W d.D*(pt o (Y #[] 202 (0,0))*(pt q (Y #[Z G 0] 28 (0,0))*(ak u*(t*F)))))):=
     (x0.to (by unfold bp cG;ac_rfl:_=(pt k (Y ((⟨c,n,k,f⟩:Wk σ).cells (R va vl vc) r.dt) 149 (0,0))*(aA 176 5 u f c.rd r.b.err r.b.W r.b.D*(pt j (Y #[X (U ⟨g,0,V⟩),Z G (n:Int)] 83 (0,0))*bW i.bits (R va vl vc))))*(c.RI r.b.s*(aA 176 5 E g c.rd d.err d.W d.D*(pt o (Y #[] 202 (0,0))*(pt q (Y #[Z G 0] 28 (0,0))*(ak u*(t*F)))))))).right
    have F0:=mu (e0.trans i0) D0;have d1:ag C (pt o (Y #[] 202 (0,0))*(pt q (Y #[Z G 0] 28 (0,0))*(cG c u g { d with s:=r.b.s }*(ak u*(t*F))))):=F0.to (by ac_rfl)
    go_wp2_with fail
    exact vR rfl rfl d1 fun z b0 g0=>HQ.out _ _ (by rw [HE.out];exact ⟨u,G0.trans (e0.trans i0),(u0.trans S).trans g0,rfl,b0⟩)
   | ok k1=>
    have HE:=ae (n0.out _ l0);clear l0 n0 o0
    go_wp2_with (refine wpList_store_mid (by exact rfl) 202 (.tmp 4) (.tmp 31) (by exact rfl) o 0 #[] (by exact rfl) (by exact rfl) (by exact fun m0 h=>absurd h (M2 _)) (by exact dy) (by exact rfl) ?_)
    (with_reducible refine K0.mono ?_)
    rintro e P ⟨u,v8,i0,S,rfl,x0⟩;obtain ⟨rfl,D0⟩:=ag.au.1 x0;have F0:ag P (pt o (Y #[] 202 (0,0))*(pt q (Y #[Z G 0] 28 (0,0))*(pt j (Y #[X (U ⟨g,0,V⟩),Z G (n:Int)] 83 (0,0))*(pt k (Y #[X (U ⟨f,0,V⟩),Z G (n:Int),(R va vl vc),I J] 149 (0,0))*(cG c u f r.b*(bW i.bits (R va vl vc)*(ak u*(aA 176 5 E g c.rd d.err d.W d.D*(t*F))))))))):=D0.to (by unfold bp Wk.cells;rw [b1.out];ac_rfl);have a1:=u0.trans S;have W0:=e0.trans i0;clear K0 x0 D0 u0 S x k2 k3
    go_wp2_with fail
    have q0:ag P (aA 176 5 E g c.rd d.err d.W d.D*(aA 176 5 u f c.rd r.b.err r.b.W r.b.D*(ak u*(c.RI r.b.s*(pt o (Y #[] 202 (0,0))*(pt q (Y #[Z G 0] 28 (0,0))*(pt j (Y #[X (U ⟨g,0,V⟩),Z G (n:Int)] 83 (0,0))*(pt k (Y #[X (U ⟨f,0,V⟩),Z G (n:Int),(R va vl vc),I J] 149 (0,0))*(bW i.bits (R va vl vc)*(t*F)))))))))):=F0.to (by unfold cG;ac_rfl);have d0:=q0.fp (dK W0);have s0:P.cell? ⟨j,0,V⟩=U (X (U ⟨g,0,V⟩)):=d0.bP.cell 0;have k0:P.cell? ⟨k,0,V⟩=U (X (U ⟨f,0,V⟩)):=d0.dR.cell 0;have r0:=ae (iE P.drew u g f c.rd c.rd r.b.err d.err r.b.W r.b.D d.W d.D _ d0.drew ⟨_,_,rfl⟩);clear q0 d0 F0
    go_region_held3 (fun z=>z.cell? ⟨j,0,V⟩=U (X (U ⟨g,0,V⟩))/\z.cell? ⟨k,0,V⟩=U (X (U ⟨f,0,V⟩)))
     (first|exact ⟨s0,k0⟩|exact f0|go_keep)
     (first|(go_at_call 138;refine (r0.out).mono ?_;rintro e C ⟨S5,e1,rfl,B,S⟩;have f0:C.cell? ⟨j,0,V⟩=U (X (U ⟨g,0,V⟩))/\C.cell? ⟨k,0,V⟩=U (X (U ⟨f,0,V⟩)):=⟨B.bP.cell 0,B.dR.cell 0⟩))
    all_goals
     rename_i p0;have y:ag C (pt o (Y #[] 202 (0,0))*(pt q (Y #[Z G 0] 28 (0,0))*((cG c S5 g r.b*(ak S5*(t*F)))*(pt j (Y #[X (U ⟨g,0,V⟩),Z G (n:Int)] 83 (0,0))*(pt k (Y #[X (U ⟨f,0,V⟩),Z G (n:Int),(R va vl vc),I J] 149 (0,0))*(aA 176 5 S5 f c.rd r.b.err r.b.W r.b.D*bW i.bits (R va vl vc))))))):=B.to (by unfold cG;ac_rfl);have e9:C.cell? ⟨q,0,V⟩=U (Z G 0):=y.ah.cell 0;have g9:C.frozen? ⟨q,0,V⟩=N:=y.ah.frozen 0;have x:=((y.ah.setCell 0 (Z G 0)).ah)
     have D9:=((a1).drew.trans S).setCell ⟨q,0,V⟩ (Z G 0);have HD:=ae D9;have N0:=ae x;clear r0 s0 k0 f0 B y x D9 p0 S
     go_wp2_with (first|(refine wpList_load_mid (by exact rfl) 202 (.tmp 4) (by exact rfl) o 0 (by exact rfl) [] _ (by exact fun m0 v h=>by cases h) underlying202 rfl (by exact dy) ?_)|(refine wpList_store_mid (by exact rfl) 202 (.tmp 4) (.tmp 49) (by exact rfl) o 0 #[] (by exact rfl) (by exact rfl) (by exact fun m0 h=>absurd h (M2 _)) (by exact dy) (by exact rfl) ?_))
     exact wD rfl rfl N0.out fun z b0 g0=>HQ.out _ _ (by rw [HE.out];exact ⟨S5,_,G0.trans (W0.trans e1),HD.out.trans g0,rfl,ag.au.2 ⟨rfl,(b0.left).to (by ac_rfl)⟩⟩)
end
section
variable {σ α:Type}
theorem Je (w:O) (g:Nat) (i:Addr) :
    CallsD Q 208 #[X (U ⟨g,0,V⟩),X (U i)] .returning w fun e u j=>e = L (H #[])/\u = .returning/\j=w.alloc (Y #[Z G 0,Z G 0,Z G 0,Z G 0,Z G 0,Z G 0,Z G 0,Z G 0,Z G 0,Z G 0,Z G 0,Z G 0,Z G 0,Z G 0,Z G 0,Z G 0,Z G 0,Z G 0,Z G 0,Z G 0] 73 (0,0)):=by
  refine callsD_of_wpS func208 rfl fun d l f=>?_;apply wpS_seq;refine wpS_of_wp ?_
  simp only [ntmps208,O2,K2,P2,R2,T2,U2,
     V2,W2,X2,Y2,Z2]
  go_wp2
  simp only [Exit.thenS];apply wpS_seq;apply wpS_region;simp [wpOpsS,go_sem,recoverD,f,Exit.thenS];refine wpS_of_wp ?_
  go_wp2
  cases d
  simp_all [bodyPostS,results,Tryz.results208]
  try rfl
theorem G1 (w:O) (d f:Nat) (j:Array M) (E:j.size=20) (c y:Int) (v:List PanicEntry) (P:ai) (h:ag w (pt d (Y j 73 (0,0))*(pt f (Y #[Z G y] 28 (0,0))*P))) :
    CallsD Q 208 #[X (U ⟨d,0,V⟩),X (U ⟨f,0,V⟩)] (.panicking ({ v:=.iface 219 (Z G c),recovered:=N } :: v)) w fun e u x=>
      e = L (H #[])/\u = .panicking ({ v:=.iface 219 (Z G c),recovered:=J } :: v)/\ag x (pt d (Y #[Z G 0,Z G 0,Z G 0,Z G 0,Z G 0,Z G 0,Z G 0,Z G 0,Z G 0,Z G 0,Z G 0,Z G 0,Z G 0,Z G 0,Z G 0,Z G 0,Z G 0,Z G 0,Z G 0,Z G 0] 73 (0,0))*(pt f (Y #[Z G c] 28 (0,0))*P))/\aj w x:=by
  refine callsD_of_wpS func208 rfl fun b0 S K=>?_;apply wpS_seq;refine wpS_of_wp ?_
  simp only [ntmps208,O2,K2,P2,R2,T2,U2,
     V2,W2,X2,Y2,Z2]
  go_wp2
  simp only [Exit.thenS];apply wpS_seq;apply wpS_region;simp [wpOpsS,go_sem,recoverD,K,Exit.thenS];refine wpS_of_wp ?_;have c0:=iU (Z G c);have g:=h.alloc (Y #[Z G 0,Z G 0,Z G 0,Z G 0,Z G 0,Z G 0,Z G 0,Z G 0,Z G 0,Z G 0,Z G 0,Z G 0,Z G 0,Z G 0,Z G 0,Z G 0,Z G 0,Z G 0,Z G 0,Z G 0] 73 (0,0));have l:=(aj.refl w).alloc (Y #[Z G 0,Z G 0,Z G 0,Z G 0,Z G 0,Z G 0,Z G 0,Z G 0,Z G 0,Z G 0,Z G 0,Z G 0,Z G 0,Z G 0,Z G 0,Z G 0,Z G 0,Z G 0,Z G 0,Z G 0] 73 (0,0));have q:=g.heap;have r:=g.ah.heap;have i:=g.ah.setRow (cs':=#[Z G 0,Z G 0,Z G 0,Z G 0,Z G 0,Z G 0,Z G 0,Z G 0,Z G 0,Z G 0,Z G 0,Z G 0,Z G 0,Z G 0,Z G 0,Z G 0,Z G 0,Z G 0,Z G 0,Z G 0]);have z:=ae (((l.setRow d #[Z G 0,Z G 0,Z G 0,Z G 0,Z G 0,Z G 0,Z G 0,Z G 0,Z G 0,Z G 0,Z G 0,Z G 0,Z G 0,Z G 0,Z G 0,Z G 0,Z G 0,Z G 0,Z G 0,Z G 0])).setCell ⟨f,0,V⟩ (Z G c));have o:=(i.aq.setCell 0 (Z G c))
  generalize w.alloc (Y #[Z G 0,Z G 0,Z G 0,Z G 0,Z G 0,Z G 0,Z G 0,Z G 0,Z G 0,Z G 0,Z G 0,Z G 0,Z G 0,Z G 0,Z G 0,Z G 0,Z G 0,Z G 0,Z G 0,Z G 0] 73 (0,0))=w1 at *;generalize w.heap.size=t at *;have e1:=i.aq.cell 0;have f1:=i.aq.frozen 0;have B:=ae q;have C:=ae r;have A:=ae o;clear h g i o l q r
  go_wp2_with (first|(refine wpList_load_row (by exact rfl) 73 (.tmp 2) (by exact rfl) t (by exact rfl) 73 #[Z G 0,Z G 0,Z G 0,Z G 0,Z G 0,Z G 0,Z G 0,Z G 0,Z G 0,Z G 0,Z G 0,Z G 0,Z G 0,Z G 0,Z G 0,Z G 0,Z G 0,Z G 0,Z G 0,Z G 0] (0,0) _ (by with_reducible exact B.out) underlying73 rfl bf ?_)|(refine wpList_store_row (by exact rfl) 73 (.tmp 0) (.tmp 12) (by exact rfl) d #[Z G 0,Z G 0,Z G 0,Z G 0,Z G 0,Z G 0,Z G 0,Z G 0,Z G 0,Z G 0,Z G 0,Z G 0,Z G 0,Z G 0,Z G 0,Z G 0,Z G 0,Z G 0,Z G 0,Z G 0] (by exact rfl) (by exact rfl) 73 j (by with_reducible exact C.out) bf E CU ?_))
  exact ⟨rfl,_,rfl,_,results_none rfl _ _ _,rfl,rfl,(A.out.to (by ac_rfl:_=pt t (Y #[Z G 0,Z G 0,Z G 0,Z G 0,Z G 0,Z G 0,Z G 0,Z G 0,Z G 0,Z G 0,Z G 0,Z G 0,Z G 0,Z G 0,Z G 0,Z G 0,Z G 0,Z G 0,Z G 0,Z G 0] 73 (0,0))*(pt d (Y #[Z G 0,Z G 0,Z G 0,Z G 0,Z G 0,Z G 0,Z G 0,Z G 0,Z G 0,Z G 0,Z G 0,Z G 0,Z G 0,Z G 0,Z G 0,Z G 0,Z G 0,Z G 0,Z G 0,Z G 0] 73 (0,0))*(pt f (Y #[Z G c] 28 (0,0))*P)))).right,z.out⟩
theorem oC {w:O} {d:Array M} {a b:Nat} {e:Array M} {F:ai} (f:d[4]?=U (ay a)) (g:d[5]?=U (ay b)) (j:ag w (pt a (Y e 73 (0,0))*F)) (i:e.size=20) (l:w.cell? ⟨b,0,V⟩=U v) :
  (results Tryz.f151 d).run Q w = .ok (H #[.agg e,v]) w:=by
 have o:=run_loadVar_row (P:=Q) w a 73 73 e (0,0) _ j.heap underlying73 rfl (by rw [i];exact bf);have r:d.getD 4 undef = X (U ⟨a,0,V⟩):=by simp [f]
 have t:d.getD 5 undef = X (U ⟨b,0,V⟩):=by simp [g]
 have q:(loadVar 28 ⟨b,0,V⟩).run Q w = .ok v w:=by simp [go_sem,l]
 simp [results,Tryz.results151,f,g,asAddr,o,q]
theorem vS {w:O} {j:Array M} {d f:Nat} {g:Array M} {z c:Int} {P:ai} {o:Ending->O->Prop} (r:j[4]?=U (ay d)) (t:j[5]?=U (ay f))
  (h:ag w (pt d (Y g 73 (0,0))*(pt f (Y #[Z G z] 28 (0,0))*P))) (v:g.size=20) (hR:∀ l,ag l P->aj w l->o (L (H #[.agg #[Z G 0,Z G 0,Z G 0,Z G 0,Z G 0,Z G 0,Z G 0,Z G 0,Z G 0,Z G 0,Z G 0,Z G 0,Z G 0,Z G 0,Z G 0,Z G 0,Z G 0,Z G 0,Z G 0,Z G 0],Z G c])) l) :
  bodyPostD Q Tryz.f151 o (Exit.panic (Gf c)) { tmps:=j,defers:=[{ target:=.fn (.func 208) #[X (U ⟨d,0,V⟩),X (U ⟨f,0,V⟩)],args:=#[] }] } w:=by
 refine leaves_cons (f:=208) (args:=#[X (U ⟨d,0,V⟩),X (U ⟨f,0,V⟩)]) (by simp) (by simp [go_sem]) ?_;refine (G1 w d f g v c z [] P h).mono ?_;rintro e u x ⟨rfl,rfl,i,q⟩;exact ⟨_,oC r t i rfl (i.ah.cell 0),hR _ i.right.right q⟩
theorem wG {w:O} {j:Array M} {d f:Nat} {g:Array M} {z:Int} {P:ai} {o:Ending->O->Prop} (q:j[4]?=U (ay d)) (r:j[5]?=U (ay f))
  (h:ag w (pt d (Y g 73 (0,0))*(pt f (Y #[Z G z] 28 (0,0))*P))) (t:g.size=20) (hR:∀ l,ag l P->aj w l->o (L (H #[.agg g,Z G z])) l) :
  bodyPostD Q Tryz.f151 o Exit.ret { tmps:=j,defers:=[{ target:=.fn (.func 208) #[X (U ⟨d,0,V⟩),X (U ⟨f,0,V⟩)],args:=#[] }] } w:=by
 refine leaves_cons (f:=208) (args:=#[X (U ⟨d,0,V⟩),X (U ⟨f,0,V⟩)]) (by simp) (by simp [go_sem]) ?_;refine (Je w d ⟨f,0,V⟩).mono ?_;rintro e u v ⟨rfl,rfl,rfl⟩;have i:=(h.alloc (Y #[Z G 0,Z G 0,Z G 0,Z G 0,Z G 0,Z G 0,Z G 0,Z G 0,Z G 0,Z G 0,Z G 0,Z G 0,Z G 0,Z G 0,Z G 0,Z G 0,Z G 0,Z G 0,Z G 0,Z G 0] 73 (0,0))).right;exact ⟨_,oC q r i t (i.ah.cell 0),hR _ i.right.right ((aj.refl w).alloc _)⟩
def Ag (a:Nd) (v:M):ai:=fact (v=a.v/\a.dr.length=16)
theorem G4 (c:Cx σ) (hc:c.Ok) (n:Nat) (p1:4<=n) (r1:n<=3840) (jf:FuncId) (b1:Array M) (u:ai) (m:WM σ Nd)
  (jN:∀ (args:Array M) (w:O),(callFunc jf args).run Q w = .ok (.enter jf args) w) (hj:Em c n jf b1 Ag u m)
  (g:Nat) (d:ia σ) (w:O) (i0:Hp) (F:ai) (h:ag w (cG c i0 g d*(ak i0*(u*F)))) (a1:Ending->O->Prop)
  (hQ:∀ e z,yI c g (.agg #[Z G 0,Z G 0,Z G 0,Z G 0,Z G 0,Z G 0,Z G 0,Z G 0,Z G 0,Z G 0,Z G 0,Z G 0,Z G 0,Z G 0,Z G 0,Z G 0,Z G 0,Z G 0,Z G 0,Z G 0]) Ag i0 (u*F) w (eu m d) e z->a1 e z) :
  Calls Q 151 #[gq g n,.func (.func jf) #[] b1] w a1:=by
 have HQ:=ae hQ;clear hQ;have o1:=ot Q;have q1:¬ ((n:Int)<4):=by omega
 have t1:¬ ((n:Int) > 3840):=by omega
 have Hj:=ae hj;unfold gq
 go_enter_defers func151,ntmps151
 have H3:=((h.alloc (Y #[X (U ⟨g,0,V⟩),Z G (n:Int)] 83 (0,0))).alloc (Y #[Z G 0,Z G 0,Z G 0,Z G 0,Z G 0,Z G 0,Z G 0,Z G 0,Z G 0,Z G 0,Z G 0,Z G 0,Z G 0,Z G 0,Z G 0,Z G 0,Z G 0,Z G 0,Z G 0,Z G 0] 73 (0,0))).alloc (Y #[Z G 0] 28 (0,0));have D3:=(((aj.refl w).alloc (Y #[X (U ⟨g,0,V⟩),Z G (n:Int)] 83 (0,0))).alloc (Y #[Z G 0,Z G 0,Z G 0,Z G 0,Z G 0,Z G 0,Z G 0,Z G 0,Z G 0,Z G 0,Z G 0,Z G 0,Z G 0,Z G 0,Z G 0,Z G 0,Z G 0,Z G 0,Z G 0,Z G 0] 73 (0,0))).alloc (Y #[Z G 0] 28 (0,0));simp only [G3] at H3
 go_wp2_with fail
 generalize ((w.alloc (Y #[X (U ⟨g,0,V⟩),Z G (n:Int)] 83 (0,0))).alloc (Y #[Z G 0,Z G 0,Z G 0,Z G 0,Z G 0,Z G 0,Z G 0,Z G 0,Z G 0,Z G 0,Z G 0,Z G 0,Z G 0,Z G 0,Z G 0,Z G 0,Z G 0,Z G 0,Z G 0,Z G 0] 73 (0,0))).alloc (Y #[Z G 0] 28 (0,0))=w3 at H3 D3 ⊢;clear h;generalize w.heap.size+1+1=r at *;generalize w.heap.size+1=o at *;generalize w.heap.size=q at *;have s0:w3.cell? ⟨q,0,V⟩=U (X (U ⟨g,0,V⟩)):=H3.aq.cell 0;have s1:w3.cell? ⟨q,1,V⟩=U (Z G (n:Int)):=H3.aq.cell 1;have y:ag w3 (aA 176 5 i0 g c.rd d.err d.W d.D*(ak i0*(c.RI d.s*(pt r (Y #[Z G 0] 28 (0,0))*(pt o (Y #[Z G 0,Z G 0,Z G 0,Z G 0,Z G 0,Z G 0,Z G 0,Z G 0,Z G 0,Z G 0,Z G 0,Z G 0,Z G 0,Z G 0,Z G 0,Z G 0,Z G 0,Z G 0,Z G 0,Z G 0] 73 (0,0))*(pt q (Y #[X (U ⟨g,0,V⟩),Z G (n:Int)] 83 (0,0))*(u*F))))))):=H3.to (by unfold cG;ac_rfl);have h1:=pP w3.drew i0 g c.rd d.err d.W d.D _ y.drew ⟨_,_,rfl⟩;have Z0:=ae h1;clear h1
 go_region_held3 (fun z=>z.cell? ⟨q,0,V⟩=U (X (U ⟨g,0,V⟩))/\z.cell? ⟨q,1,V⟩=U (Z G (n:Int)))
  (first|exact ⟨s0,s1⟩|exact f0|go_keep)
  (first|(go_at_call 135;refine (Z0.out).mono ?_;rintro e w4 ⟨E,f,K0,rfl,h4,d4⟩;have f0:w4.cell? ⟨q,0,V⟩=U (X (U ⟨g,0,V⟩))/\w4.cell? ⟨q,1,V⟩=U (Z G (n:Int)):=⟨h4.bP.cell 0,h4.bP.cell 1⟩))
 have D5:=(D3.drew.trans d4).alloc (Y #[X (U ⟨f,0,V⟩),Z G (n:Int),R V 0 0,I N] 149 (0,0));have H5:=h4.alloc (Y #[X (U ⟨f,0,V⟩),Z G (n:Int),R V 0 0,I N] 149 (0,0))
 have X0:ag (w4.alloc (Y #[X (U ⟨f,0,V⟩),Z G (n:Int),R V 0 0,I N] 149 (0,0))) (aM (⟨c,n,w4.heap.size,f⟩:Wk σ) E ⟨d,V,N⟩*(ak E*(u*(aA 176 5 E g c.rd d.err d.W d.D*(pt r (Y #[Z G 0] 28 (0,0))*(pt o (Y #[Z G 0,Z G 0,Z G 0,Z G 0,Z G 0,Z G 0,Z G 0,Z G 0,Z G 0,Z G 0,Z G 0,Z G 0,Z G 0,Z G 0,Z G 0,Z G 0,Z G 0,Z G 0,Z G 0,Z G 0] 73 (0,0))*(pt q (Y #[X (U ⟨g,0,V⟩),Z G (n:Int)] 83 (0,0))*F))))))):=
  sa (H5.to (by ac_rfl))
 have L0:=Hj.out ⟨c,n,w4.heap.size,f⟩ _ E ⟨d,V,N⟩ _ rfl rfl X0;rename_i r0;clear s0 s1 y Z0 f0 r0 D3 d4 h4 H5 X0 Hj hj H3;generalize w4.alloc (Y #[X (U ⟨f,0,V⟩),Z G (n:Int),R V 0 0,I N] 149 (0,0))=w5 at *;generalize w4.heap.size=k at *;obtain ⟨⟨R0,j⟩,hp⟩:∃ p,m ⟨d,V,N⟩=p:=⟨_,rfl⟩
 rw [hp] at L0
 cases R0 with
 | bad cN=>
  have HE:=ae (kE hp);clear hp
  go_wp2_with fail
  (with_reducible refine L0.mono ?_)
  rintro e w6 ⟨A,e0,d6,rfl,h6⟩;have h7:=sr h6
  have B:ag w6 (c.RI j.b.s*(aA 176 5 E g c.rd d.err d.W d.D*(pt r (Y #[Z G 0] 28 (0,0))*(pt o (Y #[Z G 0,Z G 0,Z G 0,Z G 0,Z G 0,Z G 0,Z G 0,Z G 0,Z G 0,Z G 0,Z G 0,Z G 0,Z G 0,Z G 0,Z G 0,Z G 0,Z G 0,Z G 0,Z G 0,Z G 0] 73 (0,0))*(ak A*(u*F)))))):=
   (h7.to (by ac_rfl:_=pt q (Y #[X (U ⟨g,0,V⟩),Z G (n:Int)] 83 (0,0))*(c.RI j.b.s*(aA 176 5 E g c.rd d.err d.W d.D*(pt r (Y #[Z G 0] 28 (0,0))*(pt o (Y #[Z G 0,Z G 0,Z G 0,Z G 0,Z G 0,Z G 0,Z G 0,Z G 0,Z G 0,Z G 0,Z G 0,Z G 0,Z G 0,Z G 0,Z G 0,Z G 0,Z G 0,Z G 0,Z G 0,Z G 0] 73 (0,0))*(ak A*(u*F)))))))).right
  have y:=mu e0 B;have x:ag w6 (pt o (Y #[Z G 0,Z G 0,Z G 0,Z G 0,Z G 0,Z G 0,Z G 0,Z G 0,Z G 0,Z G 0,Z G 0,Z G 0,Z G 0,Z G 0,Z G 0,Z G 0,Z G 0,Z G 0,Z G 0,Z G 0] 73 (0,0))*(pt r (Y #[Z G 0] 28 (0,0))*(cG c A g { d with s:=j.b.s }*(ak A*(u*F))))):=y.to (by ac_rfl)
  go_wp2_with fail
  exact vS rfl rfl x rfl fun z S h0=>HQ.out _ _ (by rw [HE.out];exact ⟨A,K0.trans e0,(D5.trans d6).trans h0,rfl,S⟩)
 | ok a=>
  go_wp2_with fail
  (with_reducible refine L0.mono ?_)
  rintro e w6 ⟨A,v6,e0,d6,rfl,h6⟩;obtain ⟨⟨rfl,V0⟩,h7⟩:=ag.au.1 h6;have d1:a.v = .agg (ints a.l):=rfl;have hX:(ints a.l).size=20:=by rw [dz,Nd.cells V0]
  have j1:(ints a.l).all (·.oneCell')=J:=by simp [ints,Q3]
  have g1:∀ w (U0:ai),ag w U0->ag w (Ag a (.agg (ints a.l))*U0):=fun w U0 h=>ag.au.2 ⟨⟨rfl,V0⟩,h⟩;rw [d1];clear V0 h6 d1;generalize ints a.l=i at *;have i1:(prog.info? 73).map (·.size)=U i.size:=by rw [hX];exact bf
  have g0:=ae i1;have p0:=ae j1;have HX:=ae hX;have Y0:=ae g1;clear i1 j1 hX g1;obtain ⟨K,B⟩:=ag.eY h7;clear L0 h7;have y:ag w6 (pt o (Y #[Z G 0,Z G 0,Z G 0,Z G 0,Z G 0,Z G 0,Z G 0,Z G 0,Z G 0,Z G 0,Z G 0,Z G 0,Z G 0,Z G 0,Z G 0,Z G 0,Z G 0,Z G 0,Z G 0,Z G 0] 73 (0,0))*(pt r (Y #[Z G 0] 28 (0,0))*(pt q (Y #[X (U ⟨g,0,V⟩),Z G (n:Int)] 83 (0,0))*(pt k (Y #[X (U ⟨f,0,V⟩),Z G (n:Int),K,I j.dt] 149 (0,0))*(cG c A f j.b*(bW j.bits K*(ak A*(aA 176 5 E g c.rd d.err d.W d.D*(u*F))))))))):=B.to (by unfold bp Wk.cells;ac_rfl);have T0:=ae y.heap;have x:=y.setRow (cs':=i);have D0:=(D5.trans d6).setRow o i;have k3:(w6.setRow o i).cell? ⟨k,3,V⟩=U (I j.dt):=x.aD.cell 3;clear B y D5 d6
  cases b0:j.dt with
  | false=>
   have HE:=ae (mY hp b0);rw [b0] at k3 x;clear hp b0
   go_wp2_with (refine wpList_store_row (by exact rfl) 73 (.tmp 4) (.tmp 31) (by exact rfl) o i (by exact rfl) (by exact rfl) 73 _ (by with_reducible exact T0.out) g0.out (by rw [HX.out];rfl) p0.out ?_)
   generalize w6.setRow o i=w7 at *;have u0:ag w7 (aA 176 5 E g c.rd d.err d.W d.D*(aA 176 5 A f c.rd j.b.err j.b.W j.b.D*(ak A*(c.RI j.b.s*(pt o (Y i 73 (0,0))*(pt r (Y #[Z G 0] 28 (0,0))*(pt q (Y #[X (U ⟨g,0,V⟩),Z G (n:Int)] 83 (0,0))*(pt k (Y #[X (U ⟨f,0,V⟩),Z G (n:Int),K,I N] 149 (0,0))*(bW j.bits K*(u*F)))))))))):=x.to (by unfold cG;ac_rfl);have d0:=u0.fp (dK e0);have s0:w7.cell? ⟨q,0,V⟩=U (X (U ⟨g,0,V⟩)):=d0.bP.cell 0;have k0:w7.cell? ⟨k,0,V⟩=U (X (U ⟨f,0,V⟩)):=d0.dR.cell 0;have x0:=ae (iE w7.drew A g f c.rd c.rd j.b.err d.err j.b.W j.b.D d.W d.D _ d0.drew ⟨_,_,rfl⟩);clear u0 d0 x
   go_region_held3 (fun z=>z.cell? ⟨q,0,V⟩=U (X (U ⟨g,0,V⟩))/\z.cell? ⟨k,0,V⟩=U (X (U ⟨f,0,V⟩)))
    (first|exact ⟨s0,k0⟩|exact f0|go_keep)
    (first|(go_at_call 138;refine (x0.out).mono ?_;rintro e C ⟨v,l0,rfl,B,P⟩;have f0:C.cell? ⟨q,0,V⟩=U (X (U ⟨g,0,V⟩))/\C.cell? ⟨k,0,V⟩=U (X (U ⟨f,0,V⟩)):=⟨B.bP.cell 0,B.dR.cell 0⟩))
   all_goals
    rename_i r0;have y:ag C (pt o (Y i 73 (0,0))*(pt r (Y #[Z G 0] 28 (0,0))*((cG c v g j.b*(ak v*(u*F)))*(pt q (Y #[X (U ⟨g,0,V⟩),Z G (n:Int)] 83 (0,0))*(pt k (Y #[X (U ⟨f,0,V⟩),Z G (n:Int),K,I N] 149 (0,0))*(aA 176 5 v f c.rd j.b.err j.b.W j.b.D*bW j.bits K)))))):=B.to (by unfold cG;ac_rfl);have q0:=ae y.heap;have c0:=y.setRow (cs':=i);have e9:(C.setRow o i).cell? ⟨r,0,V⟩=U (Z G 0):=c0.ah.cell 0;have g9:(C.setRow o i).frozen? ⟨r,0,V⟩=N:=c0.ah.frozen 0;have x:=((c0.ah.setCell 0 (Z G 0)).ah)
    have D9:=(((D0).drew.trans P).setRow o i).setCell ⟨r,0,V⟩ (Z G 0);have HD:=ae D9;have S0:=ae x;clear x0 s0 k0 f0 B y c0 x D9 r0 P
    go_wp2_with (first|(refine wpList_load_row (by exact rfl) 73 (.tmp 4) (by exact rfl) o (by exact rfl) 73 i (0,0) _ (by with_reducible exact q0.out) underlying73 rfl g0.out ?_)|(refine wpList_store_row (by exact rfl) 73 (.tmp 4) (.tmp 49) (by exact rfl) o i (by exact rfl) (by exact rfl) 73 i (by with_reducible exact q0.out) g0.out rfl p0.out ?_))
    exact wG rfl rfl S0.out HX.out fun z S h0=>HQ.out _ _ (by rw [HE.out];exact ⟨v,_,K0.trans (e0.trans l0),HD.out.trans h0,rfl,Y0.out _ _ ((S.left).to (by ac_rfl))⟩)
  | true=>
   have n0:=fun st'=>oK (st':=st') hp b0;have o0:=fun st' c=>sf (st':=st') (c:=c) hp b0;have n0:=ae n0;have o0:=ae o0;rw [b0] at k3 x;have k2:(w6.setRow o i).cell? ⟨k,2,V⟩=U K:=x.aD.cell 2;have W0:Rd (w6.setRow o i) K (j.bits.getD []):=xt x.du
   have S:ag (w6.setRow o i) (bp (⟨c,n,k,f⟩:Wk σ) K A j*(ak A*(pt o (Y i 73 (0,0))*(pt r (Y #[Z G 0] 28 (0,0))*(pt q (Y #[X (U ⟨g,0,V⟩),Z G (n:Int)] 83 (0,0))*(bW j.bits K*(aA 176 5 E g c.rd d.err d.W d.D*(u*F)))))))):=
    x.to (by unfold bp Wk.cells;rw [b0];ac_rfl)
   have N0:=jq (⟨c,n,k,f⟩:Wk σ) _ K A j 0 K (j.bits.getD []) _ S W0
   obtain ⟨va,vl,vc,rfl⟩:∃ a l c,K = R a l c:=by
    obtain ⟨a,c,e⟩:=W0.shape;exact ⟨_,_,_,e⟩
   have e1:∀ st' R0,bO 0 (j.bits.getD []) j=(R0,st')->st'.dt=J:=fun st' R0 h=>by
    unfold bO at h
    split at h
    .simp only [Prod.mk.injEq] at h;rw [<- h.2];exact b0
    .simp only [Prod.mk.injEq] at h;rw [<- h.2];exact b0
   obtain ⟨⟨r2,t⟩,m0⟩:∃ p,bO 0 (j.bits.getD []) j=p:=⟨_,rfl⟩
   rw [m0] at N0;have f1:=e1 _ _ m0;have l1:=ae f1;clear hp b0 S W0 e1 f1
   cases r2 with
   | bad cN=>
    have HE:=ae (o0.out _ _ m0);clear m0 n0 o0
    go_wp2_with (refine wpList_store_row (by exact rfl) 73 (.tmp 4) (.tmp 31) (by exact rfl) o i (by exact rfl) (by exact rfl) 73 _ (by with_reducible exact T0.out) g0.out (by rw [HX.out];rfl) p0.out ?_)
    (with_reducible refine N0.mono ?_)
    rintro e C ⟨v,l0,P,rfl,F0⟩
    have G0:ag C (c.RI t.b.s*(aA 176 5 E g c.rd d.err d.W d.D*(pt o (Y i 73 (0,0))*(pt r (Y #[Z G 0] 28 (0,0))*(ak v*(u*F)))))):=
     (F0.to (by unfold bp cG;ac_rfl:_=(pt k (Y ((⟨c,n,k,f⟩:Wk σ).cells (R va vl vc) t.dt) 149 (0,0))*(aA 176 5 v f c.rd t.b.err t.b.W t.b.D*(pt q (Y #[X (U ⟨g,0,V⟩),Z G (n:Int)] 83 (0,0))*bW j.bits (R va vl vc))))*(c.RI t.b.s*(aA 176 5 E g c.rd d.err d.W d.D*(pt o (Y i 73 (0,0))*(pt r (Y #[Z G 0] 28 (0,0))*(ak v*(u*F)))))))).right
    have H0:=mu (e0.trans l0) G0;have m1:ag C (pt o (Y i 73 (0,0))*(pt r (Y #[Z G 0] 28 (0,0))*(cG c v g { d with s:=t.b.s }*(ak v*(u*F))))):=H0.to (by ac_rfl)
    go_wp2_with fail
    exact vS rfl rfl m1 HX.out fun z S h0=>HQ.out _ _ (by rw [HE.out];exact ⟨v,K0.trans (e0.trans l0),(D0.trans P).trans h0,rfl,S⟩)
   | ok u1=>
    have HE:=ae (n0.out _ m0);clear m0 n0 o0
    go_wp2_with (refine wpList_store_row (by exact rfl) 73 (.tmp 4) (.tmp 31) (by exact rfl) o i (by exact rfl) (by exact rfl) 73 _ (by with_reducible exact T0.out) g0.out (by rw [HX.out];rfl) p0.out ?_)
    (with_reducible refine N0.mono ?_)
    rintro e w7 ⟨v,v8,l0,P,rfl,F0⟩;obtain ⟨rfl,G0⟩:=ag.au.1 F0;have H0:ag w7 (pt o (Y i 73 (0,0))*(pt r (Y #[Z G 0] 28 (0,0))*(pt q (Y #[X (U ⟨g,0,V⟩),Z G (n:Int)] 83 (0,0))*(pt k (Y #[X (U ⟨f,0,V⟩),Z G (n:Int),(R va vl vc),I J] 149 (0,0))*(cG c v f t.b*(bW j.bits (R va vl vc)*(ak v*(aA 176 5 E g c.rd d.err d.W d.D*(u*F))))))))):=G0.to (by unfold bp Wk.cells;rw [l1.out];ac_rfl);have k1:=D0.trans P;have c1:=e0.trans l0;clear N0 F0 G0 D0 P x k2 k3
    go_wp2_with fail
    have u0:ag w7 (aA 176 5 E g c.rd d.err d.W d.D*(aA 176 5 v f c.rd t.b.err t.b.W t.b.D*(ak v*(c.RI t.b.s*(pt o (Y i 73 (0,0))*(pt r (Y #[Z G 0] 28 (0,0))*(pt q (Y #[X (U ⟨g,0,V⟩),Z G (n:Int)] 83 (0,0))*(pt k (Y #[X (U ⟨f,0,V⟩),Z G (n:Int),(R va vl vc),I J] 149 (0,0))*(bW j.bits (R va vl vc)*(u*F)))))))))):=H0.to (by unfold cG;ac_rfl);have d0:=u0.fp (dK c1);have s0:w7.cell? ⟨q,0,V⟩=U (X (U ⟨g,0,V⟩)):=d0.bP.cell 0;have k0:w7.cell? ⟨k,0,V⟩=U (X (U ⟨f,0,V⟩)):=d0.dR.cell 0;have x0:=ae (iE w7.drew v g f c.rd c.rd t.b.err d.err t.b.W t.b.D d.W d.D _ d0.drew ⟨_,_,rfl⟩);clear u0 d0 H0
    go_region_held3 (fun z=>z.cell? ⟨q,0,V⟩=U (X (U ⟨g,0,V⟩))/\z.cell? ⟨k,0,V⟩=U (X (U ⟨f,0,V⟩)))
     (first|exact ⟨s0,k0⟩|exact f0|go_keep)
     (first|(go_at_call 138;refine (x0.out).mono ?_;rintro e C ⟨S5,n1,rfl,B,P⟩;have f0:C.cell? ⟨q,0,V⟩=U (X (U ⟨g,0,V⟩))/\C.cell? ⟨k,0,V⟩=U (X (U ⟨f,0,V⟩)):=⟨B.bP.cell 0,B.dR.cell 0⟩))
    all_goals
     rename_i r0;have y:ag C (pt o (Y i 73 (0,0))*(pt r (Y #[Z G 0] 28 (0,0))*((cG c S5 g t.b*(ak S5*(u*F)))*(pt q (Y #[X (U ⟨g,0,V⟩),Z G (n:Int)] 83 (0,0))*(pt k (Y #[X (U ⟨f,0,V⟩),Z G (n:Int),(R va vl vc),I J] 149 (0,0))*(aA 176 5 S5 f c.rd t.b.err t.b.W t.b.D*bW j.bits (R va vl vc))))))):=B.to (by unfold cG;ac_rfl);have q0:=ae y.heap;have c0:=y.setRow (cs':=i);have e9:(C.setRow o i).cell? ⟨r,0,V⟩=U (Z G 0):=c0.ah.cell 0;have g9:(C.setRow o i).frozen? ⟨r,0,V⟩=N:=c0.ah.frozen 0;have x:=((c0.ah.setCell 0 (Z G 0)).ah)
     have D9:=(((k1).drew.trans P).setRow o i).setCell ⟨r,0,V⟩ (Z G 0);have HD:=ae D9;have S0:=ae x;clear x0 s0 k0 f0 B y c0 x D9 r0 P
     go_wp2_with (first|(refine wpList_load_row (by exact rfl) 73 (.tmp 4) (by exact rfl) o (by exact rfl) 73 i (0,0) _ (by with_reducible exact q0.out) underlying73 rfl g0.out ?_)|(refine wpList_store_row (by exact rfl) 73 (.tmp 4) (.tmp 49) (by exact rfl) o i (by exact rfl) (by exact rfl) 73 i (by with_reducible exact q0.out) g0.out rfl p0.out ?_))
     exact wG rfl rfl S0.out HX.out fun z S h0=>HQ.out _ _ (by rw [HE.out];exact ⟨S5,_,K0.trans (c1.trans n1),HD.out.trans h0,rfl,Y0.out _ _ ((S.left).to (by ac_rfl))⟩)
end
end Go.Proofs.Fs
namespace Go.SL
open Go.RowKit
def Rs.code {α:Type}:Rs α->Int
 | .ok _=>0
 | .bad c=>c
end Go.SL
namespace Go.Proofs.Fs
open Go.RowKit Go.SL Go.Proofs.Ba
section
variable {σ α:Type}
theorem uR {w:O} {d:Array M} {a:Nat} {F:ai} (e:d[3]?=U (ay a)) (f:ag w (pt a (Y #[] 202 (0,0))*F)) :
  (results Tryz.f140 d).run Q w = .ok (.agg #[]) w:=by
 have g:=run_loadVar_row (P:=Q) w a 202 202 #[] (0,0) _ f.heap underlying202 rfl dy;simp [results,Tryz.results140,e,asAddr,g]
def La (e:Nat) (f:FuncId) (d:Array M):ai:=pt e (Y #[.func (.func f) #[] d] 139 (0,0))
theorem Fi {c:Cx σ} {n:Nat} {d:FuncId} {g:Array M} {j:ai} {m:WM σ Unit} (jN:∀ (args:Array M) (w:O),(callFunc d args).run Q w = .ok (.enter d args) w)
  (P:Em c n d g lM j m) (e:Nat):Em c n 140 #[X (U ⟨e,0,V⟩)] GX (La e d g*j) m:=by
 intro x w S st F b0 c0 h;have i:=fun w F h=>P x w S st F b0 c0 h;have y:=ae i;have E:=h.alloc (Y #[] 202 (0,0));have A:=(aj.refl w).alloc (Y #[] 202 (0,0));clear P h i b0 c0;show Calls Q 140 #[X (U ⟨x.k,0,V⟩),X (U ⟨e,0,V⟩)] w _
 go_enter func140,ntmps140
 have r:ag (w.alloc (Y #[] 202 (0,0))) (La e d g*(pt w.heap.size (Y #[] 202 (0,0))*(aM x S st*(ak S*(j*F))))):=E.to (by ac_rfl);have cj:(w.alloc (Y #[] 202 (0,0))).cell? ⟨e,0,V⟩=U (.func (.func d) #[] g):=r.cell 0;have K:ag (w.alloc (Y #[] 202 (0,0))) (aM x S st*(ak S*(j*(La e d g*(pt w.heap.size (Y #[] 202 (0,0))*F))))):=r.to (by ac_rfl);have i:=y.out _ _ K;clear y E r K;obtain ⟨⟨e0,z⟩,hp⟩:∃ p,m st=p:=⟨_,rfl⟩
 rw [hp] at i ⊢;clear hp
 cases e0 with
 | bad cN=>
  go_wp2_with fail
  generalize w.alloc (Y #[] 202 (0,0))=w1 at *;generalize w.heap.size=o at *
  (with_reducible refine i.mono ?_)
  rintro d0 w2 ⟨f,t,q,rfl,l⟩
  go_wp2_with fail
  exact ⟨rfl,f,t,A.trans q,rfl,(l.to (by ac_rfl:_=pt o (Y #[] 202 (0,0))*(aM x f z*(ak f*(La e d g*j*F))))).right⟩
 | ok g0=>
  go_wp2_with fail
  generalize w.alloc (Y #[] 202 (0,0))=w1 at *;generalize w.heap.size=o at *
  (with_reducible refine i.mono ?_)
  rintro d0 w2 ⟨f,v,t,q,rfl,l⟩;obtain ⟨rfl,B⟩:=ag.au.1 l;have C:ag w2 (pt o (Y #[] 202 (0,0))*(aM x f z*(ak f*(La e d g*j*F)))):=B.to (by ac_rfl);have u:=ae C;clear l B C i cj
  go_wp2_with (refine wpList_store_mid (by exact rfl) 202 (.tmp 3) (.tmp 7) (by exact rfl) o 0 #[] (by exact rfl) (by exact rfl) (by exact fun f0 h=>absurd h (M2 _)) (by exact dy) (by exact rfl) ?_)
  exact bodyPost_ret (uR rfl u.out) rfl ⟨f,_,t,A.trans q,rfl,ag.au.2 ⟨rfl,u.out.right⟩⟩
def Mi (c:Cx σ) (g:Nat) (S:Hp) (F:ai) (w:O) (p:Rs Unit × ia σ) (e:Ending) (f:O):Prop:=
 ∃ d,Ext S d/\aj w f/\e = L (Z G p.1.code)/\ag f (cG c d g p.2*(ak d*F))
theorem Bd (c:Cx σ) (hc:c.Ok) (n:Nat) (e0:4<=n) (f0:n<=3840) (f:FuncId) (g:Array M) (j:ai) (m:WM σ Unit)
  (jN:∀ (args:Array M) (w:O),(callFunc f args).run Q w = .ok (.enter f args) w) (hj:Em c n f g lM j m)
  (d:Nat) (q:ia σ) (w:O) (S:Hp) (F:ai) (h:ag w (cG c S d q*(ak S*(j*F)))) (x:Ending->O->Prop)
  (hQ:∀ e i,Mi c d S (j*F) w (eu m q) e i->x e i) :
  Calls Q 80 #[gq d n,.func (.func f) #[] g] w x:=by
 have h0:=ot Q;have P:=ae hQ;have c0:=fun o w F h=>KH c hc n e0 f0 140 #[X (U ⟨o,0,V⟩)] (La o f g*j) m (fun args w=>enters func140 (by kernel_rfl) rfl args w) (Fi jN hj o) d q w S F h;have b0:=ae c0;have z:=(h.alloc (Y #[X (U ⟨d,0,V⟩),Z G (n:Int)] 83 (0,0))).alloc (Y #[.func (.func f) #[] g] 139 (0,0));have dA:=((aj.refl w).alloc (Y #[X (U ⟨d,0,V⟩),Z G (n:Int)] 83 (0,0))).alloc (Y #[.func (.func f) #[] g] 139 (0,0));simp only [G3] at z;clear hQ c0 hj h jN;unfold gq
 go_enter func80,ntmps80
 go_wp2_with fail
 have hB:ag ((w.alloc (Y #[X (U ⟨d,0,V⟩),Z G (n:Int)] 83 (0,0))).alloc (Y #[.func (.func f) #[] g] 139 (0,0)))
   (cG c S d q*(ak S*(La (w.heap.size+1) f g*j*(pt w.heap.size (Y #[X (U ⟨d,0,V⟩),Z G (n:Int)] 83 (0,0))*F)))):=z.to (by unfold La;ac_rfl)
 refine b0.out (w.heap.size+1) _ _ hB _ ?_;clear z hB b0;generalize (w.alloc (Y #[X (U ⟨d,0,V⟩),Z G (n:Int)] 83 (0,0))).alloc (Y #[.func (.func f) #[] g] 139 (0,0))=w1 at *;generalize w.heap.size+1=o at *;generalize w.heap.size=sp at *;have E:=ae (fun e i=>P.out e i);clear P;obtain ⟨⟨d0,u⟩,B⟩:∃ p,eu m q=p:=⟨_,rfl⟩
 rw [B];have K:RowKit.Hid (∀ e i,Mi c d S (j*F) w (d0,u) e i->x e i):=fun e i h=>E.out e i (by rw [B];exact h);clear E B
 cases d0 with
 | bad cN=>
  rintro e C ⟨l,A,y,rfl,r⟩;have t:=ae (r.to (by ac_rfl:_=(cG c l d u*(ak l*(j*F)))*(La o f g*pt sp (Y #[X (U ⟨d,0,V⟩),Z G (n:Int)] 83 (0,0)))));clear r
  go_wp2_with (refine wpList_store_mid (by exact rfl) 202 (.tmp 5) (.tmp 11) (by exact rfl) C.heap.size 0 #[] (by exact rfl) (by exact rfl) (by exact fun g0 h=>absurd h (M2 _)) (by exact dy) (by exact rfl) ?_)
  exact K.out _ _ ⟨l,A,(dA.trans y).alloc _,rfl,(t.out.alloc _).right.left⟩
 | ok i0=>
  rintro e C ⟨l,v,A,y,rfl,r⟩;obtain ⟨rfl,h3⟩:=ag.au.1 r;have t:=ae (h3.to (by ac_rfl:_=(cG c l d u*(ak l*(j*F)))*(La o f g*pt sp (Y #[X (U ⟨d,0,V⟩),Z G (n:Int)] 83 (0,0)))));clear r h3
  go_wp2_with (refine wpList_store_mid (by exact rfl) 202 (.tmp 5) (.tmp 11) (by exact rfl) C.heap.size 0 #[] (by exact rfl) (by exact rfl) (by exact fun g0 h=>absurd h (M2 _)) (by exact dy) (by exact rfl) ?_)
  exact K.out _ _ ⟨l,A,(dA.trans y).alloc _,rfl,(t.out.alloc _).right.left⟩
end
end Go.Proofs.Fs
namespace Go.SL
open Go.RowKit
section
variable {σ:Type}
def cY (id:Nat) (d:Int):Hd:=⟨id,⟨d,1,0,J2 16 0,0⟩,J2 240 0⟩
def CR (d:Int) (id:Nat):WM σ Nat:=WM.bind (dZ (cY id d)) fun _=>WM.pure id
def ve (ask:dD σ) (n:Nat) (d:Int):WM σ Nat:=fun st=>if d=1\/d=2 then (WM.bind (ic ask n) (CR d)) st else (.bad 1,st)
end
end Go.SL
namespace Go.Proofs.Fs
open Go.RowKit Go.SL Go.Proofs.Ba
section
variable {σ α:Type}
def bG (b:Nat) (z:Int):ai:=pt b (Y #[Z G z] 3 (0,0))
theorem nt (id:Nat) (d:Int):(cY id d).fit:=⟨rfl,rfl⟩
theorem MG {c:Cx σ} (hc:c.Ok) {n:Nat} (hn:n<=3840) (d:Int) (f:Nat):Em c n 121 #[X (U ⟨f,0,V⟩)] Ia (bG f d) (ve c.ask n d):=by
 intro x w S st F q0 r0 h;subst q0 r0;have ck:w.cell? ⟨f,0,V⟩=U (Z G d):=(h.to (by ac_rfl:_=bG f d*(aM x S st*(ak S*F)))).cell 0;show Calls Q 121 #[X (U ⟨x.k,0,V⟩),X (U ⟨f,0,V⟩)] w _
 by_cases z:d=1\/d=2
 .have C:=mQ x hc hn w S st _ h
  have y:ve x.c.ask x.n d st=(WM.bind (ic x.c.ask x.n) (CR d)) st:=if_pos z;rw [y];obtain ⟨⟨r,t⟩,i⟩:∃ p,ic x.c.ask x.n st=p:=⟨_,rfl⟩
  rw [i] at C;clear y h
  cases r with
  | bad cN=>
   rw [WM.bK i];clear i;rcases z with rfl|rfl
   all_goals
    go_enter func121,ntmps121
    go_wp2_with fail
    (with_reducible refine (gW w).mono ?_)
    rintro e g ⟨rfl,rfl⟩
    go_wp2_with fail
    (with_reducible refine C.mono ?_)
    rintro e g ⟨j,A,E,rfl,u⟩
    go_wp2_with fail
    exact ⟨rfl,j,A,E,rfl,u⟩
  | ok id=>
   rw [WM.bd i];clear i;have B:=n7 (id:Int) (cY id d).n (nt id d).1;have m0:=ae B;obtain ⟨q,b0⟩:∃ o0,o0=ints ((id:Int) :: ((cY id d).n.l++J2 240 0)):=⟨_,rfl⟩
   rw [<- b0] at B;have h0:q=ints (cY id d).l:=b0;have l0:=ae h0;clear m0 b0 h0
   have i0:∀ p,dZ (cY id d) t=p->∀ r o,p=(r,o)->CR d id t=(match r with | .ok _=>.ok id | .bad c=>.bad c,o):=by
    intro p i r o he;subst he
    cases r with
    | ok s0=>exact WM.bd i
    | bad c=>exact WM.bK i
   obtain ⟨⟨r2,o⟩,d0⟩:∃ p,dZ (cY id d) t=p:=⟨_,rfl⟩
   have g0:=i0 _ d0 r2 o rfl;rw [g0];have e0:=fun w S hb F h p0 hQ=>yF x w S t hb (cY id d) F h p0 hQ;rw [d0] at e0;have f0:=ae e0;have k0:=nt id d;have n0:=ae k0;clear i0 g0 d0 e0 k0;rcases z with rfl|rfl
   all_goals
    have Hb:=ae B;clear B
    go_enter func121,ntmps121
    go_wp2_with fail
    (with_reducible refine (gW w).mono ?_)
    rintro e g ⟨rfl,rfl⟩
    go_wp2_with fail
    (with_reducible refine C.mono ?_)
    rintro e g ⟨j,v,A,E,rfl,u⟩;obtain ⟨rfl,P⟩:=ag.au.1 u;have u0:g.cell? ⟨f,0,V⟩=U _:=(P.to (by ac_rfl:_=bG f _*(aM x j t*(ak j*F)))).cell 0;clear ck;have h4:=P.alloc (Y q 137 (0,0));have h5:ag (g.alloc (Y q 137 (0,0))) (aY g.heap.size (cY id _)*(aM x j t*(ak j*(bG f _*F)))):=ag.held.2 ⟨n0.out,by rw [l0.out] at h4 ⊢;exact h4⟩;have D5:=E.alloc (Y q 137 (0,0));have H5:=ae h5;clear u P h4 h5 C
    go_wp2_with (refine gn (by exact rfl) 137 #[(0,.tmp 15),(1,.tmp 17)] (by exact rfl) _ (by exact rfl) q (by exact Hb.out) ?_)
    refine f0.out _ j _ _ H5.out _ ?_;clear H5 f0;generalize g.alloc (Y q 137 (0,0))=w3 at *
    cases r2 with
    | bad cN=>
     rintro e w4 ⟨l,c0,K,rfl,h6⟩
     go_wp2_with fail
     exact ⟨rfl,l,A.trans c0,D5.trans K,rfl,(h6.to (by ac_rfl:_=aY g.heap.size (cY id _)*(aM x l o*(ak l*(bG f _*F))))).right⟩
    | ok s0=>
     rintro e w4 ⟨l,v4,c0,K,rfl,h6⟩;obtain ⟨rfl,h7⟩:=ag.au.1 h6
     go_wp2_with fail
     go_ret
     exact ⟨l,_,A.trans c0,D5.trans K,rfl,ag.au.2 ⟨rfl,(h7.to (by ac_rfl:_=aY g.heap.size (cY id _)*(aM x l o*(ak l*(bG f _*F))))).right⟩⟩
 .have y:ve x.c.ask x.n d st=(.bad 1,st):=if_neg z
  rw [y];have h1:(d == 1)=N:=by simp;omega
  have u:(d == 2)=N:=by simp;omega
  clear y z
  go_enter func121,ntmps121
  go_wp2_with fail
  (with_reducible refine (iB w).mono ?_)
  rintro e g ⟨rfl,rfl⟩
  go_wp2_with fail
  exact ⟨rfl,S,Ext.refl S,aj.refl w,rfl,h⟩
end
end Go.Proofs.Fs
namespace Go.SL
open Go.RowKit
section
variable {σ α β:Type}
def Hd.nQ (h:Hd) (z:Int):Hd:={ h with n:={ h.n with lk:=z } }
def sd (h:Hd) (z:Int):WM σ Unit:=fun st=>if 0<=z/\z<=65535 then dZ (h.nQ z) st else (.bad 1,st)
def j8 (ask:dD σ) (n:Nat) (node d:Int):WM σ Unit:=WM.bind (gR ask n node) fun h=>sd h (wrap64 (h.n.lk+d))
def oF (ask:dD σ) (n:Nat) (node:Int):WM σ Nd:=WM.bind (gR ask n node) fun h=>WM.pure h.n
theorem Hd.Eg {h:Hd} (d:h.fit) (z:Int):(h.nQ z).fit:=d
end
end Go.SL
namespace Go.Proofs.Fs
open Go.RowKit Go.SL Go.Proofs.Ba
section
variable {σ α:Type}
theorem mU (x:Wk σ) (d:x.c.Ok) (w:O) (S:Hp) (st:eZ σ) (id:Int) (F:ai) (h:ag w (aM x S st*(ak S*F))) :
  Calls Q 82 #[X (U ⟨x.k,0,V⟩),Z G id] w (WQ x rK S F w (gR x.c.ask x.n id st)):=
 tJ x d w S st id F h _ fun _ _ h=>h
theorem qt (x:Wk σ) (w:O) (S:Hp) (st:eZ σ) (d:Nat) (h:Hd) (F:ai) (hs:ag w (aY d h*(aM x S st*(ak S*F)))) :
  Calls Q 84 #[X (U ⟨x.k,0,V⟩),X (U ⟨d,0,V⟩)] w (WQ x lM S (aY d h*F) w (dZ h st)):=
 yF x w S st d h F hs _ fun _ _ h=>h
theorem ag.rK {w:O} {h:Hd} {v:M} {F:ai} (hs:ag w (rK h v*F)):∃ d,v = X (U ⟨d,0,V⟩)/\ag w (aY d h*F):=by
 obtain ⟨d,e⟩:=ag.aw.1 hs;obtain ⟨f,g⟩:=ag.au.1 (e.to (ax _ _ _));exact ⟨d,f,g⟩
theorem gz {w:O} {d:Nat} {h:Hd} {F:ai} (hs:ag w (aY d h*F)) {j:Nat} (g:j<261):w.cell? ⟨d,j,V⟩=U (Z G (h.l.getD j 0))/\w.frozen? ⟨d,j,V⟩=N:=by
 obtain ⟨f,e⟩:=ag.held.1 hs;exact ⟨by rw [e.cell,bD (by rw [Hd.sA f];exact g)],e.frozen j⟩
theorem tA {w:O} {d:Nat} {h h':Hd} {F:ai} (hs:ag w (aY d h*F)) {j:Nat} {z:Int} (f:h'.fit) (g:h'.l=h.l.set j z):ag (w.setCell ⟨d,j,V⟩ (Z G z)) (aY d h'*F):=by
 obtain ⟨_,e⟩:=ag.held.1 hs;refine ag.held.2 ⟨f,?_⟩;have:=e.setCell j (Z G z);rw [fX] at this;rw [g];exact this
theorem ag.xn {w:O} {d:Nat} {h:Hd} {F:ai} (hs:ag w (aY d h*F)):h.fit:=(ag.held.1 hs).1
theorem EW {c:Cx σ} (hc:c.Ok) {n:Nat} (node d:Int) (i g:Nat):Em c n 81 #[X (U ⟨i,0,V⟩),X (U ⟨g,0,V⟩)] lM (bG i node*bG g d) (j8 c.ask n node d):=by
 intro x w b0 st F l0 m0 h;subst l0 m0;have cn:w.cell? ⟨i,0,V⟩=U (Z G node):=(h.to (by ac_rfl:_=bG i node*(bG g d*(aM x b0 st*(ak b0*F))))).cell 0;show Calls Q 81 #[X (U ⟨x.k,0,V⟩),X (U ⟨i,0,V⟩),X (U ⟨g,0,V⟩)] w _
 have P:=mU x hc w b0 st node _ h;obtain ⟨⟨o0,o⟩,y⟩:∃ p,gR x.c.ask x.n node st=p:=⟨_,rfl⟩
 rw [y] at P
 cases o0 with
 | bad cN=>
  have u:j8 x.c.ask x.n node d st=(.bad cN,o):=WM.bK y;rw [u];clear u y h
  go_enter func81,ntmps81
  go_wp2_with fail
  (with_reducible refine P.mono ?_)
  rintro e w2 ⟨j,r,C,rfl,E⟩
  go_wp2_with fail
  exact ⟨rfl,j,r,C,rfl,E⟩
 | ok f=>
  have u:j8 x.c.ask x.n node d st=sd f (wrap64 (f.n.lk+d)) o:=WM.bd y;rw [u];clear u y h;obtain ⟨z,hz⟩:∃ z,wrap64 (f.n.lk+d)=z:=⟨_,rfl⟩
  rw [hz];have h0:f.l.getD 2 0=f.n.lk:=rfl;have Hz:=ae hz;obtain ⟨r2,e0⟩:∃ p,sd f z o=p:=⟨_,rfl⟩
  rw [e0];have B:=ae e0;clear hz e0
  go_enter func81,ntmps81
  go_wp2_with fail
  (with_reducible refine P.mono ?_)
  rintro e w2 ⟨j,v,r,C,rfl,E⟩;obtain ⟨t,rfl,K⟩:=ag.rK E;have d0:=(gz K (j:=2) (by decide)).1;rw [h0] at d0;have cd:w2.cell? ⟨g,0,V⟩=U (Z G d):=(K.to (by ac_rfl:_=bG g d*(bG i node*(aY t f*(aM x j o*(ak j*F)))))).cell 0;clear P E cn h0
  go_wp2_with fail
  go_region_held3 (fun w'=>w'.cell? ⟨t,2,V⟩=U (Z G f.n.lk)/\w'.cell? ⟨g,0,V⟩=U (Z G d)) (first|exact ⟨d0,cd⟩|go_keep) (fail)
  rename_i k0;have q:=ae K.drew;have D2:=ae C.drew;clear k0 K C d0 cd;rw [show IntKind.i64.wrap (f.n.lk+d)=z from by rw [<- Hz.out,IntKind.wrap_i64];unfold wrap64;omega];generalize w2.drew=w3 at *
  by_cases A:0<=z/\z<=65535
  .have S:dZ (f.nQ z) o=r2:=by rw [<- B.out];exact (if_pos A).symm
   have g2:=(gz q.out (j:=2) (by decide)).1;have f2:=(gz q.out (j:=2) (by decide)).2;have h4:=tA (h':=f.nQ z) q.out (j:=2) (z:=z) (Hd.Eg (ag.xn q.out) z) rfl;have f0:=qt x _ j o t (f.nQ z) _ h4;rw [S] at f0;have g0:=ae f0;have D4:=ae (D2.out.setCell ⟨t,2,V⟩ (Z G z));obtain ⟨z1,z2⟩:=A;clear h4 f0 S B;generalize f.l.getD 2 0=r0 at *;obtain ⟨r3,i0⟩:=r2
   go_wp2_with fail
   (with_reducible refine (gW w3).mono ?_)
   rintro e w4 ⟨rfl,rfl⟩
   cases r3 with
   | bad cN=>
    go_wp2_with fail
    refine g0.out.mono ?_;rintro e w5 ⟨l,c0,d5,rfl,h6⟩
    go_wp2_with fail
    exact ⟨rfl,l,r.trans c0,D4.out.trans d5,rfl,(h6.to (by ac_rfl:_=aY t (f.nQ z)*(aM x l i0*(ak l*(bG i node*bG g d*F))))).right⟩
   | ok q0=>
    go_wp2_with fail
    refine g0.out.mono ?_;rintro e w5 ⟨l,v5,c0,d5,rfl,h6⟩;obtain ⟨rfl,h7⟩:=ag.au.1 h6
    go_wp2_with fail
    go_end0
    exact ⟨l,_,r.trans c0,D4.out.trans d5,rfl,ag.au.2 ⟨rfl,(h7.to (by ac_rfl:_=aY t (f.nQ z)*(aM x l i0*(ak l*(bG i node*bG g d*F))))).right⟩⟩
  .have S:r2=(.bad 1,o):=by rw [<- B.out];exact if_neg A
   subst S;clear B
   by_cases p0:0<=z
   .have n0:decide (z<=65535)=N:=decide_eq_false (by omega)
    clear A
    go_wp2_with fail
    (with_reducible refine (iB w3).mono ?_)
    rintro e w4 ⟨rfl,rfl⟩
    go_wp2_with fail
    exact ⟨rfl,j,r,D2.out,rfl,q.out.right⟩
   .have n0:z<0:=by omega
    clear A
    go_wp2_with fail
    (with_reducible refine (iB w3).mono ?_)
    rintro e w4 ⟨rfl,rfl⟩
    go_wp2_with fail
    exact ⟨rfl,j,r,D2.out,rfl,q.out.right⟩
theorem rZ {w:O} {e:Array M} {a:Nat} {d:Array M} {F:ai} (f:e[3]?=U (ay a)) (i:ag w (pt a (Y d 73 (0,0))*F)) (g:d.size=20) :
  (results Tryz.f152 e).run Q w = .ok (.agg d) w:=by
 have j:=run_loadVar_row (P:=Q) w a 73 73 d (0,0) _ i.heap underlying73 rfl (by rw [g];exact bf);simp [results,Tryz.results152,f,asAddr,j]
theorem JG {c:Cx σ} (hc:c.Ok) {n:Nat} (node:Int) (g:Nat):Em c n 152 #[X (U ⟨g,0,V⟩)] Ag (bG g node) (oF c.ask n node):=by
 intro x w S st F l0 m0 h;subst l0 m0;show Calls Q 152 #[X (U ⟨x.k,0,V⟩),X (U ⟨g,0,V⟩)] w _
 have u:=h.alloc (Y #[Z G 0,Z G 0,Z G 0,Z G 0,Z G 0,Z G 0,Z G 0,Z G 0,Z G 0,Z G 0,Z G 0,Z G 0,Z G 0,Z G 0,Z G 0,Z G 0,Z G 0,Z G 0,Z G 0,Z G 0] 73 (0,0));have B:=(aj.refl w).alloc (Y #[Z G 0,Z G 0,Z G 0,Z G 0,Z G 0,Z G 0,Z G 0,Z G 0,Z G 0,Z G 0,Z G 0,Z G 0,Z G 0,Z G 0,Z G 0,Z G 0,Z G 0,Z G 0,Z G 0,Z G 0] 73 (0,0));have e:=u.to (by ac_rfl:_=aM x S st*(ak S*(bG g node*(pt w.heap.size (Y #[Z G 0,Z G 0,Z G 0,Z G 0,Z G 0,Z G 0,Z G 0,Z G 0,Z G 0,Z G 0,Z G 0,Z G 0,Z G 0,Z G 0,Z G 0,Z G 0,Z G 0,Z G 0,Z G 0,Z G 0] 73 (0,0))*F))));have cn:(w.alloc (Y #[Z G 0,Z G 0,Z G 0,Z G 0,Z G 0,Z G 0,Z G 0,Z G 0,Z G 0,Z G 0,Z G 0,Z G 0,Z G 0,Z G 0,Z G 0,Z G 0,Z G 0,Z G 0,Z G 0,Z G 0] 73 (0,0))).cell? ⟨g,0,V⟩=U (Z G node):=e.aq.cell 0;have t:=mU x hc _ S st node _ e;obtain ⟨⟨n0,o⟩,l⟩:∃ p,gR x.c.ask x.n node st=p:=⟨_,rfl⟩
 rw [l] at t;have hz:=ae u.heap;clear u e h
 cases n0 with
 | bad cN=>
  have i:oF x.c.ask x.n node st=(.bad cN,o):=WM.bK l;rw [i];clear i l
  go_enter func152,ntmps152
  go_wp2_with fail
  (with_reducible refine t.mono ?_)
  rintro i0 w2 ⟨f,z,q,rfl,e⟩
  go_wp2_with fail
  exact ⟨rfl,f,z,B.trans q,rfl,(e.to (by ac_rfl:_=pt w.heap.size (Y #[Z G 0,Z G 0,Z G 0,Z G 0,Z G 0,Z G 0,Z G 0,Z G 0,Z G 0,Z G 0,Z G 0,Z G 0,Z G 0,Z G 0,Z G 0,Z G 0,Z G 0,Z G 0,Z G 0,Z G 0] 73 (0,0))*(aM x f o*(ak f*(bG g node*F))))).right⟩
 | ok d=>
  have i:oF x.c.ask x.n node st=(.ok d.n,o):=WM.bd l;rw [i];clear i l
  go_enter func152,ntmps152
  go_wp2_with fail
  (with_reducible refine t.mono ?_)
  rintro i0 w2 ⟨f,v,z,q,rfl,e⟩;obtain ⟨P,rfl,r⟩:=ag.rK e;have j:=ag.xn r;have k0:=ae (qo j (ag.held.1 r).2);have b0:(prog.info? 73).map (·.size)=U (d.n.l.map (E2 G)).length:=by rw [N2,Nd.cells j.1];exact bf
  have A:(d.n.l.map (E2 G)).toArray.size=20:=by simp [Nd.cells j.1]
  have c0:(prog.info? 73).map (·.size)=U (d.n.l.map (E2 G)).toArray.size:=by rw [A];exact bf
  have d0:(d.n.l.map (E2 G)).toArray.all (·.oneCell')=J:=by simp [Q3]
  have y:ag w2 (pt w.heap.size (Y #[Z G 0,Z G 0,Z G 0,Z G 0,Z G 0,Z G 0,Z G 0,Z G 0,Z G 0,Z G 0,Z G 0,Z G 0,Z G 0,Z G 0,Z G 0,Z G 0,Z G 0,Z G 0,Z G 0,Z G 0] 73 (0,0))*(aY P d*(aM x f o*(ak f*(bG g node*F))))):=r.to (by ac_rfl);have h0:=ae y.heap;have K:=y.setRow (cs':=(d.n.l.map (E2 G)).toArray);have D5:=ae ((B.trans q).setRow w.heap.size (d.n.l.map (E2 G)).toArray);have C:=ae K;have e0:=ae b0;have f0:=ae c0;have g0:=ae d0;have E:=ae A;have Hf:=ae j;clear e r y K b0 c0 d0 j t hz cn q A
  go_wp2_with (first
   | (refine wpList_load_mid (by exact rfl) 73 (.tmp 8) (by exact rfl) P 1 (by exact rfl) (d.n.l.map (E2 G)) _ (by with_reducible exact k0.out) underlying73 rfl (by with_reducible exact e0.out) ?_)
   | (refine wpList_store_row (by exact rfl) 73 (.tmp 3) (.tmp 9) (by exact rfl) w.heap.size (d.n.l.map (E2 G)).toArray (by exact rfl) (by exact rfl) 73 #[Z G 0,Z G 0,Z G 0,Z G 0,Z G 0,Z G 0,Z G 0,Z G 0,Z G 0,Z G 0,Z G 0,Z G 0,Z G 0,Z G 0,Z G 0,Z G 0,Z G 0,Z G 0,Z G 0,Z G 0] (by with_reducible exact h0.out) f0.out (by rw [E.out];rfl) g0.out ?_))
  exact bodyPost_ret (rZ rfl C.out E.out) rfl ⟨f,_,z,D5.out,rfl,ag.au.2 ⟨⟨rfl,Hf.out.1⟩,C.out.right.right⟩⟩
end
end Go.Proofs.Fs
namespace Go.SL
open Go.RowKit
section
variable {σ:Type}
def iC (ask:dD σ):WM σ Unit:=fun st=>(WM.bind (fz ask 0 J) fun _=>WM.bind (fz ask 1 J) fun _=>dZ (cY 1 2)) { st with bits:=U (zs 480) }
def Hd.QU (h:Hd):List Int:=h.n.dr++h.row
end
end Go.SL
namespace Go.Proofs.Fs
open Go.RowKit Go.SL Go.Proofs.Ba
section
variable {σ α:Type}
theorem aJ {P:Program} {f:FuncId} {args:Array M} {w:O} {d:Ending->O->Prop} (h:∀ g:Ending->O->Prop,RowKit.Hid (∀ e w',d e w'->g e w')->Calls P f args w g):Calls P f args w d:=h d (fun _ _ h=>h)
theorem AX {c:Cx σ} (hc:c.Ok) {n:Nat}:Em c n 117 #[] lM emp (iC c.ask):=by
 intro x w S st F N0 R0 h;subst N0 R0;show Calls Q 117 #[X (U ⟨x.k,0,V⟩)] w _
 refine aJ fun S0 P=>?_;obtain ⟨v0,h1⟩:=ag.eY h;have D0:=Jo w;obtain ⟨Is,hA⟩:∃ Is,Is=({ st with bits:=U (zs 480) }:eZ σ):=⟨_,rfl⟩
 have d:iC x.c.ask st=(WM.bind (fz x.c.ask 0 J) fun _=>WM.bind (fz x.c.ask 1 J) fun _=>dZ (cY 1 2)) Is:=by rw [hA];rfl
 have o0:=ae d;have HA:=ae hA;have i0:=n7 1 (cY 1 2).n (nt 1 2).1;obtain ⟨u,g0⟩:∃ K0,K0=ints ((1:Int) :: ((cY 1 2).n.l++J2 240 0)):=⟨_,rfl⟩
 rw [<- g0] at i0;have H0:=ae (show u=ints (cY 1 2).l from g0);have Hb:=ae i0;have x0:(zs 480).length=480:=aV 480;have q0:=ae x0;clear i0 g0 d hA h x0;generalize zs 480=d0 at *;obtain ⟨⟨r1,f⟩,A⟩:∃ p,fz x.c.ask 0 J Is=p:=⟨_,rfl⟩
 have k0:∀ (w:O) (S:Hp) (F:ai),ag w (aM x S Is*(ak S*F))->Calls Q 87 #[X (U ⟨x.k,0,V⟩),Z G 0,I J] w (WQ x lM S F w (fz x.c.ask 0 J Is)):=fun w S F h=>yM x hc w S Is 0 J F (by decide) h;rw [A] at k0
 go_enter func117,ntmps117
 go_wp2_with fail
 (with_reducible refine D0.mono ?_)
 rintro e w2 ⟨v,rfl,h2,d2⟩;have z:=h2.under h1;obtain ⟨j,o,rfl⟩:=aC z;rw [q0.out] at z ⊢;have h4:ag w2 (pt x.k (Y (x.cells v0 st.dt) 149 (0,0))*(cG x.c S x.b st.b*(bs 5 (R j 480 o) d0*(ak S*(emp*F))))):=(z.to (by unfold bp;ac_rfl:_=bW st.bits v0*(pt x.k (Y (x.cells v0 st.dt) 149 (0,0))*(cG x.c S x.b st.b*(bs 5 (R j 480 o) d0*(ak S*(emp*F))))))).right
 obtain ⟨v1,n1,k1,rfl⟩:∃ a n c,v0 = R a n c:=by
  rcases ag.ny (z.to (by ac_rfl:_=bW st.bits v0*(bs 5 (R j 480 o) d0*(bp x v0 S st*(ak S*(emp*F)))))) with ⟨_,rfl,_⟩|⟨l,_,_,hx⟩
  .exact ⟨_,_,_,rfl⟩
  .obtain ⟨a,b,e⟩:=aC hx;exact ⟨_,_,_,e⟩
 have g2:w2.cell? ⟨x.k,2,V⟩=U (R v1 n1 k1):=h4.cell 2;have f2:w2.frozen? ⟨x.k,2,V⟩=N:=h4.frozen 2;have h5:=h4.setCell 2 (R j 480 o);have K:=d2.setCell ⟨x.k,2,V⟩ (R j 480 o)
 have h6:ag (w2.setCell ⟨x.k,2,V⟩ (R j 480 o)) (aM x S Is*(ak S*(emp*F))):=by
  rw [HA.out];refine ag.iK (R j 480 o) ?_;have g:=ag.oV q0.out h5.aq;exact g.to (by unfold bp Wk.cells;simp only [S3,K3,T3];ac_rfl)
 have hm:=k0 _ S _ h6;clear D0 h1 h2 z h4 h5 h6 k0
 cases r1 with
 | bad cN=>
  have d:(WM.bind (fz x.c.ask 0 J) fun _=>WM.bind (fz x.c.ask 1 J) fun _=>dZ (cY 1 2)) Is=(.bad cN,f):=WM.bK A;have q:=ae (o0.out.trans d);clear d A
  go_wp2_with fail
  (with_reducible refine hm.mono ?_)
  rintro e w3 ⟨y,t,r,rfl,g⟩
  go_wp2_with fail
  exact ⟨rfl,P.out _ _ (by rw [q.out];exact ⟨y,t,K.trans r,rfl,g⟩)⟩
 | ok T0=>
  have d:(WM.bind (fz x.c.ask 0 J) fun _=>WM.bind (fz x.c.ask 1 J) fun _=>dZ (cY 1 2)) Is=(WM.bind (fz x.c.ask 1 J) fun _=>dZ (cY 1 2)) f:=WM.bd A;have p0:=ae (o0.out.trans d);clear d A;obtain ⟨⟨r2,C⟩,B⟩:∃ p,fz x.c.ask 1 J f=p:=⟨_,rfl⟩
  have c0:∀ (w:O) (S:Hp) (F:ai),ag w (aM x S f*(ak S*F))->Calls Q 87 #[X (U ⟨x.k,0,V⟩),Z G 1,I J] w (WQ x lM S F w (fz x.c.ask 1 J f)):=fun w S F h=>yM x hc w S f 1 J F (by decide) h;rw [B] at c0
  cases r2 with
  | bad cN=>
   have d:(WM.bind (fz x.c.ask 1 J) fun _=>dZ (cY 1 2)) f=(.bad cN,C):=WM.bK B;have q:=ae (p0.out.trans d);clear d B
   go_wp2_with fail
   (with_reducible refine hm.mono ?_)
   rintro e w3 ⟨y,v3,t,r,rfl,g⟩;obtain ⟨rfl,h8⟩:=ag.au.1 g
   go_wp2_with fail
   (with_reducible refine (c0 w3 y _ h8).mono ?_)
   rintro e E ⟨S2,b0,d4,rfl,h9⟩
   go_wp2_with fail
   exact ⟨rfl,P.out _ _ (by rw [q.out];exact ⟨S2,t.trans b0,(K.trans r).trans d4,rfl,h9⟩)⟩
  | ok u2=>
   have d:(WM.bind (fz x.c.ask 1 J) fun _=>dZ (cY 1 2)) f=dZ (cY 1 2) C:=WM.bd B;have G0:=ae (p0.out.trans d);clear d B;have m0:=fun w S hb F h=>qt x w S C hb (cY 1 2) F h;obtain ⟨⟨r3,F0⟩,l0⟩:∃ p,dZ (cY 1 2) C=p:=⟨_,rfl⟩
   rw [l0] at m0;have q:=ae (G0.out.trans l0);have r0:=ae m0;clear l0 m0
   go_wp2_with fail
   (with_reducible refine hm.mono ?_)
   rintro e w3 ⟨y,v3,t,r,rfl,g⟩;obtain ⟨rfl,h8⟩:=ag.au.1 g
   go_wp2_with fail
   (with_reducible refine (c0 w3 y _ h8).mono ?_)
   rintro e E ⟨S2,v4,b0,d4,rfl,h9⟩;obtain ⟨rfl,s0⟩:=ag.au.1 h9;have e0:=s0.alloc (Y u 137 (0,0));have u0:ag (E.alloc (Y u 137 (0,0))) (aY E.heap.size (cY 1 2)*(aM x S2 C*(ak S2*(emp*F)))):=ag.held.2 ⟨nt 1 2,by rw [H0.out] at e0 ⊢;exact e0⟩;have n0:=ae (((K.trans r).trans d4).alloc (Y u 137 (0,0)));have HS:=ae (t.trans b0);have hs:=ae (r0.out _ _ _ _ u0);clear hm c0 g h8 h9 s0 e0 u0 r0 K r d4 t b0
   go_wp2_with (refine gn (by exact rfl) 137 #[(0,.const (Z G 1)),(1,.tmp 11)] (by exact rfl) _ (by exact rfl) u (by exact Hb.out) ?_)
   refine hs.out.mono ?_
   cases r3 with
   | bad cN=>
    rintro e w5 ⟨i,h0,d5,rfl,f0⟩
    go_wp2_with fail
    exact ⟨rfl,P.out _ _ (by rw [q.out];exact ⟨i,HS.out.trans h0,n0.out.trans d5,rfl,(f0.to (by ac_rfl:_=aY E.heap.size (cY 1 2)*(aM x i F0*(ak i*(emp*F))))).right⟩)⟩
   | ok u3=>
    rintro e w5 ⟨i,v5,h0,d5,rfl,f0⟩;obtain ⟨rfl,L0⟩:=ag.au.1 f0
    go_wp2_with fail
    go_end0
    exact P.out _ _ (by rw [q.out];exact ⟨i,_,HS.out.trans h0,n0.out.trans d5,rfl,ag.au.2 ⟨rfl,(L0.to (by ac_rfl:_=aY E.heap.size (cY 1 2)*(aM x i F0*(ak i*(emp*F))))).right⟩⟩)
end
end Go.Proofs.Fs
namespace Go.SL
open Go.RowKit
section
variable {σ α β:Type}
theorem WM.mG {m:WM σ α} {k:α->WM σ β} {st st':eZ σ} {b:β} (h:WM.bind m k st=(.ok b,st')):∃ a d,m st=(.ok a,d)/\k a d=(.ok b,st'):=by
 unfold WM.bind at h
 match hm:m st,h with
 | (.ok a,d),h=>exact ⟨a,d,rfl,h⟩
 | (.bad c,d),h=>cases h
structure Hd.R4 (n:Nat) (h:Hd):Prop where
 fit:h.fit
 ok:h.n.ok=true
 Sy:1<=h.id
 SA:h.id<n
 Ls:0<=h.n.rw
 N4:h.n.rw<n
 pg:∀ p ∈ h.QU,0<=p/\p<n
theorem C8 {l:List Int} (h:l.all cS=J):∀ p ∈ l,0<=p/\p<3840:=fun p d=>iI (List.all_eq_true.1 h p d)
theorem EH {ask:dD σ} {n:Nat} {id:Int} {st st':eZ σ} {h:Hd} (o:gR ask n id st=(.ok h,st')):h.R4 n:=by
 unfold gR at o
 split at o
 .rename_i h0
  obtain ⟨j,aQ,h1,e⟩:=WM.mG o;unfold OI at e
  split at e
  .rename_i v
   have q:(jE j).1.ok=J/\(jE j).1.dr.length=16:=by
    refine ⟨?_,DJ j⟩;unfold jE at v ⊢
    split at v
    .rename_i i;rw [if_pos i];simp only [Bool.and_eq_true] at i;exact i.1
    .cases v
   generalize (jE j).1=r at *;obtain ⟨q,K⟩:=q;have A:=Nd.pY q;have e0:=iI A.2.2.2.2.2.2.1
   have B:∀ row C,row.length=240->(∀ p ∈ row,0<=p)->(r.rw<n)->ik n id.toNat r row C=(.ok h,st')->h.R4 n:=by
    intro row C S d0 b0 P;obtain ⟨_,f0,f,u⟩:=WM.mG P;obtain ⟨_,g0,l,g⟩:=WM.mG u;simp only [WM.pure,Prod.mk.injEq,Rs.ok.injEq] at g;obtain ⟨rfl,rfl⟩:=g
    have t:r.dr.all (fun x=>decide (x<n))=J:=by
     unfold eo at f;split at f
     .assumption
     .cases f
    have E:row.all (fun x=>decide (x<n))=J:=by
     unfold eo at l;split at l
     .assumption
     .cases l
    refine ⟨⟨K,S⟩,q,by show 1<=id.toNat;omega,by show id.toNat<n;omega,e0.1,b0,fun p d=>?_⟩;rcases List.mem_append.1 d with d|d
    .exact ⟨(C8 A.2.2.2.2.2.1 p d).1,by simpa using List.all_eq_true.1 t p d⟩
    .exact ⟨d0 p d,by simpa using List.all_eq_true.1 E p d⟩
   unfold jX at e
   split at e
   .rename_i hz
    exact B _ _ rfl (fun p d=>by rw [(List.mem_replicate.1 d).2];omega) (by rw [hz];omega) e
   .obtain ⟨_,f0,f,u⟩:=WM.mG e
    obtain ⟨z,g0,l,g⟩:=WM.mG u
    have t:[r.rw].all (fun x=>decide (x<n))=J:=by
     unfold eo at f;split at f
     .assumption
     .cases f
    unfold JN at g
    split at g
    .rename_i y
     have c0:(kG z).1.all cS=J:=by
      unfold kG at y ⊢
      split at y
      .rename_i i;rw [if_pos i];exact i
      .cases y
     exact B _ _ (yP z) (fun p d=>(C8 c0 p d).1) (by simpa using t) g
    .cases g
  .cases e
 .cases o
end
end Go.SL

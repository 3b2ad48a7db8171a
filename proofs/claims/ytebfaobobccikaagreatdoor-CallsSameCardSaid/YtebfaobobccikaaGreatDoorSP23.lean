/- Steps. -/
import Derived.Test.YtebfaobobccikaaGreatDoorSP22
import Derived.Test.YtebfaobobccikaaGreatDoorSP4
import Derived.Test.YtebfaobobccikaaGreatDoorSP13
import Derived.Test.YtebfaobobccikaaGreatDoorSP6
set_option linter.all false
set_option maxRecDepth 99999
set_option maxHeartbeats 0
open Go.SL
open Go.Value renaming int->Z,slice->R,pointer->X,tuple->I,bool->J
open Go.IntKind renaming i64->H
open Go.Obj renaming cells->Y
open Go.Ending renaming returned->K
open Go renaming World->O,Value->M
open Go.Proofs.Tryz renaming prog->Q
open Option renaming some->U,none->V
open Bool renaming true->L,false->N
open Go.Proofs.Tryz
open Go.Value renaming int->E2,oneCell'->Z3
open List renaming replicate->J2,getD->K2,length_cons->M2,length_map->O2,size_toArray->P2,length_nil->R2,push_toArray->Z2,append_toArray->B3,nil_append->G3,cons_append->J3,getElem?_cons_succ->K3,getElem?_append_left->P3,set_cons_succ->T3,getElem?_append_right->W3,getElem?_eq_getElem->X3,getElem?_map->Y3,setIfInBounds_toArray->J4,set_cons_zero->K4,length_append->S4,getElem?_eq_none->W4,drop_succ_cons->X4,take_of_length_le->Y4
open Nat renaming not_lt_zero->N2,reduceAdd->T2,reduceSub->W2,add_comm->L4
open Array renaming replicate_succ->X2,replicate_zero->Y2
open Go.World renaming size_alloc->L3
open Int renaming toNat_of_nonneg->T4
namespace Go.SL
open RowKit
inductive Rs (α:Type) where
 | ok (a:α)
 | bad (c:Int)
structure gZ (σ:Type) where
 err:Int
 W:List (Int × List UInt8)
 D:List (Int × List UInt8)
 s:σ
structure eP (σ:Type) where
 b:gZ σ
 bits:Option (List UInt8)
 dt:Bool
abbrev cO (σ:Type):=σ->Int->(Int × List UInt8) × σ
abbrev WM (σ α:Type):=eP σ->Rs α × eP σ
def WM.bind {σ α β:Type} (m:WM σ α) (k:α->WM σ β):WM σ β:=fun st=>match m st with|(.ok a,st')=>k a st'|(.bad c,st')=>(.bad c,st')
def WM.pure {σ α:Type} (a:α):WM σ α:=fun st=>(.ok a,st)
section
variable {σ α β:Type} {m:WM σ α} {k:α->WM σ β} {st st':eP σ}
theorem WM.bd {a:α} (h:m st=(.ok a,st')):WM.bind m k st=k a st':=by unfold WM.bind;rw [h]
theorem WM.bk {c:Int} (h:m st=(.bad c,st')):WM.bind m k st=(.bad c,st'):=by unfold WM.bind;rw [h]
end
def tx {σ:Type} (ask:cO σ) (b:gZ σ) (id:Int):(Int × List UInt8) × gZ σ:=
 if (ask b.s id).1.1=0 then ((0,(ask b.s id).1.2),{ b with D:=SL.fK b.D id (ask b.s id).1.2,s:=(ask b.s id).2 })
 else (((ask b.s id).1.1,(ask b.s id).1.2),{ b with err:=(ask b.s id).1.1,s:=(ask b.s id).2 })
def gy {σ:Type} (ask:cO σ) (b:gZ σ) (id:Int):(Int × List UInt8) × gZ σ:=
 if b.err≠0 then ((b.err,[]),b) else
 match aP b.W id with
 | some l=>((0,l),b)
 | none=>match aP b.D id with
  | some l=>((0,l),b)
  | none=>tx ask b id
def de {σ:Type} (ask:cO σ) (id:Int):WM σ (List UInt8):=fun st=>
 if (gy ask st.b id).1.1≠0 then (.bad (gy ask st.b id).1.1,{ st with b:=(gy ask st.b id).2 })
 else if (gy ask st.b id).1.2.length≠480 then (.bad 4,{ st with b:=(gy ask st.b id).2 })
 else (.ok (gy ask st.b id).1.2,{ st with b:=(gy ask st.b id).2 })
end Go.SL
namespace Go.Proofs.Fs
open RowKit SL Proofs.Ba
structure Cx (σ:Type) where
 T:TypeId
 rv:Value
 fr:FuncId
 rr:Value
 Mq:World->Prop
 ask:cO σ
 RI:σ->ai
def Cx.rd {σ:Type} (c:Cx σ):M:=.iface c.T c.rv
structure Cx.Ok {σ:Type} (c:Cx σ):Prop where
 hM:∀ (s:σ) (F:ai) (w:World),ag w (c.RI s*F)->c.Mq w
 hm:∀ (k:Nat) (w:World),c.Mq w->(method (k+1) c.T c.rv "Read").run prog w = .ok (c.fr,c.rr) w
 jX:∀ (args:Array Value) (w:World),(callFunc c.fr args).run prog w = .ok (.enter c.fr args) w
 hR:∀ (s:σ) (id:Int) (F:ai) (w:World),ag w (c.RI s*F)->Calls prog c.fr #[c.rr,.int .i64 id] w (pd (c.ask s id).1 (c.RI (c.ask s id).2) F w)
 hs:∀ (s:σ) (id:Int),(c.ask s id).1.1=0->small (c.ask s id).1.2
def cI {σ:Type} (c:Cx σ) (S:Hp) (b:Nat) (x:gZ σ):ai:=aB 176 5 S b c.rd x.err x.W x.D*c.RI x.s
def T8 {σ:Type} (c:Cx σ) (b:Nat) (S:Hp) (p:(Int × List UInt8) × gZ σ) (F:ai) (w:O) (e:Ending) (g:O):Prop:=
 ∃ d f,Ext S d/\e = K (I #[f,Z H p.1.1])/\ag g (qv 5 p.1 f*(cI c d b p.2*(ak d*F)))/\aj w g
theorem IW {σ:Type} {c:Cx σ} (f:c.Ok) (w:O) (S:Hp) (b:Nat) (x:gZ σ) (id:Int) (F:ai) (h:ag w (cI c S b x*(ak S*F))) :
  Calls Q 204 #[X (U ⟨b,0,V⟩),Z H id] w (T8 c b S (gy c.ask x id) F w):=by
 obtain ⟨err,W,D,s⟩:=x;have t:ag w (aB 176 5 S b c.rd err W D*(ak S*(c.RI s*F))):=h.to (by unfold cI;ac_rfl)
 by_cases z:err=0
 .subst z
  cases r:aP W id with
  | some l=>
   have q:gy c.ask ⟨0,W,D,s⟩ id=((0,l),⟨0,W,D,s⟩):=by unfold gy;simp only [ne_eq,not_true_eq_false,if_false,r]
   rw [q];refine (Tk w S b c.rd W D id l _ t r).mono ?_;rintro e y ⟨g,i,d,rfl,j,o⟩;exact ⟨g,i,d,rfl,j.to (by unfold cI;ac_rfl),o⟩
  | none=>
   cases u:aP D id with
   | some l=>
    have q:gy c.ask ⟨0,W,D,s⟩ id=((0,l),⟨0,W,D,s⟩):=by unfold gy;simp only [ne_eq,not_true_eq_false,if_false,r,u]
    rw [q];refine (Ts w S b c.rd W D id l _ t r u).mono ?_;rintro e y ⟨g,i,d,rfl,j,o⟩;exact ⟨g,i,d,rfl,j.to (by unfold cI;ac_rfl),o⟩
   | none=>
    have q:gy c.ask ⟨0,W,D,s⟩ id=tx c.ask ⟨0,W,D,s⟩ id:=by unfold gy;simp only [ne_eq,not_true_eq_false,if_false,r,u]
    have hR:=fun F w=>f.hR s id F w;have hs:=f.hs s id;rw [q];unfold tx;generalize c.ask s id=p at *;obtain ⟨⟨A,l⟩,v⟩:=p
    by_cases d:A=0
    .subst d
     rw [if_pos rfl];refine (Qv w S b c.T c.rv c.fr W D id l (c.RI s) (c.RI v) F c.rr c.Mq (f.hM s) (f.hM v) f.hm f.jX hR t r u (hs rfl)).mono ?_;rintro e y ⟨g,i,d,rfl,j,o⟩;exact ⟨g,i,d,rfl,j.to (by unfold cI Cx.rd;ac_rfl),o⟩
    .rw [if_neg d]
     refine (zN w S b c.T c.rv c.fr W D id A l (c.RI s) (c.RI v) F c.rr c.Mq (f.hM s) (f.hM v) f.hm f.jX hR d t r u).mono ?_;rintro e y ⟨g,i,d,rfl,j,o⟩;exact ⟨g,i,d,rfl,j.to (by unfold cI Cx.rd;ac_rfl),o⟩
 .have q:gy c.ask ⟨err,W,D,s⟩ id=((err,[]),⟨err,W,D,s⟩):=by unfold gy;rw [if_pos z]
  rw [q];refine (OP w S b c.rd err W D id _ t z).mono ?_;rintro e y ⟨g,i,d,rfl,j,o⟩;exact ⟨g,i,d,rfl,j.to (by unfold cI;ac_rfl),o⟩
def Ks (c:Int):List PanicEntry:=[{ v:=.iface 220 (Z H c),recovered:=N }]
theorem kP (w:O):Calls Q 149 #[Z H 0] w fun e d=>e = K (I #[])/\w=d:=by
 go_enter func149,ntmps149
 go_wp2
 go_end0
 exact ⟨rfl,rfl⟩
theorem fP (w:O) (c:Int) (f:c≠0):Calls Q 149 #[Z H c] w fun e d=>e = .panicked (Ks c)/\w=d:=by
 go_enter func149,ntmps149
 go_wp2
 exact ⟨rfl,rfl,rfl⟩
theorem gO (w:O):Calls Q 86 #[J L] w fun e d=>e = K (I #[])/\w=d:=by
 go_enter func86,ntmps86
 go_wp2
 go_end0
 exact ⟨rfl,rfl⟩
theorem gX (w:O):Calls Q 86 #[J N] w fun e f=>e = .panicked (Ks 1)/\w=f:=by
 have d:=fP w 1 (by decide)
 go_enter func86,ntmps86
 go_wp2_with fail
 (refine d.mono ?_)
 rintro e g ⟨rfl,rfl⟩
 go_wp2
 exact ⟨rfl,rfl,rfl⟩
def cF (o:Option (List UInt8)) (v:M):ai:=fun h=>(o=V/\v = R V 0 0/\h=fun _=>V)\/∃ l,o=U l/\l.length=480/\bs 5 v l h
structure Wk (σ:Type) where
 c:Cx σ
 n:Nat
 k:Nat
 b:Nat
def Wk.cells {σ:Type} (x:Wk σ) (v:M) (t:Bool):Array M:=#[X (U ⟨x.b,0,V⟩),Z H (x.n:Int),v,J t]
def bH {σ:Type} (x:Wk σ) (v:M) (S:Hp) (st:eP σ):ai:=pt x.k (Y (x.cells v st.dt) 149 (0,0))*cI x.c S x.b st.b
def aG {σ:Type} (x:Wk σ) (S:Hp) (st:eP σ):ai:=ex fun v=>bH x v S st*cF st.bits v
def WQ {σ α:Type} (x:Wk σ) (g:α->M->ai) (S:Hp) (F:ai) (w:O):Rs α × eP σ->Ending->O->Prop
 | (.ok a,st'),e,f=>∃ d v,Ext S d/\aj w f/\e = K v/\ag f (g a v*(aG x d st'*(ak d*F)))
 | (.bad c,st'),e,f=>∃ d,Ext S d/\aj w f/\e = .panicked (Ks c)/\ag f (aG x d st'*(ak d*F))
def Us {σ α:Type} (x:Wk σ) (g:M) (i:α->M->ai) (S:Hp) (F:ai) (w:O):Rs α × eP σ->Ending->O->Prop
 | (.ok a,st'),e,f=>∃ d v,Ext S d/\aj w f/\e = K v/\ag f (i a v*(bH x g d st'*(ak d*F)))
 | (.bad c,st'),e,f=>∃ d,Ext S d/\aj w f/\e = .panicked (Ks c)/\ag f (bH x g d st'*(ak d*F))
def jA (a:Unit) (v:M):ai:=fact (v = I #[])
def gw (l:List UInt8) (v:M):ai:=bs 5 v l
theorem yN {σ:Type} (x:Wk σ) (hc:x.c.Ok) (w:O) (u:M) (S:Hp) (st:eP σ) (id:Int) (F:ai) (h:ag w (bH x u S st*(ak S*F))) :
  Calls Q 148 #[X (U ⟨x.k,0,V⟩),Z H id] w (Us x u gw S F w (de x.c.ask id st)):=by
 have E:ag w (cI x.c S x.b st.b*(ak S*(pt x.k (Y (x.cells u st.dt) 149 (0,0))*F))):=h.to (by unfold bH;ac_rfl);have c0:w.cell? ⟨x.k,0,V⟩=U (X (U ⟨x.b,0,V⟩)):=E.au.cell 0;have t:=IW hc w S x.b st.b id _ E;have G:∀ p,gy x.c.ask st.b id=p->de x.c.ask id st=if p.1.1≠0 then (.bad p.1.1,{ st with b:=p.2 }) else if p.1.2.length≠480 then (.bad 4,{ st with b:=p.2 }) else (.ok p.1.2,{ st with b:=p.2 }):=fun p r=>by subst r;rfl
 obtain ⟨⟨⟨B,l⟩,b'⟩,r⟩:∃ p,gy x.c.ask st.b id=p:=⟨_,rfl⟩
 have P:=G _ r;rw [r] at t;rw [P]
 by_cases v:B=0
 .subst v
  rw [if_neg (by simp)]
  by_cases q:l.length=480
  .rw [if_neg (by simp [q])]
   have b0:((480:Int) != 480)=N:=by decide
   have A:=ae q
   go_enter func148,ntmps148
   go_wp2_with fail
   (refine t.mono ?_)
   rintro e f ⟨g,C,o,rfl,j,i⟩;have d:=j.vh;obtain ⟨va,vc,rfl⟩:=aF d;rw [A.out] at d ⊢
   go_wp2_with fail
   (refine (kP f).mono ?_)
   rintro e y ⟨rfl,rfl⟩
   go_wp2_with fail
   go_ret
   exact ⟨g,_,o,i,rfl,by unfold bH cI gw;exact d.to (by unfold cI;ac_rfl)⟩
  .rw [if_pos q]
   have b0:((l.length:Int) != 480)=L:=by rw [bne_iff_ne];omega
   have A:=ae q
   go_enter func148,ntmps148
   go_wp2_with fail
   (refine t.mono ?_)
   rintro e f ⟨g,C,o,rfl,j,i⟩;have d:=j.vh;obtain ⟨va,vc,rfl⟩:=aF d
   go_wp2_with fail
   (refine (kP f).mono ?_)
   rintro e y ⟨rfl,rfl⟩
   go_wp2_with fail
   (refine (fP f 4 (by decide)).mono ?_)
   rintro e y ⟨rfl,rfl⟩
   go_wp2_with fail
   exact ⟨rfl,g,o,i,rfl,by unfold bH;exact d.right.to (by ac_rfl)⟩
 .rw [if_pos v]
  have z:=ae v
  go_enter func148,ntmps148
  go_wp2_with fail
  (refine t.mono ?_)
  rintro e f ⟨g,C,o,rfl,j,i⟩;obtain ⟨rfl,d⟩:=j.CD z.out
  go_wp2_with fail
  (refine (fP f B z.out).mono ?_)
  rintro e y ⟨rfl,rfl⟩
  go_wp2_with fail
  exact ⟨rfl,g,o,i,rfl,by unfold bH;exact d.to (by ac_rfl)⟩
end Go.Proofs.Fs
namespace Go.SL
open RowKit
section
variable {σ:Type}
def kG (err id:Int) (l:List UInt8):Int:=if err≠0 then err else if id<0\/l.length≠480 then 1 else 0
def bQ (id:Int) (l:List UInt8):WM σ Unit:=fun st=>
 if kG st.b.err id l=0 then (.ok (),{ st with b:={ st.b with W:=SL.fK st.b.W id l } }) else (.bad (kG st.b.err id l),st)
def jF (ask:cO σ):WM σ (List UInt8):=fun st=>match st.bits with
 | some l=>(.ok l,st)
 | none=>match de ask 0 st with
  | (.ok l,st')=>(.ok l,{ st' with bits:=U l })
  | (.bad c,st')=>(.bad c,st')
def Av (id:Nat) (t:Bool) (l:List UInt8):WM σ Unit:=fun st=>(.ok (),{ st with bits:=U (eC l id t),dt:=L })
def cM (ask:cO σ) (id:Nat) (t:Bool):WM σ Unit:=WM.bind (jF ask) (Av id t)
def Tt (l:List UInt8) (st:eP σ):Option Nat->Rs Nat × eP σ
 | some k=>(.ok k,{ st with bits:=U (eC l k L),dt:=L })
 | none=>(.bad 7,st)
def sY (n:Nat) (l:List UInt8):WM σ Nat:=fun st=>Tt l st (fA l n)
def iZ (ask:cO σ) (n:Nat):WM σ Nat:=WM.bind (jF ask) (sY n)
theorem vg (ask:cO σ) (id:Int) (st:eP σ):(de ask id st).2.bits=st.bits:=by
 unfold de;split
 .rfl
 .split <;> rfl
theorem ji {ask:cO σ} {id:Int} {st st':eP σ} {l:List UInt8} (h:de ask id st=(.ok l,st')):l.length=480:=by
 unfold de at h
 split at h
 .cases h
 .split at h
  .cases h
  .rename_i d;simp only [Prod.mk.injEq,Rs.ok.injEq] at h;rw [<- h.1];exact Decidable.of_not_not d
theorem CC (id:Int) (l:List UInt8) (st:eP σ):(bQ id l st).2.bits=st.bits:=by
 unfold bQ;split <;> rfl
theorem Dp {ask:cO σ} {st st':eP σ} {l:List UInt8} (h:jF ask st=(.ok l,st')) (f:∀ l,st.bits=U l->l.length=480):st'.bits=U l/\l.length=480:=by
 unfold jF at h
 split at h
 .rename_i i d
  obtain ⟨rfl,rfl⟩:=h;exact ⟨d,f _ d⟩
 .split at h
  .rename_i j g e
   obtain ⟨rfl,rfl⟩:=h;exact ⟨rfl,ji e⟩
  .cases h
end
end Go.SL
namespace Go.Proofs.Fs
open RowKit SL Proofs.Ba
variable {S:Hp} {v:M}
section
variable {σ α:Type}
theorem ag.fG {w:O} {x:Wk σ} {st:eP σ} {F:ai} (h:ag w (aG x S st*F)):∃ v,ag w (bH x v S st*(cF st.bits v*F)):=by
 obtain ⟨v,h⟩:=ag.aw.1 h;exact ⟨v,h.to (by ac_rfl)⟩
theorem ag.iG {w:O} {x:Wk σ} {st:eP σ} {F:ai} (v:M) (h:ag w (bH x v S st*(cF st.bits v*F))):ag w (aG x S st*F):=
 ag.aw.2 ⟨v,h.to (by ac_rfl)⟩
theorem ag.Gw {w:O} {F:ai} (h:ag w F):ag w (cF V (R V 0 0)*F):=
 (h.to (cW _).symm).fO fun k d=>.inl ⟨rfl,rfl,d⟩
theorem ag.oA {w:O} {F:ai} {l:List UInt8} (e:l.length=480) (h:ag w (bs 5 v l*F)):ag w (cF (U l) v*F):=
 h.fO fun k d=>.inr ⟨l,rfl,e,d⟩
theorem ag.oW {w:O} {o:Option (List UInt8)} {F:ai} (h:ag w (cF o v*F)) :
  (o=V/\v = R V 0 0/\ag w F)\/∃ l,o=U l/\l.length=480/\ag w (bs 5 v l*F):=by
 obtain ⟨k,a,f,e,p,q,d,rfl⟩:=h;rcases p with ⟨rfl,rfl,rfl⟩|⟨l,rfl,i,g⟩
 .refine .inl ⟨rfl,rfl,_,a,?_⟩
  have:join (fun _=>V) e=e:=by funext c;simp [join]
  rw [this];exact q
 .exact .inr ⟨l,rfl,i,_,a,f,e,g,q,d,rfl⟩
theorem Us.lift {x:Wk σ} {d:M} {l:α->M->ai} {F:ai} {w:O} {st:eP σ}:∀ {p:Rs α × eP σ} {e:Ending} {g:O},
  Us x d l S (cF st.bits d*F) w p e g->p.2.bits=st.bits->WQ x l S F w p e g
 | (.ok a,st'),e,g,⟨f,v,o,q,r,i⟩,j=>by
  refine ⟨f,v,o,q,r,?_⟩;dsimp only at j;rw [<- j] at i;exact (ag.iG d (i.to (by ac_rfl):ag g (bH x d f st'*(cF st'.bits d*(l a v*(ak f*F)))))).to (by ac_rfl)
 | (.bad c,st'),e,g,⟨f,o,q,r,i⟩,j=>by
  refine ⟨f,o,q,r,?_⟩;dsimp only at j;rw [<- j] at i;exact (ag.iG d (i.to (by ac_rfl):ag g (bH x d f st'*(cF st'.bits d*(ak f*F)))))
theorem lT (x:Wk σ) (g:x.c.Ok) (w:O) (S:Hp) (st:eP σ) (id:Int) (F:ai) (h:ag w (aG x S st*(ak S*F))) :
  Calls Q 148 #[X (U ⟨x.k,0,V⟩),Z H id] w (WQ x gw S F w (de x.c.ask id st)):=by
 obtain ⟨v,d⟩:=ag.fG h;refine (yN x g w v S st id (cF st.bits v*F) (d.to (by ac_rfl))).mono fun e i f=>Us.lift f (vg _ _ _)
theorem MA (err id:Int) (l:List UInt8):fW err id l=kG err id l:=rfl
theorem kz (x:Wk σ) (w:O) (g:M) (S:Hp) (st:eP σ) (id:Int) (q:M) (l:List UInt8) (F:ai) (h:ag w (bH x g S st*(ak S*F))) (B:Rd w q l) :
  Calls Q 106 #[X (U ⟨x.k,0,V⟩),Z H id,q] w (Us x g jA S F w (bQ id l st)):=by
 have z:ag w (aB 176 5 S x.b x.c.rd st.b.err st.b.W st.b.D*(ak S*(x.c.RI st.b.s*(pt x.k (Y (x.cells g st.dt) 149 (0,0))*F)))):=h.to (by unfold bH cI;ac_rfl);have E:w.cell? ⟨x.k,0,V⟩=U (X (U ⟨x.b,0,V⟩)):=(h.to (by unfold bH;ac_rfl:_=pt x.k (Y (x.cells g st.dt) 149 (0,0))*(cI x.c S x.b st.b*(ak S*F)))).cell 0;have f:=pC w S x.b x.c.rd st.b.err st.b.W st.b.D id q l _ z B;unfold ik at f;rw [MA] at f;unfold bQ
 by_cases d:kG st.b.err id l=0
 .rw [if_pos d]
  have u:vI st.b.err id l st.b.W=SL.fK st.b.W id l:=wG (by
   unfold kG at d
   split at d
   .rename_i r;exact absurd d r
   .rename_i r
    split at d
    .cases d
    .rename_i P
     exact ⟨Decidable.of_not_not r,by omega,by omega⟩)
  rw [d,u] at f;have y:=ae d
  go_enter func106,ntmps106
  go_wp2_with fail
  (refine f.mono ?_)
  rintro e v ⟨j,t,rfl,i,o⟩
  go_wp2_with fail
  (refine (kP v).mono ?_)
  rintro e C ⟨rfl,rfl⟩
  go_wp2_with fail
  go_end0
  exact ⟨j,_,t,o,rfl,ag.aq.2 ⟨rfl,by unfold bH cI;exact i.to (by ac_rfl)⟩⟩
 .rw [if_neg d]
  have u:vI st.b.err id l st.b.W=st.b.W:=oT (by
   rintro ⟨A,i,G⟩;apply d;unfold kG;rw [if_neg (by simp [A]),if_neg (by omega)])
  rw [u] at f;have y:=ae d;generalize kG st.b.err id l=c at *
  go_enter func106,ntmps106
  go_wp2_with fail
  (refine f.mono ?_)
  rintro e v ⟨j,t,rfl,i,o⟩
  go_wp2_with fail
  (refine (fP v c y.out).mono ?_)
  rintro e C ⟨rfl,rfl⟩
  go_wp2_with fail
  exact ⟨rfl,j,t,o,rfl,by unfold bH cI;exact i.to (by ac_rfl)⟩
theorem mE (x:Wk σ) (w:O) (S:Hp) (st:eP σ) (id:Int) (d:M) (l:List UInt8) (F:ai) (h:ag w (aG x S st*(ak S*F))) (i:Rd w d l) :
  Calls Q 106 #[X (U ⟨x.k,0,V⟩),Z H id,d] w (WQ x jA S F w (bQ id l st)):=by
 obtain ⟨v,f⟩:=ag.fG h;refine (kz x w v S st id d l (cF st.bits v*F) (f.to (by ac_rfl)) i).mono fun e j g=>Us.lift g (CC _ _ _)
def Uy (x:Wk σ) (S:Hp) (F:ai) (w:O):Rs (List UInt8) × eP σ->Ending->O->Prop
 | (.ok l,st'),e,f=>∃ d v,Ext S d/\aj w f/\e = K v/\l.length=480/\ag f (bH x v d st'*(bs 5 v l*(ak d*F)))
 | (.bad c,st'),e,f=>∃ d,Ext S d/\aj w f/\e = .panicked (Ks c)/\ag f (aG x d st'*(ak d*F))
theorem qI (x:Wk σ) (hc:x.c.Ok) (w:O) (S:Hp) (st:eP σ) (F:ai) (h:ag w (aG x S st*(ak S*F))) :
  Calls Q 101 #[X (U ⟨x.k,0,V⟩)] w (Uy x S F w (jF x.c.ask st)):=by
 obtain ⟨v,B⟩:=ag.fG h;obtain ⟨b,o,dt⟩:=st;have G:w.cell? ⟨x.k,2,V⟩=U v:=(B.to (by unfold bH;ac_rfl:_=pt x.k (Y (x.cells v dt) 149 (0,0))*(cI x.c S x.b b*(cF o v*(ak S*F))))).cell 2;rcases ag.oW (B.to (by ac_rfl:_=cF o v*(bH x v S ⟨b,o,dt⟩*(ak S*F)))) with ⟨rfl,rfl,d⟩|⟨l,rfl,q,d⟩
 .have C:=yN x hc w (R V 0 0) S ⟨b,V,dt⟩ 0 F d
  have hq:=fun w=>Lib.run_eql_slice_nil (P:=Q) w 22 5 V 0 0 0 0 underlying22;have q:=fun l st'=>ji (ask:=x.c.ask) (id:=0) (st:=⟨b,V,dt⟩) (st':=st') (l:=l);have z:jF x.c.ask ⟨b,V,dt⟩=match de x.c.ask 0 ⟨b,V,dt⟩ with|(.ok l,st')=>(.ok l,{ st' with bits:=U l })|(.bad c,st')=>(.bad c,st'):=rfl
  have hb:=vg x.c.ask 0 ⟨b,V,dt⟩;rw [z];generalize de x.c.ask 0 ⟨b,V,dt⟩=p at *;obtain ⟨c0,st'⟩:=p
  cases c0 with
  | ok l=>
   have b0:=q l st' rfl;have j:=ae b0
   go_enter func101,ntmps101
   go_wp2_with fail
   (refine C.mono ?_)
   rintro e E ⟨i,v,A,u,rfl,f⟩;unfold gw at f;obtain ⟨r,t,rfl⟩:=aF f;rw [j.out] at f ⊢;have y:ag E (pt x.k (Y (x.cells (R V 0 0) st'.dt) 149 (0,0))*(bs 5 (R r 480 t) l*(cI x.c i x.b st'.b*(ak i*F)))):=f.to (by unfold bH;ac_rfl);have f2:=y.frozen 2;have P:=y.setCell 2 (R r 480 t);have g2:=y.cell 2
   go_wp2_with fail
   go_ret
   exact ⟨i,_,A,u.setCell _ _,rfl,j.out,by unfold bH;exact P.to (by unfold Wk.cells;ac_rfl)⟩
  | bad c=>
   go_enter func101,ntmps101
   go_wp2_with fail
   (refine C.mono ?_)
   rintro e E ⟨i,A,u,rfl,f⟩
   go_wp2_with fail
   refine ⟨rfl,i,A,u,rfl,ag.iG (R V 0 0) ?_⟩;rw [hb];exact (ag.Gw f).to (by ac_rfl)
 .have z:jF x.c.ask ⟨b,U l,dt⟩=(.ok l,⟨b,U l,dt⟩):=rfl
  rw [z];obtain ⟨r,t,rfl⟩:=aF d
  obtain ⟨g,rfl⟩:∃ g,r=U g:=by
   rcases d.dm with ⟨_,h0,_⟩|⟨g,d0,e0,he,_⟩
   .omega
   .cases he;exact ⟨_,rfl⟩
  have j:=ae q;rw [q] at d G;have hq:=fun w=>Lib.run_eql_slice_nil (P:=Q) w 22 5 (U g) 480 t 0 0 underlying22
  go_enter func101,ntmps101
  go_wp2_with fail
  go_ret
  exact ⟨S,_,Ext.refl S,aj.refl w,rfl,j.out,d.to (by ac_rfl)⟩
theorem vR (x:Wk σ) (hc:x.c.Ok) (w:O) (S:Hp) (st:eP σ) (id:Nat) (t:Bool) (F:ai) (b0:id<3840) (h:ag w (aG x S st*(ak S*F))) :
  Calls Q 90 #[X (U ⟨x.k,0,V⟩),Z H (id:Int),J t] w (WQ x jA S F w (cM x.c.ask id t st)):=by
 have q:=qI x hc w S st F h;obtain ⟨⟨d0,st'⟩,u⟩:∃ p,jF x.c.ask st=p:=⟨_,rfl⟩
 rw [u] at q
 cases d0 with
 | ok l=>
  have j:cM x.c.ask id t st=Av id t l st':=WM.bd u;rw [j]
  go_enter func90,ntmps90
  go_wp2_with fail
  (refine q.mono ?_)
  rintro e A ⟨d,v,o,g,rfl,r,f⟩;have hs:=uK A v l (bH x v d st'*(ak d*F)) (f.to (by ac_rfl)) r id b0 t;have c0:=aF (f.ah);obtain ⟨y,z,rfl⟩:=c0;have B:=ae r;rw [r] at hs f ⊢
  go_wp2_with fail
  (refine hs.mono ?_)
  rintro e w2 ⟨rfl,E,C⟩;have i:ag w2 (pt x.k (Y (x.cells (R y 480 z) st'.dt) 149 (0,0))*(cI x.c d x.b st'.b*(bs 5 (R y 480 z) (eC l id t)*(ak d*F)))):=E.to (by unfold bH;ac_rfl);have f3:=i.frozen 3;have g3:=i.cell 3;have G:=i.setCell 3 (J L)
  go_wp2_with fail
  go_end0
  refine ⟨d,_,o,(g.trans C).setCell _ _,rfl,ag.aq.2 ⟨rfl,ag.iG (R y 480 z) ?_⟩⟩;have P:=ag.oA (l:=eC l id t) (by rw [fz];exact B.out) G.au;exact P.to (by unfold bH Wk.cells;simp only [J4,T3,K4];ac_rfl)
 | bad c=>
  have j:cM x.c.ask id t st=(.bad c,st'):=WM.bk u;rw [j]
  go_enter func90,ntmps90
  go_wp2_with fail
  (refine q.mono ?_)
  rintro e A ⟨d,o,g,rfl,f⟩
  go_wp2_with fail
  exact ⟨rfl,d,o,g,rfl,f⟩
theorem bitsLen {w:O} {x:Wk σ} {st:eP σ} {F:ai} (h:ag w (aG x S st*F)):∀ l,st.bits=U l->l.length=480:=by
 intro l e;obtain ⟨v,f⟩:=ag.fG h;rcases ag.oW (f.to (by ac_rfl:_=cF st.bits v*(bH x v S st*F))) with ⟨d,_⟩|⟨i,d,g,_⟩
 .rw [e] at d;cases d
 .rw [e] at d;cases d;exact g
def VB (v:M) (l:List UInt8) (F:ai) (w:O):Option Nat->Ending->O->Prop
 | none,e,d=>e = K (I #[Z H 0,J N])/\ag d (bs 5 v l*F)/\aj w d
 | some n,e,d=>e = K (I #[Z H (n:Int),J L])/\ag d (bs 5 v (eC l n L)*F)/\aj w d
theorem JE (w:O) (v:M) (l:List UInt8) (F:ai) (h:ag w (bs 5 v l*F)) (j:l.length=480) (e:Nat) (i:e<=3840) :
  Calls Q 173 #[v,Z H (e:Int)] w (VB v l F w (fA l e)):=by
 refine KY w v l F h j e i _ (fun d o f g=>?_) (fun n d o f g=>?_)
 .rw [d];exact ⟨rfl,f,g⟩
 .rw [d];exact ⟨rfl,f,g⟩
def FQ (a:Nat) (v:M):ai:=fact (v = Z H (a:Int))
theorem oL (x:Wk σ) (hc:x.c.Ok) (hn:x.n<=3840) (w:O) (S:Hp) (st:eP σ) (F:ai) (h:ag w (aG x S st*(ak S*F))) :
  Calls Q 129 #[X (U ⟨x.k,0,V⟩)] w (WQ x FQ S F w (iZ x.c.ask x.n st)):=by
 have u:=fun (w:O) h=>qI x hc w S st F h;obtain ⟨v0,h1⟩:=ag.fG h;have A:=(h1.to (by unfold bH;ac_rfl:_=pt x.k (Y (x.cells v0 st.dt) 149 (0,0))*(cI x.c S x.b st.b*(cF st.bits v0*(ak S*F))))).cell 1;obtain ⟨⟨d0,st'⟩,y⟩:∃ p,jF x.c.ask st=p:=⟨_,rfl⟩
 rw [y] at u
 cases d0 with
 | ok l=>
  have E:iZ x.c.ask x.n st=sY x.n l st':=WM.bd y;have c0:=Dp y (bitsLen h);rw [E];unfold sY;have G:=fun w v F h g=>JE w v l F h g x.n hn;obtain ⟨b0,ho⟩:∃ b0,fA l x.n=b0:=⟨_,rfl⟩
  rw [ho];rw [ho] at G
  cases b0 with
  | some n=>
   go_enter func129,ntmps129
   go_wp2_with fail
   go_region_held3 (fun r=>r.cell? ⟨x.k,1,V⟩=U (Z H (x.n:Int)))
    (first|exact A|exact P|exact k2|go_keep)
    (first
     | (go_at_call 101;refine (u w.drew h.drew).mono ?_;rintro e i ⟨d,v,q,j,rfl,g,f⟩;have P:i.cell? ⟨x.k,1,V⟩=U (Z H (x.n:Int)):=(f.to (by unfold bH;ac_rfl:_=pt x.k (Y (x.cells v st'.dt) 149 (0,0))*(cI x.c d x.b st'.b*(bs 5 v l*(ak d*F))))).cell 1)
     | (go_at_call 173;refine (G i v (bH x v d st'*(ak d*F)) (f.to (by ac_rfl)) g).mono ?_;rintro e t ⟨rfl,o,B⟩;have k2:t.cell? ⟨x.k,1,V⟩=U (Z H (x.n:Int)):=(o.to (by unfold bH;ac_rfl:_=pt x.k (Y (x.cells v st'.dt) 149 (0,0))*(cI x.c d x.b st'.b*(bs 5 v (eC l n L)*(ak d*F))))).cell 1))
   have C:ag t (pt x.k (Y (x.cells v st'.dt) 149 (0,0))*(cI x.c d x.b st'.b*(bs 5 v (eC l n L)*(ak d*F)))):=o.to (by unfold bH;ac_rfl);have f3:=C.frozen 3;have g3:=C.cell 3;have h5:=C.setCell 3 (J L);have z:=ae g
   go_wp2_with fail
   go_ret
   refine ⟨d,_,q,(((aj.refl w).drew.trans j).trans B).setCell _ _,rfl,ag.aq.2 ⟨rfl,ag.iG v ?_⟩⟩;have h6:=ag.oA (l:=eC l n L) (by rw [fz];exact z.out) h5.au;exact h6.to (by unfold bH Wk.cells;simp only [J4,T3,K4];ac_rfl)
  | none=>
   go_enter func129,ntmps129
   go_wp2_with fail
   go_region_held3 (fun r=>r.cell? ⟨x.k,1,V⟩=U (Z H (x.n:Int)))
    (first|exact A|exact P|exact k2|go_keep)
    (first
     | (go_at_call 101;refine (u w.drew h.drew).mono ?_;rintro e i ⟨d,v,q,j,rfl,g,f⟩;have P:i.cell? ⟨x.k,1,V⟩=U (Z H (x.n:Int)):=(f.to (by unfold bH;ac_rfl:_=pt x.k (Y (x.cells v st'.dt) 149 (0,0))*(cI x.c d x.b st'.b*(bs 5 v l*(ak d*F))))).cell 1)
     | (go_at_call 173;refine (G i v (bH x v d st'*(ak d*F)) (f.to (by ac_rfl)) g).mono ?_;rintro e t ⟨rfl,o,B⟩;have k2:t.cell? ⟨x.k,1,V⟩=U (Z H (x.n:Int)):=(o.to (by unfold bH;ac_rfl:_=pt x.k (Y (x.cells v st'.dt) 149 (0,0))*(cI x.c d x.b st'.b*(bs 5 v (l)*(ak d*F))))).cell 1))
   have z:=ae g
   go_wp2_with fail
   (refine (fP t 7 (by decide)).mono ?_)
   rintro e w3 ⟨rfl,rfl⟩
   go_wp2_with fail
   refine ⟨rfl,d,q,((aj.refl w).drew.trans j).trans B,rfl,ag.iG v ?_⟩;obtain ⟨h8,_⟩:=c0;rw [h8];exact (ag.oA z.out o).to (by ac_rfl)
 | bad c=>
  have E:iZ x.c.ask x.n st=(.bad c,st'):=WM.bk y;rw [E]
  go_enter func129,ntmps129
  go_wp2_with fail
  refine wp_region_held_drew (S:=(fun r=>r.cell? ⟨x.k,1,V⟩=U (Z H (x.n:Int)))) (by kernel_rfl) ?_ (fun f0=>?_)
  ·(first|exact A|go_keep)
  refine tk 0 ?_;refine tk 2 ?_;refine tk 3 ?_;refine tk 4 ?_;refine tk 5 ?_;refine tr 1 fun e0 hK=>?_
  go_simp
  go_wp2_with (go_at_call 101;refine (u w.drew h.drew).mono ?_;rintro e i ⟨d,q,j,rfl,f⟩)
  exact ⟨rfl,d,q,(aj.refl w).drew.trans j,rfl,f⟩
end
end Go.Proofs.Fs
namespace Go.SL
open RowKit
structure Hd where
 id:Nat
 n:Nd
 row:List Int
def Hd.l (h:Hd):List Int:=(h.id:Int) :: (h.n.l++h.row)
def Hd.fit (h:Hd):Prop:=h.n.dr.length=16/\h.row.length=240
def Hd.aO (h:Hd) (i:Nat):Int:=if i<16 then h.n.dr.getD i 0 else h.row.getD (i-16) 0
def Hd.put (h:Hd) (i:Nat) (b:Int):Hd:=if i<16 then { h with n:={ h.n with dr:=h.n.dr.set i b } } else { h with row:=h.row.set (i-16) b }
theorem Hd.uU {h:Hd} (d:h.fit) (i:Nat) (b:Int):(h.put i b).fit:=by
 unfold Hd.put;split
 .exact ⟨by simpa using d.1,d.2⟩
 .exact ⟨d.1,by simpa using d.2⟩
theorem Hd.wb {h:Hd} (d:h.fit):h.l.length=261:=by
 simp [Hd.l,Nd.cells d.1,d.2]
theorem Hd.Wj {h:Hd} (f:h.fit) {i:Nat} (d:i<16):h.l.getD (4+i) 0=h.aO i:=by
 have e:h.l=(h.id:Int) :: h.n.kd :: h.n.lk :: h.n.sz :: (h.n.dr++([h.n.rw]++h.row)):=by simp [Hd.l,Nd.l]
 unfold Hd.aO;rw [if_pos d,e,L4 4 i];simp only [K2,K3];rw [P3 (by rw [f.1];exact d)]
theorem Hd.UT {h:Hd} (d:h.fit) {i:Nat} (f:16<=i):h.l.getD (21+(i-16)) 0=h.aO i:=by
 have e:h.l=((h.id:Int) :: h.n.l)++h.row:=rfl;unfold Hd.aO;rw [if_neg (by omega),e,K2,K2,W3 (by simp [Nd.cells d.1])];simp [Nd.cells d.1]
theorem Hd.VQ {h:Hd} (d:h.fit) {i:Nat} (b:Int):(h.put i b).l=h.l.set (if i<16 then 4+i else 21+(i-16)) b:=by
 unfold Hd.put
 split
 .rename_i f
  have e:h.l=(h.id:Int) :: h.n.kd :: h.n.lk :: h.n.sz :: (h.n.dr++([h.n.rw]++h.row)):=by simp [Hd.l,Nd.l]
  rw [e,L4 4 i];simp only [T3];rw [List.set_append,if_pos (by rw [d.1];exact f)];simp [Hd.l,Nd.l]
 .rename_i f
  have e:h.l=((h.id:Int) :: h.n.l)++h.row:=rfl;have g:((h.id:Int) :: h.n.l).length=21:=by simp [Nd.cells d.1]
  rw [e,List.set_append,g,if_neg (by omega),show 21+(i-16)-21=i-16 by omega]
  rfl
section
variable {σ:Type}
def eS (n:Nat) (l:List Int):WM σ Unit:=fun st=>(if l.all (fun x=>decide (x<n))=L then .ok () else .bad 4,st)
end
end Go.SL
namespace Go.Proofs.Fs
open RowKit SL Proofs.Ba
def aR (d:Nat) (h:Hd):ai:=fact h.fit*pt d (Y (ints h.l) 136 (0,0))
theorem ag.held {w:O} {e:Nat} {h:Hd} {F:ai}:ag w (aR e h*F)↔h.fit/\ag w (pt e (Y (ints h.l) 136 (0,0))*F):=by
 constructor
 .intro d;exact ag.aq.1 (d.to (ax _ _ _))
 .intro d;exact (ag.aq.2 d).to (ax _ _ _).symm
def P6 (n:Nat) (l:List Int) (w:O) (u:M) (wr:O):Prop:=
 ∃ k:Nat,k<=l.length/\u = Z H (k:Int)/\(∀ j,j<k->l.getD j 0<n)/\w=wr
theorem jG (w:O) (k n:Nat) (v:M) (l:List Int) (hl:l.length<=1000) (B:pX w v l) (h1:w.cell? ⟨k,1,V⟩=U (Z H (n:Int)))
  (q:Ending->O->Prop) (S:l.all (fun x=>decide (x<n))=L->q (K (I #[])) w) (P:l.all (fun x=>decide (x<n))=N->q (.panicked (Ks 4)) w) :
  Calls Q 150 #[X (U ⟨k,0,V⟩),v] w q:=by
 have E:=ae S;have C:=ae P;have b0:(l.length:Int)<=1000:=by omega
 have z:=fun j (d:j<l.length)=>B.Wl d;obtain ⟨va,vc,rfl⟩:=B.Eo;obtain ⟨m,hm⟩:∃ m,l.length=m:=⟨_,rfl⟩
 rw [hm] at b0 z ⊢;have f:=ae hm;clear hm hl
 go_enter func150,ntmps150
 go_wp2_with fail
 go_loopw [8] (fun u wr=>P6 n l w u wr) (fun u _=>m-(intOf u).toNat)
 case atStart=>exact ⟨0,Nat.zero_le _,rfl,fun j d=>absurd d (N2 _),rfl⟩
 case round=>
  obtain ⟨j,d,rfl,y,rfl⟩:=hrel;rw [f.out] at d
  by_cases A:j<m
  .have h0:(j:Int)<(m:Int):=by omega
   obtain ⟨g0,k0,c,e,hc⟩:=z j A;obtain ⟨rfl,-,rfl⟩:=e;have i0:l.getD j 0 ∈ l:=by rw [K2,X3 (by rw [f.out];exact A)];exact List.getElem_mem _
   by_cases t:l.getD j 0<n
   .have d0:∀ i,i<j+1->l.getD i 0<n:=fun i g=>by
     rcases Nat.lt_or_eq_of_le (Nat.le_of_lt_succ g) with r|r
     .exact y i r
     .rw [r];exact t
    have G:=ae d0;have e0:¬ ((n:Int)<=l.getD j 0):=by omega
    go_wp2_with fail
    go_roundw
    case rel=>exact ⟨j+1,by rw [f.out];omega,by go_num,G.out,rfl⟩
    case measure=>simp [intOf];omega
   .have e0:(n:Int)<=l.getD j 0:=by omega
    have c0:l.all (fun x=>decide (x<n))=N:=by grind
    have o:=ae (C.out c0)
    go_wp2_with fail
    (refine (fP _ 4 (by decide)).mono ?_)
    rintro e w2 ⟨rfl,rfl⟩
    go_wp2_with fail
    exact ⟨rfl,o.out⟩
  .obtain rfl:j=m:=by omega
   have f0:l.all (fun x=>decide (x<n))=L:=by
    rw [List.all_eq_true];intro x t;obtain ⟨i,g,rfl⟩:=List.getElem_of_mem t;have:=y i (by rw [<- f.out];exact g);rw [K2,X3 g] at this;simpa using this
   have o:=ae (E.out f0)
   go_wp2_with fail
   go_end0
   exact o.out
def MI (z:Int) (w:O) (e:Ending) (d:O):Prop:=e = K (Z H z)/\w=d
theorem oD (w:O) (d:Nat) (h:Hd) (F:ai) (hs:ag w (aR d h*F)) (i:Nat) (r:i<256) :
  Calls Q 89 #[X (U ⟨d,0,V⟩),Z H (i:Int)] w (MI (h.aO i) w):=by
 obtain ⟨f,o⟩:=ag.held.1 hs
 have g:∀ j,j<261->w.cell? ⟨d,j,V⟩=U (Z H (h.l.getD j 0)):=fun j q=>by
  rw [o.cell,bL (by rw [Hd.wb f];exact q)]
 by_cases l:i<16
 .have e:=g (4+i) (by omega)
  rw [Hd.Wj f l] at e
  go_enter func89,ntmps89
  go_wp2_with fail
  go_ret
  exact ⟨rfl,rfl⟩
 .have e:=g (21+(i-16)) (by omega)
  rw [Hd.UT f (by omega)] at e
  go_enter func89,ntmps89
  go_wp2_with fail
  go_ret
  exact ⟨rfl,rfl⟩
def VN (f:Nat) (h:Hd) (F:ai) (w:O) (e:Ending) (d:O):Prop:=e = K (I #[])/\ag d (aR f h*F)/\aj w d
theorem rR (w:O) (d:Nat) (h:Hd) (F:ai) (hs:ag w (aR d h*F)) (i:Nat) (z:i<256) (b:Int) :
  Calls Q 111 #[X (U ⟨d,0,V⟩),Z H (i:Int),Z H b] w (VN d (h.put i b) F w):=by
 obtain ⟨l,e⟩:=ag.held.1 hs
 have r:∀ j,j<261->w.cell? ⟨d,j,V⟩=U (Z H (h.l.getD j 0)):=fun j x=>by
  rw [e.cell,bL (by rw [Hd.wb l];exact x)]
 have u:∀ j,ag (w.setCell ⟨d,j,V⟩ (Z H b)) (pt d (Y (ints (h.l.set j b)) 136 (0,0))*F):=fun j=>by
  have:=e.setCell j (Z H b)
  rwa [gM] at this
 have f:=Hd.VQ l (i:=i) b;have t:=Hd.uU l i b
 by_cases q:i<16
 .have v:=r (4+i) (by omega)
  have y:=e.frozen (4+i);rw [if_pos q] at f;have o:=ag.held.2 ⟨t,by rw [f];exact u (4+i)⟩;have g:=ae o
  go_enter func111,ntmps111
  go_wp2_with fail
  go_end0
  exact ⟨rfl,g.out,(aj.refl w).setCell _ _⟩
 .have v:=r (21+(i-16)) (by omega)
  have y:=e.frozen (21+(i-16));rw [if_neg q] at f;have o:=ag.held.2 ⟨t,by rw [f];exact u _⟩;have g:=ae o
  go_enter func111,ntmps111
  go_wp2_with fail
  go_end0
  exact ⟨rfl,g.out,(aj.refl w).setCell _ _⟩
end Go.Proofs.Fs
namespace Go.SL
open RowKit
def kV (d:List UInt8):Nd × Int:=if ((iI d).ok && (d.drop 41).all (· == 0))=L then (iI d,0) else (⟨0,0,0,J2 16 0,0⟩,4)
def l7 (d:List UInt8):List Int × Int:=if (bS d 0 240).all dq=L then (bS d 0 240,0) else (J2 240 0,4)
theorem Gj (d:List UInt8):(kV d).1.dr.length=16:=by
 unfold kV;split
 .exact bM _ _ _
 .rfl
theorem Cj (d:List UInt8):(l7 d).1.length=240:=by
 unfold l7;split
 .exact bM _ _ _
 .rfl
theorem Tc (d:List UInt8):(kV d).2=0\/(kV d).2=4:=by unfold kV;split;exact .inl rfl;exact .inr rfl
theorem SM (d:List UInt8):(l7 d).2=0\/(l7 d).2=4:=by unfold l7;split;exact .inl rfl;exact .inr rfl
section
variable {σ:Type}
def ja (n:Nat) (id:Nat) (d:Nd) (row:List Int):WM σ Hd:=WM.bind (eS n d.dr) fun _=>WM.bind (eS n row) fun _=>WM.pure ⟨id,d,row⟩
def Tv (p:Nd × Int) (k:Nd->WM σ Hd):WM σ Hd:=fun st=>if p.2=0 then k p.1 st else (.bad p.2,st)
def KP (p:List Int × Int) (k:List Int->WM σ Hd):WM σ Hd:=fun st=>if p.2=0 then k p.1 st else (.bad p.2,st)
def lJ (ask:cO σ) (n:Nat) (id:Nat) (d:Nd):WM σ Hd:=fun st=>
 if d.rw=0 then ja n id d (J2 240 0) st
 else (WM.bind (eS n [d.rw]) fun _=>WM.bind (de ask d.rw) fun e=>KP (l7 e) (ja n id d)) st
def gv (ask:cO σ) (n:Nat) (id:Int):WM σ Hd:=fun st=>
 if 1<=id/\id<n then (WM.bind (de ask id) fun d=>Tv (kV d) (lJ ask n id.toNat)) st else (.bad 1,st)
end
end Go.SL
namespace Go.Proofs.Fs
open RowKit SL Proofs.Ba
theorem B2 (d e f x y z A B C E G g i j l o q r t u v:Int):prog.built 136 [(0,Z H d),(1,.agg #[Z H e,Z H f,Z H x,Z H y,Z H z,Z H A,Z H B,Z H C,Z H E,Z H G,Z H g,Z H i,Z H j,Z H l,Z H o,Z H q,Z H r,Z H t,Z H u,Z H v])]=U (ints ([d,e,f,x,y,z,A,B,C,E,G,g,i,j,l,o,q,r,t,u,v]++J2 240 0)):=by kernel_rfl
theorem Si {l:List Int} (h:l.length=16):∃ a0 d q a3 a4 a5 r t u a9 e f g i j o,l=[a0,d,q,a3,a4,a5,r,t,u,a9,e,f,g,i,j,o]:=by
 match l,h with
 | [a0,d,q,a3,a4,a5,r,t,u,a9,e,f,g,i,j,o],_=>exact ⟨a0,d,q,a3,a4,a5,r,t,u,a9,e,f,g,i,j,o,rfl⟩
theorem qM (d:Int) (n:Nd) (h:n.dr.length=16):prog.built 136 [(0,Z H d),(1,.agg (n.l.map (E2 H)).toArray)]=U (ints (d :: (n.l++J2 240 0))):=by
 obtain ⟨v,x,y,dr,rw⟩:=n;obtain ⟨a0,e,q,a3,a4,a5,r,t,u,a9,f,g,i,j,l,o,rfl⟩:=Si h;exact B2 d v x y a0 e q a3 a4 a5 r t u a9 f g i j l o rw
theorem gU {P:Program} {f:Array Oper} {rest:List Oper} {o:Oper} {a:Act} {w:O} {d:Exit->Act->O->Prop} (j:o.guard=V) (t:TypeId) (parts:Array (Nat × Operand)) (r:o.op = .build t parts)
  (l:List (Nat × M)) (q:parts.toList.map (fun p=>(p.1,a.eval p.2))=l) (C:Array M) (g:P.built t l=U C) (h:wpList P f d rest (a.put o.dst (.agg C)) w):wpList P f d (o :: rest) a w:=by
 have e:P.built t (parts.map fun (i,x)=>(i,a.eval x)).toList=U C:=by rw [Array.toList_map];exact q▸g
 exact wpList_build j t parts r (by rw [e];rfl) (by rw [e];exact h)
def VH (d:List UInt8) (w:O) (e:Ending) (f:O):Prop:=e = K (I #[(kV d).1.v,Z H (kV d).2])/\ag f (whole w)/\aj w f
def Rr (d:List UInt8) (w:O) (e:Ending) (f:O):Prop:=e = K (I #[.agg (ints (l7 d).1),Z H (l7 d).2])/\ag f (whole w)/\aj w f
theorem Qn (w:O) (v:M) (d:List UInt8) (o:Rd w v d) (l:d.length=480):Calls Q 147 #[v] w (VH d w):=by
 refine qJ w v d o l _ (fun f j q g i=>?_) (fun f q g i=>?_)
 .have e:kV d=(iI d,0):=if_pos (by rw [f,j];rfl)
  exact ⟨by rw [e],g,i⟩
 .have e:kV d=(⟨0,0,0,J2 16 0,0⟩,4):=if_neg (by rcases f with h|h <;> rw [h] <;> simp)
  exact ⟨by rw [e];rfl,g,i⟩
theorem KU (w:O) (v:M) (d:List UInt8) (l:Rd w v d) (j:d.length=480):Calls Q 151 #[v] w (Rr d w):=by
 refine xJ w v d l j _ (fun f o g i=>?_) (fun f o g i=>?_)
 .have e:l7 d=(bS d 0 240,0):=if_pos f
  exact ⟨by rw [e],g,i⟩
 .have e:l7 d=(J2 240 0,4):=if_neg (by rw [f];simp)
  exact ⟨by rw [e];rfl,g,i⟩
section
variable {σ α:Type}
theorem wo {w:O} {x:Wk σ} {S:Hp} {st:eP σ} {F:ai} (h:ag w (aG x S st*F)):w.cell? ⟨x.k,1,V⟩=U (Z H (x.n:Int)):=by
 obtain ⟨v,d⟩:=ag.fG h;exact (d.to (by unfold bH;ac_rfl:_=pt x.k (Y (x.cells v st.dt) 149 (0,0))*(cI x.c S x.b st.b*(cF st.bits v*F)))).cell 1
def qi (h:Hd) (v:M):ai:=ex fun d=>fact (v=az d)*aR d h
theorem Mo {ask:cO σ} {n:Nat} {id:Int} {st:eP σ} (h:¬ (1<=id/\id<n)):gv ask n id st=(.bad 1,st):=if_neg h
theorem Jn {ask:cO σ} {n:Nat} {id:Int} {st d:eP σ} {c:Int} (h:1<=id/\id<n) (e:de ask id st=(.bad c,d)):gv ask n id st=(.bad c,d):=
 (if_pos h).trans (WM.bk e)
theorem Ji {ask:cO σ} {n:Nat} {id:Int} {st e:eP σ} {d:List UInt8} {nd:Nd} (h:1<=id/\id<n) (g:de ask id st=(.ok d,e)) (f:kV d=(nd,4)):gv ask n id st=(.bad 4,e):=by
 refine ((if_pos h).trans (WM.bd g)).trans ?_;rw [f];exact if_neg (show ¬ (4:Int)=0 by decide)
theorem M5 {ask:cO σ} {n:Nat} {id:Int} {st e:eP σ} {d:List UInt8} {nd:Nd} (h:1<=id/\id<n) (g:de ask id st=(.ok d,e)) (f:kV d=(nd,0)):gv ask n id st=lJ ask n id.toNat nd e:=by
 refine ((if_pos h).trans (WM.bd g)).trans ?_;rw [f];exact if_pos rfl
theorem iC {n:Nat} {l:List Int} {st:eP σ} (h:l.all (fun x=>decide (x<n))=L):eS n l st=(.ok (),st):=by unfold eS;rw [if_pos h]
theorem qN {n:Nat} {l:List Int} {st:eP σ} (h:l.all (fun x=>decide (x<n))=N):eS n l st=(.bad 4,st):=by unfold eS;rw [if_neg (by rw [h];simp)]
theorem xX {n id:Nat} {nd:Nd} {row:List Int} {st:eP σ} (d:nd.dr.all (fun x=>decide (x<n))=L) (e:row.all (fun x=>decide (x<n))=L):ja n id nd row st=(.ok ⟨id,nd,row⟩,st):=
 (WM.bd (iC d)).trans (WM.bd (iC e))
theorem xt {n id:Nat} {nd:Nd} {row:List Int} {st:eP σ} (d:nd.dr.all (fun x=>decide (x<n))=L) (e:row.all (fun x=>decide (x<n))=N):ja n id nd row st=(.bad 4,st):=
 (WM.bd (iC d)).trans (WM.bk (qN e))
theorem xo {n id:Nat} {nd:Nd} {row:List Int} {st:eP σ} (d:nd.dr.all (fun x=>decide (x<n))=N):ja n id nd row st=(.bad 4,st):=
 WM.bk (qN d)
theorem LF {ask:cO σ} {n id:Nat} {nd:Nd} {st:eP σ} (h:nd.rw=0):lJ ask n id nd st=ja n id nd (J2 240 0) st:=if_pos h
theorem KO {ask:cO σ} {n id:Nat} {nd:Nd} {st:eP σ} (h:nd.rw≠0) (d:[nd.rw].all (fun x=>decide (x<n))=N):lJ ask n id nd st=(.bad 4,st):=
 (if_neg h).trans (WM.bk (qN d))
theorem Ob {ask:cO σ} {n id:Nat} {nd:Nd} {st d:eP σ} {c:Int} (h:nd.rw≠0) (e:[nd.rw].all (fun x=>decide (x<n))=L) (f:de ask nd.rw st=(.bad c,d)):lJ ask n id nd st=(.bad c,d):=
 (if_neg h).trans ((WM.bd (iC e)).trans (WM.bk f))
theorem Oh {ask:cO σ} {n id:Nat} {nd:Nd} {st e:eP σ} {d:List UInt8} {row:List Int} (h:nd.rw≠0) (f:[nd.rw].all (fun x=>decide (x<n))=L) (g:de ask nd.rw st=(.ok d,e)) (i:l7 d=(row,4)):lJ ask n id nd st=(.bad 4,e):=by
 refine (if_neg h).trans ((WM.bd (iC f)).trans ((WM.bd g).trans ?_));rw [i];exact if_neg (show ¬ (4:Int)=0 by decide)
theorem OL {ask:cO σ} {n id:Nat} {nd:Nd} {st e:eP σ} {d:List UInt8} {row:List Int} (h:nd.rw≠0) (f:[nd.rw].all (fun x=>decide (x<n))=L) (g:de ask nd.rw st=(.ok d,e)) (i:l7 d=(row,0)):lJ ask n id nd st=ja n id nd row e:=by
 refine (if_neg h).trans ((WM.bd (iC f)).trans ((WM.bd g).trans ?_));rw [i];exact if_pos rfl
theorem CL (id:Int) (e z r:List Int) (d:e.length=20) (i:z.length=240) (f:r.length=240):gj (ints (id :: (e++z))) 21 (r.map (E2 H))=ints (id :: (e++r)):=by
 have o:(ints (id :: (e++z))).size=261:=by rw [er];simp [d,i]
 apply Array.ext_getElem?;intro k;rw [jl _ _ _ _ (by rw [O2,f,o];decide),O2,f,dY,dY]
 by_cases g:21<=k/\k<21+240
 .rw [if_pos g,Y3]
  obtain ⟨j,rfl⟩:∃ j,k=j+1:=⟨k-1,by omega⟩
  rw [K3,W3 (by omega),d];congr 2
 .rw [if_neg g]
  rcases Nat.lt_or_ge k 21 with l|l
  .cases k with
   | zero=>rfl
   | succ j=>rw [K3,K3,P3 (by omega),P3 (by omega)]
  .rw [W4 (by simp [d,i];omega),W4 (by simp [d,f];omega)]
theorem xu (x:Wk σ) (hc:x.c.Ok) (w:O) (c0:Hp) (st:eP σ) (id:Int) (F:ai) (h:ag w (aG x c0 st*(ak c0*F))) (q:Ending->O->Prop)
  (hQ:∀ e w',WQ x qi c0 F w (gv x.c.ask x.n id st) e w'->q e w') :
  Calls Q 85 #[X (U ⟨x.k,0,V⟩),Z H id] w q:=by
 have y:=wo h
 by_cases l0:1<=id/\id<x.n
 .have P:=lT x hc w c0 st id F h
  have Hid:=ae l0;obtain ⟨i1,i2⟩:=l0;clear h;obtain ⟨⟨Y1,aS⟩,hp⟩:∃ p,de x.c.ask id st=p:=⟨_,rfl⟩
  rw [hp] at P
  cases Y1 with
  | bad c=>
   have o:=ae hQ;have Hp:=ae (Jn Hid.out hp);clear hp hQ
   go_enter func85,ntmps85
   go_wp2_with fail
   (with_reducible refine (gO w).mono ?_)
   rintro e S ⟨rfl,rfl⟩
   go_wp2_with fail
   (with_reducible refine P.mono ?_)
   rintro e w1 ⟨S',hS,d1,rfl,h2⟩
   go_wp2_with fail
   exact ⟨rfl,o.out _ _ (by rw [Hp.out];exact ⟨S',hS,d1,rfl,h2⟩)⟩
  | ok G0=>
   have hL:=ji hp;have f:=ae (Gj G0);have z1:=Tc G0;have A:=fun w1 v1 P=>Qn w1 v1 G0 P hL;unfold VH at A;have o:=ae hQ;have m1:=fun d=>M5 (nd:=d) Hid.out hp;have i0:=fun d=>Ji (nd:=d) Hid.out hp;generalize kV G0=p at *;obtain ⟨d,c⟩:=p;dsimp only at z1 f A;have S0:=ae (m1 d);have f0:=ae (i0 d);have M1:d.v = .agg (d.l.map (E2 H)).toArray:=rfl;rw [M1] at A;clear hp hQ m1 i0 hL M1
   go_enter func85,ntmps85
   go_wp2_with fail
   (with_reducible refine (gO w).mono ?_)
   rintro e S ⟨rfl,rfl⟩
   go_wp2_with fail
   (with_reducible refine P.mono ?_)
   rintro e w1 ⟨t,v1,G,d1,rfl,h1⟩;have xA:=A w1 v1 h1.oI;have Hk:=ae (fun w' (h:ag w' (whole w1))=>ag.ei h h1);clear P y A
   go_wp2_with fail
   (with_reducible refine xA.mono ?_)
   rintro e S ⟨rfl,h2,d2⟩;have H2:=(Hk.out S h2).right;have D2:=d1.trans d2;clear xA Hk h1 h2 d1 d2;have hZ:=H2.alloc (Y #[Z H 0,Z H 0,Z H 0,Z H 0,Z H 0,Z H 0,Z H 0,Z H 0,Z H 0,Z H 0,Z H 0,Z H 0,Z H 0,Z H 0,Z H 0,Z H 0,Z H 0,Z H 0,Z H 0,Z H 0] 65 (0,0));have DZ:=D2.alloc (Y #[Z H 0,Z H 0,Z H 0,Z H 0,Z H 0,Z H 0,Z H 0,Z H 0,Z H 0,Z H 0,Z H 0,Z H 0,Z H 0,Z H 0,Z H 0,Z H 0,Z H 0,Z H 0,Z H 0,Z H 0] 65 (0,0));have g1:(d.l.map (E2 H)).toArray.size=20:=by simp [Nd.cells f.out]
   have x1:(d.l.map (E2 H)).toArray.all (·.oneCell')=L:=by simp [Z3]
   have K1:(prog.info? 65).map (·.size)=U (d.l.map (E2 H)).toArray.size:=by rw [g1];exact bF
   have R1:=ae g1;have S1:=ae x1;have V1:=ae K1;have B:=hZ.setRow (cs':=(d.l.map (E2 H)).toArray);have k1:=ae (DZ.setRow S.heap.size (d.l.map (E2 H)).toArray);have Hz:=ae hZ.heap;clear g1 x1 K1 H2 D2 DZ hZ
   go_wp2_with (refine wpList_store_row (by exact rfl) 65 (.tmp 5) (.tmp 24) (by exact rfl) S.heap.size (d.l.map (E2 H)).toArray (by exact rfl) (by exact rfl) 65 _ (by with_reducible exact Hz.out) V1.out (by rw [R1.out];rfl) S1.out ?_)
   generalize S.heap.size=i at *;generalize World.setRow _ _ _=l at *;clear Hz;rcases z1 with rfl|rfl
   .have C:=ae (S0.out rfl)
    clear S0 f0;have f1:=qM id d f.out;obtain ⟨g,N0⟩:∃ W1,W1=J2 240 (0:Int):=⟨_,rfl⟩
    rw [<- N0] at f1;have r:RowKit.Hid (g.length=240):=by show g.length=240;rw [N0];rfl
    have N1:=ae N0;clear N0;have u0:=ae f1
    have H1:l.rangeAt i 0 (d.l.map (E2 H)):=fun a2 v hv=>by
     rw [Nat.zero_add,B.cell,List.getElem?_toArray];exact hv
    have r1:(prog.info? 65).map (·.size)=U (d.l.map (E2 H)).length:=by rw [O2,Nd.cells f.out];exact bF
    have F0:=ae H1;have x0:=ae r1;clear f1 H1 r1;have c4:l.cell? ⟨i,19,V⟩=U (Z H d.rw):=(B.cell 19).trans (Nd.G6 f.out);have U1:=ae B;have t1:i<l.heap.size:=B.lt;clear B;have L0:ag (l.alloc (Y (ints (id :: (d.l++g))) 136 (0,0))) (pt l.heap.size (Y (ints (id :: (d.l++g))) 136 (0,0))*(pt i (Y (d.l.map (E2 H)).toArray 65 (0,0))*(aG x t aS*(ak t*F)))):=U1.out.alloc _;have D0:=ae (k1.out.alloc (Y (ints (id :: (d.l++g))) 136 (0,0)));have V0:=ae L0;have u1:l.heap.size<(l.alloc (Y (ints (id :: (d.l++g))) 136 (0,0))).heap.size:=L0.lt;have c1:(l.alloc (Y (ints (id :: (d.l++g))) 136 (0,0))).cell? ⟨i,19,V⟩=U (Z H d.rw):=(L0.ah.cell 19).trans (Nd.G6 f.out);clear L0
    (with_reducible refine (kP _).mono ?_)
    rintro e w4 ⟨rfl,rfl⟩
    by_cases d0:d.rw=0
    .have e0:=ae ((LF (ask:=x.c.ask) (n:=x.n) (id:=id.toNat) (st:=aS) d0).trans (by rw [<- N1.out]))
     rw [d0] at c4 c1
     go_wp2_with (first
      | (refine wpList_load_mid (by exact rfl) 65 (.tmp 5) (by exact rfl) i 0 (by exact rfl) (d.l.map (E2 H)) _ (by with_reducible exact F0.out) underlying65 rfl (by with_reducible exact x0.out) ?_)
      | (refine gU (by exact rfl) 136 #[(0,.tmp 28),(1,.tmp 29)] (by exact rfl) _ (by exact rfl) _ (by exact u0.out) ?_))
     have z:=V0.out;generalize l.alloc (Y (ints (id :: (d.l++g))) 136 (0,0))=w5 at *;generalize l.heap.size=j at *;clear c4 c1 F0 x0 t1 u1 u0
     have o0:pX w5 (R (U ⟨i,3,V⟩) 16 16) d.dr:=by
      have h9:ag w5 (pt i (Y (ints d.l) 65 (0,0))*_):=z.ah;have:=pX.row h9 3 16 (by rw [Nd.cells f.out];decide) (by decide)
      rwa [Nd.lV f.out] at this
     have p0:pX w5 (R (U ⟨j,21,V⟩) 240 240) g:=by
      have:=pX.row z 21 240 (by rw [M2,S4,Nd.cells f.out,r.out];decide) (by decide)
      rwa [show ((id :: (d.l++g)).drop 21).take 240=g from by rw [X4,List.drop_left' (Nd.cells f.out),Y4 (by rw [r.out];decide)]] at this
     have y:w5.cell? ⟨x.k,1,V⟩=U (Z H (x.n:Int)):=wo z.right.right;have hA:∀ q,_->_->Calls Q 150 #[X (U ⟨x.k,0,V⟩),R (U ⟨i,3,V⟩) 16 16] w5 q:=jG w5 x.k x.n _ d.dr (by rw [f.out];decide) o0 y;have E:∀ q,_->_->Calls Q 150 #[X (U ⟨x.k,0,V⟩),R (U ⟨j,21,V⟩) 240 240] w5 q:=jG w5 x.k x.n _ g (by rw [r.out];decide) p0 y;have HT:=ae z;clear o0 p0 y z
     go_wp2_with fail
     refine hA _ (fun q0=>?_) (fun m0=>?_)
     .have h0:=ae q0
      clear q0 hA
      go_wp2_with fail
      refine E _ (fun r0=>?_) (fun n0=>?_)
      .have b1:=ae r0
       clear r0 E
       go_wp2_with fail
       refine o.out _ _ ?_;rw [C.out.trans (e0.out.trans (xX h0.out b1.out))];refine ⟨t,_,G,D0.out,rfl,?_⟩;refine ag.aw.2 ⟨j,(ag.aq.2 ⟨rfl,ag.held.2 ⟨⟨f.out,r.out⟩,?_⟩⟩:ag _ (fact _*_)).to (ax _ _ _).symm⟩;have e:(Hd.l ⟨id.toNat,d,g⟩)=id :: (d.l++g):=by show ((id.toNat:Int) :: _)=_;rw [T4 (by omega)]
       rw [e];exact (HT.out.to (by ac_rfl:_=pt i (Y (d.l.map (E2 H)).toArray 65 (0,0))*(pt j (Y (ints (id :: (d.l++g))) 136 (0,0))*(aG x t aS*(ak t*F))))).right
      .have Y0:=ae n0
       clear n0 E
       go_wp2_with fail
       exact ⟨rfl,o.out _ _ (by rw [C.out.trans (e0.out.trans (xt h0.out Y0.out))];exact ⟨t,G,D0.out,rfl,HT.out.right.right⟩)⟩
     .have X0:=ae m0
      clear m0 hA E
      go_wp2_with fail
      exact ⟨rfl,o.out _ _ (by rw [C.out.trans (e0.out.trans (xo X0.out))];exact ⟨t,G,D0.out,rfl,HT.out.right.right⟩)⟩
    .have Z1:(d.rw != 0)=L:=by simpa using d0
     have Z0:=ae d0;have e0:=ae (KO (ask:=x.c.ask) (n:=x.n) (id:=id.toNat) (st:=aS) d0);have k0:=V0.out.alloc (Y #[Z H d.rw] 3 (0,0));have D1:=ae (D0.out.alloc (Y #[Z H d.rw] 3 (0,0)));have W0:=ae k0
     have A1:pX ((l.alloc (Y (ints (id :: (d.l++g))) 136 (0,0))).alloc (Y #[Z H d.rw] 3 (0,0))) (R (U ⟨l.heap.size+1,0,V⟩) 1 1) [d.rw]:=by
      have h8:=k0;rw [L3] at h8;exact pX.row (xs:=[d.rw]) h8 0 1 (Nat.le_refl _) (by decide)
     have y:=wo k0.right.right.right;have hC:∀ q,_->_->Calls Q 150 #[X (U ⟨x.k,0,V⟩),R (U ⟨l.heap.size+1,0,V⟩) 1 1] _ q:=jG _ x.k x.n _ [d.rw] (by show 1<=1000;decide) A1 y;have X1:=(k0.au.cell 19).trans (Nd.G6 f.out);clear k0 A1 y d0
     go_wp2_with (first
      | (refine wpList_load_mid (by exact rfl) 65 (.tmp 5) (by exact rfl) i 0 (by exact rfl) (d.l.map (E2 H)) _ (by with_reducible exact F0.out) underlying65 rfl (by with_reducible exact x0.out) ?_)
      | (refine gU (by exact rfl) 136 #[(0,.tmp 28),(1,.tmp 29)] (by exact rfl) _ (by exact rfl) _ (by exact u0.out) ?_))
     refine hC _ (fun hy=>?_) (fun hn=>?_)
     .have Hy:=ae hy
      have R0:=lT x hc _ t aS d.rw _ (W0.out.right.to (by ac_rfl:_=aG x t aS*(ak t*(pt l.heap.size (Y (ints (id :: (d.l++g))) 136 (0,0))*(pt i (Y (d.l.map (E2 H)).toArray 65 (0,0))*F)))));clear hy hC;generalize l.alloc (Y (ints (id :: (d.l++g))) 136 (0,0))=w4 at *;generalize l.heap.size=j at *;clear c4 c1 F0 x0 t1 u1 u0 V0;obtain ⟨⟨r2,j1⟩,b0⟩:∃ p,de x.c.ask d.rw aS=p:=⟨_,rfl⟩
      rw [b0] at R0
      cases r2 with
      | bad c=>
       have T0:=ae (Ob (id:=id.toNat) Z0.out Hy.out b0);clear b0
       go_wp2_with fail
       (with_reducible refine R0.mono ?_)
       rintro e w6 ⟨u,H0,d6,rfl,h6⟩
       go_wp2_with fail
       exact ⟨rfl,o.out _ _ (by rw [C.out.trans T0.out];exact ⟨u,G.trans H0,D1.out.trans d6,rfl,h6.to (by ac_rfl:_=(aG x u j1*(ak u*F))*(pt j (Y (ints (id :: (d.l++g))) 136 (0,0))*pt i (Y (d.l.map (E2 H)).toArray 65 (0,0)))) |>.left⟩)⟩
      | ok L2=>
       have o1:=ji b0;have n1:=fun row=>Oh (row:=row) (id:=id.toNat) Z0.out Hy.out b0;have i0:=fun row=>OL (row:=row) (id:=id.toNat) Z0.out Hy.out b0;have A:=fun w1 v1 P=>KU w1 v1 L2 P o1;have e1:=Cj L2;have E1:=SM L2;unfold Rr at A;generalize l7 L2=p at *;obtain ⟨row,c⟩:=p;dsimp only at A e1 E1;have T0:=ae (n1 row);have f0:=ae (i0 row);have s0:=ae e1;clear n1 i0 b0 o1 e1
       go_wp2_with fail
       (with_reducible refine R0.mono ?_)
       rintro e w6 ⟨u,v2,H0,d6,rfl,h6⟩;have p1:=A w6 v2 h6.oI;have Hk:=ae (fun w' (h:ag w' (whole w6))=>ag.ei h h6);clear R0 A
       go_wp2_with fail
       (with_reducible refine p1.mono ?_)
       rintro e w7 ⟨rfl,h7,d7⟩;have h8:ag w7 (pt j (Y (ints (id :: (d.l++g))) 136 (0,0))*(pt i (Y (d.l.map (E2 H)).toArray 65 (0,0))*(aG x u j1*(ak u*F)))):=(Hk.out w7 h7).right.to (by ac_rfl);have D8:=ae (aj.setCells (row.map (E2 H)) 21 j ((D1.out.trans d6).trans d7));have K0:=G.trans H0;have B:=ag.setCells (row.map (E2 H)) 21 h8;rw [CL id d.l g row (Nd.cells f.out) r.out s0.out] at B
       have L1:w7.there j 21 (row.map (E2 H)).toArray.size:=by
        have hz:(row.map (E2 H)).toArray.size=240:=by simp [s0.out]
        rw [hz];exact ag.there h8 (by rw [er,M2,S4,Nd.cells f.out,r.out];decide)
       have q1:(prog.info? 134).map (·.size)=U (row.map (E2 H)).toArray.size:=by
        have hz:(row.map (E2 H)).toArray.size=240:=by simp [s0.out]
        rw [hz];exact kQ
       have y1:(row.map (E2 H)).toArray.all (·.oneCell')=L:=by simp [Z3]
       have s1:Value.agg (ints row) = .agg (row.map (E2 H)).toArray:=rfl;have l1:=ae L1;have O1:=ae q1;have T1:=ae y1;have a1:=ae B;rw [s1];clear p1 Hk h6 h7 d6 d7 h8 L1 q1 y1 s1 B W0 D1 G H0 X1
       go_wp2_with (refine wpList_store_mid (by exact rfl) 134 (.tmp 50) (.tmp 47) (by exact rfl) j 21 (row.map (E2 H)).toArray (by exact rfl) (by exact rfl) (by with_reducible exact l1.out) O1.out T1.out ?_)
       rcases E1 with rfl|rfl
       .have g0:=ae (C.out.trans (f0.out rfl))
        (with_reducible refine (kP _).mono ?_)
        rintro e w9 ⟨rfl,rfl⟩;have z:ag (w7.setCells j 21 (row.map (E2 H)).toArray.toList) _:=a1.out;clear r;have r:=s0;have DD:RowKit.Hid (aj w (w7.setCells j 21 (row.map (E2 H)).toArray.toList)):=D8;clear l1 a1 D8;generalize w7.setCells j 21 (row.map (E2 H)).toArray.toList=w8 at *
        have o0:pX w8 (R (U ⟨i,3,V⟩) 16 16) d.dr:=by
         have h9:ag w8 (pt i (Y (ints d.l) 65 (0,0))*_):=z.ah;have:=pX.row h9 3 16 (by rw [Nd.cells f.out];decide) (by decide)
         rwa [Nd.lV f.out] at this
        have p0:pX w8 (R (U ⟨j,21,V⟩) 240 240) row:=by
         have:=pX.row z 21 240 (by rw [M2,S4,Nd.cells f.out,r.out];decide) (by decide)
         rwa [show ((id :: (d.l++row)).drop 21).take 240=row from by rw [X4,List.drop_left' (Nd.cells f.out),Y4 (by rw [r.out];decide)]] at this
        have y:w8.cell? ⟨x.k,1,V⟩=U (Z H (x.n:Int)):=wo z.right.right;have hA:∀ q,_->_->Calls Q 150 #[X (U ⟨x.k,0,V⟩),R (U ⟨i,3,V⟩) 16 16] w8 q:=jG w8 x.k x.n _ d.dr (by rw [f.out];decide) o0 y;have E:∀ q,_->_->Calls Q 150 #[X (U ⟨x.k,0,V⟩),R (U ⟨j,21,V⟩) 240 240] w8 q:=jG w8 x.k x.n _ row (by rw [r.out];decide) p0 y;have HT:=ae z;clear o0 p0 y z
        go_wp2_with fail
        refine hA _ (fun q0=>?_) (fun m0=>?_)
        .have h0:=ae q0
         clear q0 hA
         go_wp2_with fail
         refine E _ (fun r0=>?_) (fun n0=>?_)
         .have b1:=ae r0
          clear r0 E
          go_wp2_with fail
          refine o.out _ _ ?_;rw [g0.out.trans (xX h0.out b1.out)];refine ⟨u,_,K0,DD.out,rfl,?_⟩;refine ag.aw.2 ⟨j,(ag.aq.2 ⟨rfl,ag.held.2 ⟨⟨f.out,r.out⟩,?_⟩⟩:ag _ (fact _*_)).to (ax _ _ _).symm⟩;have e:(Hd.l ⟨id.toNat,d,row⟩)=id :: (d.l++row):=by show ((id.toNat:Int) :: _)=_;rw [T4 (by omega)]
          rw [e];exact (HT.out.to (by ac_rfl:_=pt i (Y (d.l.map (E2 H)).toArray 65 (0,0))*(pt j (Y (ints (id :: (d.l++row))) 136 (0,0))*(aG x u j1*(ak u*F))))).right
         .have Y0:=ae n0
          clear n0 E
          go_wp2_with fail
          exact ⟨rfl,o.out _ _ (by rw [g0.out.trans (xt h0.out Y0.out)];exact ⟨u,K0,DD.out,rfl,HT.out.right.right⟩)⟩
        .have X0:=ae m0
         clear m0 hA E
         go_wp2_with fail
         exact ⟨rfl,o.out _ _ (by rw [g0.out.trans (xo X0.out)];exact ⟨u,K0,DD.out,rfl,HT.out.right.right⟩)⟩
       .have g0:=ae (C.out.trans (T0.out rfl))
        (with_reducible refine (fP _ 4 (by decide)).mono ?_)
        rintro e w9 ⟨rfl,rfl⟩
        go_wp2_with fail
        exact ⟨rfl,o.out _ _ (by rw [g0.out];exact ⟨u,K0,D8.out,rfl,a1.out.right.right⟩)⟩
     .have Hn:=ae hn
      clear hn hC
      go_wp2_with fail
      exact ⟨rfl,o.out _ _ (by rw [C.out.trans (e0.out Hn.out)];exact ⟨t,G,D1.out,rfl,W0.out.right.right.right⟩)⟩
   .have C:=ae (f0.out rfl)
    clear S0 f0
    (with_reducible refine (fP _ 4 (by decide)).mono ?_)
    rintro e w4 ⟨rfl,rfl⟩
    go_wp2_with fail
    exact ⟨rfl,o.out _ _ (by rw [C.out];exact ⟨t,G,k1.out,rfl,B.right⟩)⟩
 .have Hp:=ae (Mo (ask:=x.c.ask) (st:=st) l0)
  have o:=ae hQ;have HL:=ae (show q (.panicked (Ks 1)) w from hQ _ _ (by rw [Hp.out];exact ⟨c0,Ext.refl c0,aj.refl w,rfl,h⟩));clear hQ
  by_cases h1:1<=id
  .have h2:decide (id<(x.n:Int))=N:=decide_eq_false (by omega)
   clear l0
   go_enter func85,ntmps85
   go_wp2_with fail
   (with_reducible refine (gX w).mono ?_)
   rintro e S ⟨rfl,rfl⟩
   go_wp2_with fail
   exact ⟨rfl,HL.out⟩
  .have h2:id<1:=by omega
   clear l0
   go_enter func85,ntmps85
   go_wp2_with fail
   (with_reducible refine (gX w).mono ?_)
   rintro e S ⟨rfl,rfl⟩
   go_wp2_with fail
   exact ⟨rfl,HL.out⟩
end
end Go.Proofs.Fs
namespace Go.SL
open RowKit
section
variable {σ:Type}
def NZ (h:Hd):WM σ Unit:=fun st=>
 if h.n.rw=0 then (.ok (),st) else if h.row.all dq=L then bQ h.n.rw (ke h.row) st else (.bad 1,st)
def ez (h:Hd):WM σ Unit:=fun st=>
 if h.n.ok=L then (WM.bind (bQ (h.id:Int) (iW h.n)) fun _=>NZ h) st else (.bad 1,st)
theorem MJ {h:Hd} {st:eP σ} (d:h.n.ok=N):ez h st=(.bad 1,st):=if_neg (by rw [d];decide)
theorem JP {h:Hd} {st aS:eP σ} {c:Int} (d:h.n.ok=L) (e:bQ (h.id:Int) (iW h.n) st=(.bad c,aS)):ez h st=(.bad c,aS):=(if_pos d).trans (WM.bk e)
theorem Qe {h:Hd} {st aS:eP σ} (d:h.n.ok=L) (e:bQ (h.id:Int) (iW h.n) st=(.ok (),aS)) (f:h.n.rw=0):ez h st=(.ok (),aS):=(if_pos d).trans ((WM.bd e).trans (if_pos f))
theorem Lj {h:Hd} {st aS:eP σ} (d:h.n.ok=L) (e:bQ (h.id:Int) (iW h.n) st=(.ok (),aS)) (f:h.n.rw≠0) (g:h.row.all dq=N):ez h st=(.bad 1,aS):=
 (if_pos d).trans ((WM.bd e).trans ((if_neg f).trans (if_neg (by rw [g];decide))))
theorem Ns {h:Hd} {st aS:eP σ} (d:h.n.ok=L) (e:bQ (h.id:Int) (iW h.n) st=(.ok (),aS)) (f:h.n.rw≠0) (g:h.row.all dq=L):ez h st=bQ h.n.rw (ke h.row) aS:=
 (if_pos d).trans ((WM.bd e).trans ((if_neg f).trans (if_pos g)))
end
end Go.SL
namespace Go.Proofs.Fs
open RowKit SL Proofs.Ba
section
variable {σ α:Type}
theorem tq {w:O} {d:Nat} {h:Hd} {F:ai} (f:h.fit) (hs:ag w (pt d (Y (ints h.l) 136 (0,0))*F)):w.rangeAt d 1 (h.n.l.map (E2 H)):=fun j v e=>by
 rw [hs.cell,dY,<- Y3,L4];show (List.map (E2 H) ((h.id:Int) :: (h.n.l++h.row)))[j+1]?=U v
 rw [List.map_cons,K3,List.map_append,P3 (List.getElem?_eq_some_iff.1 e).1];exact e
theorem B0 {w:O} {d:Nat} {h:Hd} {F:ai} (e:h.fit) (hs:ag w (pt d (Y (ints h.l) 136 (0,0))*F)):w.rangeAt d 21 (h.row.map (E2 H)):=fun j v f=>by
 rw [hs.cell,dY,<- Y3,show 21+j=(20+j)+1 by omega];show (List.map (E2 H) ((h.id:Int) :: (h.n.l++h.row)))[20+j+1]?=U v
 rw [List.map_cons,K3,List.map_append,W3 (by rw [O2,Nd.cells e.1];omega),O2,Nd.cells e.1,Nat.add_sub_cancel_left];exact f
theorem si {w:O} {d:Nat} {h:Hd} {F:ai} (e:h.fit) (hs:ag w (pt d (Y (ints h.l) 136 (0,0))*F)):w.cell? ⟨d,20,V⟩=U (Z H h.n.rw):=by
 have:=tq e hs 19 (Z H h.n.rw) (by
  have:=Nd.G6 e.1
  rwa [dY,<- Y3] at this)
 exact this
theorem zV {w:O} {d:Nat} {h:Hd} {F:ai} (hs:ag w (pt d (Y (ints h.l) 136 (0,0))*F)):w.cell? ⟨d,0,V⟩=U (Z H (h.id:Int)):=hs.cell 0
theorem Dt (x:Wk σ) (w:O) (S:Hp) (st:eP σ) (i:Nat) (h:Hd) (F:ai) (hs:ag w (aR i h*(aG x S st*(ak S*F)))) (m0:Ending->O->Prop)
  (hQ:∀ e w',WQ x jA S (aR i h*F) w (ez h st) e w'->m0 e w') :
  Calls Q 87 #[X (U ⟨x.k,0,V⟩),X (U ⟨i,0,V⟩)] w m0:=by
 obtain ⟨g,h0⟩:=ag.held.1 hs;have t:=ae hQ;have Hf:=ae g;have z:=ae (tq g h0);have r0:(prog.info? 65).map (·.size)=U (h.n.l.map (E2 H)).length:=by rw [O2,Nd.cells g.1];exact bF
 have k0:=ae r0;have o0:h.n.v = .agg (h.n.l.map (E2 H)).toArray:=rfl;have Hs:=ae hs
 cases q:h.n.ok with
 | false=>
  have f:=sF w h.n g.1 q;rw [o0] at f;have j:=ae (MJ (st:=st) q)
  go_enter func87,ntmps87
  go_wp2_with (refine wpList_load_mid (by exact rfl) 65 (.tmp 9) (by exact rfl) i 1 (by exact rfl) (h.n.l.map (E2 H)) _ (by with_reducible exact z.out) underlying65 rfl (by with_reducible exact k0.out) ?_)
  (refine f.mono ?_)
  rintro e w2 ⟨rfl,h2,E⟩;have v:=h2.ei Hs.out
  go_wp2_with fail
  (refine (fP _ 1 (by decide)).mono ?_)
  rintro e u ⟨rfl,rfl⟩
  go_wp2_with fail
  exact ⟨rfl,t.out _ _ (by rw [j.out];exact ⟨S,Ext.refl S,E,rfl,v.to (by ac_rfl)⟩)⟩
 | true=>
  have f:=mR w h.n g.1 q;have D0:=fun d c=>JP (h:=h) (st:=st) (aS:=d) (c:=c) q;have F0:=fun d=>Qe (h:=h) (st:=st) (aS:=d) q;have G0:=fun d=>Lj (h:=h) (st:=st) (aS:=d) q;have H0:=fun d=>Ns (h:=h) (st:=st) (aS:=d) q;rw [o0] at f;have p0:=ae D0;have b0:=ae F0;have d0:=ae G0;have e0:=ae H0
  go_enter func87,ntmps87
  go_wp2_with (refine wpList_load_mid (by exact rfl) 65 (.tmp 9) (by exact rfl) i 1 (by exact rfl) (h.n.l.map (E2 H)) _ (by with_reducible exact z.out) underlying65 rfl (by with_reducible exact k0.out) ?_)
  (refine f.mono ?_)
  rintro e w2 ⟨v2,rfl,h2,E⟩;have v:=h2.under Hs.out;have u0:=v.oI;have H3:=v.right.to (by ac_rfl:_=aG x S st*(ak S*(aR i h*F)));have c0:=zV (ag.held.1 v.right).2;have r:=mE x w2 S st (h.id:Int) _ (iW h.n) _ H3 u0;obtain ⟨⟨g0,d⟩,o⟩:∃ p,bQ (h.id:Int) (iW h.n) st=p:=⟨_,rfl⟩
  rw [o] at r
  go_wp2_with fail
  (refine (kP _).mono ?_)
  rintro e u ⟨rfl,rfl⟩
  cases g0 with
  | bad c=>
   have j:=ae (p0.out _ _ o)
   go_wp2_with fail
   (refine r.mono ?_)
   rintro e u ⟨l,hS,d3,rfl,h3⟩
   go_wp2_with fail
   exact ⟨rfl,t.out _ _ (by rw [j.out];exact ⟨l,hS,E.trans d3,rfl,h3⟩)⟩
  | ok K0=>
   have b0:=ae (b0.out _ o);have d0:=ae (d0.out _ o);have e0:=ae (e0.out _ o)
   go_wp2_with fail
   (with_reducible refine r.mono ?_)
   rintro e u ⟨l,v3,hS,d3,rfl,h3⟩;obtain ⟨rfl,h4⟩:=ag.aq.1 h3;have h5:ag u (aR i h*(aG x l d*(ak l*F))):=h4.to (by ac_rfl);obtain ⟨g,h6⟩:=ag.held.1 h5;have q0:=si g h6;have B:=ae (E.trans d3);have C:=ae hS
   by_cases A:h.n.rw=0
   .have j:=ae (b0.out A)
    have H4:=ae h4;rw [A] at q0
    go_wp2_with fail
    go_end0
    refine t.out _ _ ?_;rw [j.out];exact ⟨l,_,C.out,B.out,rfl,ag.aq.2 ⟨rfl,H4.out⟩⟩
   .have N0:(h.n.rw != 0)=L:=by simpa using A
    have z:=ae (B0 g h6);have s0:(prog.info? 134).map (·.size)=U (h.row.map (E2 H)).length:=by rw [O2,g.2];exact kQ
    have l0:=ae s0;have n0:Value.agg (ints h.row) = .agg (h.row.map (E2 H)).toArray:=rfl;have H5:=ae h5
    cases P:h.row.all dq with
    | false=>
     have j:=ae (d0.out A P);have f:=A0 u h.row g.2 P;rw [n0] at f
     go_wp2_with (refine wpList_load_mid (by exact rfl) 134 (.tmp 32) (by exact rfl) i 21 (by exact rfl) (h.row.map (E2 H)) _ (by with_reducible exact z.out) underlying134 rfl (by with_reducible exact l0.out) ?_)
     (with_reducible refine f.mono ?_)
     rintro e w4 ⟨rfl,h7,G⟩;have y:=h7.ei H5.out
     go_wp2_with fail
     (with_reducible refine (fP _ 1 (by decide)).mono ?_)
     rintro e w5 ⟨rfl,rfl⟩
     go_wp2_with fail
     exact ⟨rfl,t.out _ _ (by rw [j.out];exact ⟨l,C.out,B.out.trans G,rfl,y.to (by ac_rfl)⟩)⟩
    | true=>
     have j:=ae (e0.out A P);have f:=xF u h.row g.2 P;rw [n0] at f
     go_wp2_with (refine wpList_load_mid (by exact rfl) 134 (.tmp 32) (by exact rfl) i 21 (by exact rfl) (h.row.map (E2 H)) _ (by with_reducible exact z.out) underlying134 rfl (by with_reducible exact l0.out) ?_)
     (with_reducible refine f.mono ?_)
     rintro e w4 ⟨v4,rfl,h7,G⟩;have y:=h7.under H5.out;have x0:=y.oI;have L0:=si Hf.out (ag.held.1 y.right).2;have r:=mE x w4 l d h.n.rw _ (ke h.row) _ (y.right.to (by ac_rfl:_=aG x l d*(ak l*(aR i h*F)))) x0;obtain ⟨⟨g0,R0⟩,o⟩:∃ p,bQ h.n.rw (ke h.row) d=p:=⟨_,rfl⟩
     rw [o] at r;have i0:=ae (j.out.trans o)
     go_wp2_with fail
     (with_reducible refine (kP _).mono ?_)
     rintro e w5 ⟨rfl,rfl⟩
     cases g0 with
     | bad c=>
      go_wp2_with fail
      (with_reducible refine r.mono ?_)
      rintro e w5 ⟨S2,f0,d5,rfl,h8⟩
      go_wp2_with fail
      exact ⟨rfl,t.out _ _ (by rw [i0.out];exact ⟨S2,C.out.trans f0,(B.out.trans G).trans d5,rfl,h8⟩)⟩
     | ok K0=>
      go_wp2_with fail
      (with_reducible refine r.mono ?_)
      rintro e w5 ⟨S2,v5,f0,d5,rfl,h8⟩;obtain ⟨rfl,h9⟩:=ag.aq.1 h8
      go_wp2_with fail
      go_end0
      refine t.out _ _ ?_;rw [i0.out];exact ⟨S2,_,C.out.trans f0,(B.out.trans G).trans d5,rfl,ag.aq.2 ⟨rfl,h9⟩⟩
end
end Go.Proofs.Fs
namespace Go.SL
open RowKit
section
variable {σ α:Type}
def oH:WM σ Unit:=fun st=>if st.dt=L then bQ 0 (st.bits.getD []) st else (.ok (),st)
def U8 (d:gZ σ):Rs α × eP σ->Rs α × gZ σ
 | (.ok a,st)=>(.ok a,st.b)
 | (.bad c,st)=>(.bad c,{ d with s:=st.b.s })
def ed (m:WM σ α) (d:gZ σ):Rs α × gZ σ:=U8 d ((WM.bind m fun a=>WM.bind oH fun _=>WM.pure a) ⟨d,V,N⟩)
theorem mj {m:WM σ α} {d:gZ σ} {st:eP σ} {c:Int} (h:m ⟨d,V,N⟩=(.bad c,st)):ed m d=(.bad c,{ d with s:=st.b.s }):=by
 unfold ed;rw [WM.bk h];rfl
theorem oM {m:WM σ α} {d:gZ σ} {st:eP σ} {a:α} (h:m ⟨d,V,N⟩=(.ok a,st)) (f:st.dt=N):ed m d=(.ok a,st.b):=by
 have e:(WM.bind oH fun _=>WM.pure a) st=(.ok a,st):=WM.bd (if_neg (by rw [f];decide));unfold ed;rw [WM.bd h,e];rfl
theorem sr {m:WM σ α} {d:gZ σ} {st st':eP σ} {a:α} (h:m ⟨d,V,N⟩=(.ok a,st)) (f:st.dt=L) (g:bQ 0 (st.bits.getD []) st=(.ok (),st')):ed m d=(.ok a,st'.b):=by
 have e:(WM.bind oH fun _=>WM.pure a) st=(.ok a,st'):=WM.bd ((if_pos f).trans g);unfold ed;rw [WM.bd h,e];rfl
theorem uL {m:WM σ α} {d:gZ σ} {st st':eP σ} {a:α} {c:Int} (h:m ⟨d,V,N⟩=(.ok a,st)) (f:st.dt=L) (g:bQ 0 (st.bits.getD []) st=(.bad c,st')):ed m d=(.bad c,{ d with s:=st'.b.s }):=by
 have e:(WM.bind oH fun _=>WM.pure a) st=(.bad c,st'):=WM.bk ((if_pos f).trans g);unfold ed;rw [WM.bd h,e];rfl
end
end Go.SL
namespace Go.Proofs.Fs
open RowKit SL Proofs.Ba
variable {e v:M} {S:Hp}
theorem jY (v:M) (w:O):(Instr.typeAssert (.iface 220 v) 20 220 L).run Q w = .ok (I #[v,J L]) w:=by
 simp [Instr.typeAssert,run_underlying underlying220,go_sem,Result.andThen]
section
variable {σ α:Type}
theorem My (w:O) (g i:Addr) :
    CallsD Q 160 #[X (U g),X (U i)] .returning w fun e u j=>e = K (I #[])/\u = .returning/\w=j:=by
  refine callsD_of_wpS func160 rfl fun d l f=>?_;apply wpS_seq;refine wpS_of_wp ?_
  simp only [ntmps160,P2,M2,R2,T2,W2,X2,
     Y2,Z2,B3,G3,J3]
  go_wp2
  apply wpS_seq;apply wpS_region;simp [wpOpsS,go_sem,recoverD,f,Exit.thenS];refine wpS_of_wp ?_
  go_wp2
  cases d
  simp_all [bodyPostS,results,Tryz.results160]
theorem Ld (w:O) (d f:Addr) (c x y:Int) (g:List PanicEntry) (t:w.cell? d=U (Z H x)) (v:w.cell? f=U (Z H y)) (q:w.frozen? d=N) (r:w.frozen? f=N) (z:d≠f) :
    CallsD Q 160 #[X (U d),X (U f)] (.panicking ({ v:=.iface 220 (Z H c),recovered:=N } :: g)) w fun e u j=>
      e = K (I #[])/\u = .panicking ({ v:=.iface 220 (Z H c),recovered:=L } :: g)/\j=(w.setCell d (Z H 0)).setCell f (Z H c):=by
  refine callsD_of_wpS func160 rfl fun o l i=>?_;apply wpS_seq;refine wpS_of_wp ?_
  simp only [ntmps160,P2,M2,R2,T2,W2,X2,
     Y2,Z2,B3,G3,J3]
  go_wp2
  apply wpS_seq;apply wpS_region;simp [wpOpsS,go_sem,recoverD,i,Exit.thenS];refine wpS_of_wp ?_;have A:=jY (Z H c)
  go_wp2
  exact ⟨rfl,_,rfl,_,results_none rfl _ _ _,rfl,rfl,rfl⟩
def Cf (c:Cx σ) (i:Nat) (zero:M) (j:α->M->ai) (S:Hp) (F:ai) (w:O):Rs α × gZ σ->Ending->O->Prop
 | (.ok a,g),e,f=>∃ d v,Ext S d/\aj w f/\e = K (I #[v,Z H 0])/\ag f (j a v*(cI c d i g*(ak d*F)))
 | (.bad n,g),e,f=>∃ d,Ext S d/\aj w f/\e = K (I #[zero,Z H n])/\ag f (cI c d i g*(ak d*F))
def DE (c:Cx σ) (n:Nat) (f:FuncId) (e:Array M) (d:α->M->ai) (G:ai) (m:WM σ α):Prop:=
 ∀ (x:Wk σ) (w:O) (S:Hp) (st:eP σ) (F:ai),x.c=c->x.n=n->ag w (aG x S st*(ak S*(G*F)))->Calls Q f (#[X (U ⟨x.k,0,V⟩)]++e) w (WQ x d S (G*F) w (m st))
def fV (d n:Nat):M:=.agg #[X (U ⟨d,0,V⟩),Z H (n:Int)]
theorem rA {w:O} {d:Array M} {a b:Nat} (f:d[4]?=U (az a)) (g:d[5]?=U (az b)) (i:w.cell? ⟨a,0,V⟩=U v) (j:w.cell? ⟨b,0,V⟩=U e) :
  (results Tryz.f98 d).run Q w = .ok (I #[v,e]) w:=by
 simp [results,Tryz.results98,f,g,go_sem,i,j]
theorem uT {w:O} {x:Wk σ} {st:eP σ} {F:ai} (h:ag w (aG x S st*F)):ag w (x.c.RI st.b.s*F):=by
 obtain ⟨v,d⟩:=ag.fG h;have e:ag w ((pt x.k (Y (x.cells v st.dt) 149 (0,0))*(aB 176 5 S x.b x.c.rd st.b.err st.b.W st.b.D*cF st.bits v))*(x.c.RI st.b.s*F)):=d.to (by unfold bH cI;ac_rfl);exact e.right
theorem nT {w:O} {c:Cx σ} {S e:Hp} {f:Nat} {d:gZ σ} {s:σ} {F:ai} (g:Ext S e) (h:ag w (c.RI s*(aB 176 5 S f c.rd d.err d.W d.D*F))):ag w (cI c e f { d with s:=s }*F):=
 ((h.ah).fO (dZ g)).to (by unfold cI;ac_rfl)
theorem uH {w:O} {c:Cx σ} {n k f:Nat} {d:gZ σ} {F:ai} (h:ag w (pt k (Y #[X (U ⟨f,0,V⟩),Z H (n:Int),R V 0 0,J N] 149 (0,0))*(aB 176 5 S f c.rd d.err d.W d.D*(c.RI d.s*F)))) :
  ag w (aG (⟨c,n,k,f⟩:Wk σ) S ⟨d,V,N⟩*F):=
 ag.iG (R V 0 0) ((ag.Gw h).to (by unfold bH cI Wk.cells;ac_rfl))
theorem yC {w:O} {i:Array M} {d f:Nat} {y z c:Int} {P:ai} {l:Ending->O->Prop} (o:i[4]?=U (az d)) (q:i[5]?=U (az f))
  (h:ag w (pt d (Y #[Z H y] 3 (0,0))*(pt f (Y #[Z H z] 28 (0,0))*P))) (hR:∀ j,ag j P->aj w j->l (K (I #[Z H 0,Z H c])) j) :
  bodyPostD Q Tryz.f98 l (Exit.panic (Ks c)) { tmps:=i,defers:=[{ target:=.fn (.func 160) #[X (U ⟨d,0,V⟩),X (U ⟨f,0,V⟩)],args:=#[] }] } w:=by
 have r:=ag.ne h;refine leaves_cons (f:=160) (args:=#[X (U ⟨d,0,V⟩),X (U ⟨f,0,V⟩)]) (by simp) (by simp [go_sem]) ?_;refine (Ld w ⟨d,0,V⟩ ⟨f,0,V⟩ c y z [] (h.cell 0) (h.ah.cell 0) (h.frozen 0) (h.ah.frozen 0) (by intro h;injection h with h;exact r h)).mono ?_;rintro e u t ⟨rfl,rfl,rfl⟩;have g:=((h.setCell 0 (Z H 0)).ah.setCell 0 (Z H c))
 exact ⟨_,rA o q (g.ah.cell 0) (g.cell 0),hR _ g.right.right (((aj.refl w).setCell _ _).setCell _ _)⟩
theorem yg {w:O} {g:Array M} {d f:Nat} {i:Ending->O->Prop} (j:g[4]?=U (az d)) (l:g[5]?=U (az f))
  (o:w.cell? ⟨d,0,V⟩=U v) (q:w.cell? ⟨f,0,V⟩=U e) (hR:i (K (I #[v,e])) w) :
  bodyPostD Q Tryz.f98 i Exit.ret { tmps:=g,defers:=[{ target:=.fn (.func 160) #[X (U ⟨d,0,V⟩),X (U ⟨f,0,V⟩)],args:=#[] }] } w:=by
 refine leaves_cons (f:=160) (args:=#[X (U ⟨d,0,V⟩),X (U ⟨f,0,V⟩)]) (by simp) (by simp [go_sem]) ?_;refine (My w ⟨d,0,V⟩ ⟨f,0,V⟩).mono ?_;rintro r u t ⟨rfl,rfl,rfl⟩;exact ⟨_,rA j l o q,hR⟩
theorem zJ {w:O} {o:Option (List UInt8)} {F:ai} (h:ag w (cF o v*F)):Rd w v (o.getD []):=by
 rcases ag.oW h with ⟨rfl,rfl,_⟩|⟨l,rfl,_,d⟩
 .exact ⟨rfl,.inl ⟨rfl,rfl⟩⟩
 .exact d.oI
theorem CO (c:Cx σ) (hc:c.Ok) (n:Nat) (d1:4<=n) (f1:n<=3840) (jf:FuncId) (L0:Array M) (G:ai) (m:WM σ Nat)
  (jX:∀ (args:Array M) (w:O),(callFunc jf args).run Q w = .ok (.enter jf args) w) (hj:DE c n jf L0 FQ G m)
  (g:Nat) (d:gZ σ) (w:O) (c0:Hp) (F:ai) (h:ag w (cI c c0 g d*(ak c0*(G*F)))) (K0:Ending->O->Prop)
  (hQ:∀ e A,Cf c g (Z H 0) FQ c0 (G*F) w (ed m d) e A->K0 e A) :
  Calls Q 98 #[fV g n,.func (.func jf) #[] L0] w K0:=by
 have HQ:=ae hQ;clear hQ;have e1:¬ ((n:Int)<4):=by omega
 have g1:¬ ((n:Int) > 3840):=by omega
 have Hj:=ae hj;unfold fV
 go_enter_defers func98,ntmps98
 have H3:=((h.alloc (Y #[X (U ⟨g,0,V⟩),Z H (n:Int)] 72 (0,0))).alloc (Y #[Z H 0] 3 (0,0))).alloc (Y #[Z H 0] 28 (0,0));have D3:=(((aj.refl w).alloc (Y #[X (U ⟨g,0,V⟩),Z H (n:Int)] 72 (0,0))).alloc (Y #[Z H 0] 3 (0,0))).alloc (Y #[Z H 0] 28 (0,0));simp only [L3] at H3
 go_wp2_with fail
 generalize ((w.alloc (Y #[X (U ⟨g,0,V⟩),Z H (n:Int)] 72 (0,0))).alloc (Y #[Z H 0] 3 (0,0))).alloc (Y #[Z H 0] 28 (0,0))=w3 at H3 D3 ⊢;clear h;generalize w.heap.size+1+1=o at *;generalize w.heap.size+1=j at *;generalize w.heap.size=v at *;have s0:=H3.au.cell 0;have s1:=H3.au.cell 1;have q:ag w3 (aB 176 5 c0 g c.rd d.err d.W d.D*(ak c0*(c.RI d.s*(pt o (Y #[Z H 0] 28 (0,0))*(pt j (Y #[Z H 0] 3 (0,0))*(pt v (Y #[X (U ⟨g,0,V⟩),Z H (n:Int)] 72 (0,0))*(G*F))))))):=H3.to (by unfold cI;ac_rfl);have V0:=oG w3.drew c0 g c.rd d.err d.W d.D _ q.drew ⟨_,_,rfl⟩;have Z0:=ae V0;clear V0
 go_region_held3 (fun A=>A.cell? ⟨v,0,V⟩=U (X (U ⟨g,0,V⟩))/\A.cell? ⟨v,1,V⟩=U (Z H (n:Int)))
  (first|exact ⟨s0,s1⟩|exact l0|go_keep)
  (first|(go_at_call 142;refine (Z0.out).mono ?_;rintro e w4 ⟨z,f,q0,rfl,h4,d4⟩;have l0:w4.cell? ⟨v,0,V⟩=U (X (U ⟨g,0,V⟩))/\w4.cell? ⟨v,1,V⟩=U (Z H (n:Int)):=⟨h4.bZ.cell 0,h4.bZ.cell 1⟩))
 have D5:=(D3.drew.trans d4).alloc (Y #[X (U ⟨f,0,V⟩),Z H (n:Int),R V 0 0,J N] 149 (0,0));have H5:=h4.alloc (Y #[X (U ⟨f,0,V⟩),Z H (n:Int),R V 0 0,J N] 149 (0,0))
 have X0:ag (w4.alloc (Y #[X (U ⟨f,0,V⟩),Z H (n:Int),R V 0 0,J N] 149 (0,0))) (aG (⟨c,n,w4.heap.size,f⟩:Wk σ) z ⟨d,V,N⟩*(ak z*(G*(aB 176 5 z g c.rd d.err d.W d.D*(pt o (Y #[Z H 0] 28 (0,0))*(pt j (Y #[Z H 0] 3 (0,0))*(pt v (Y #[X (U ⟨g,0,V⟩),Z H (n:Int)] 72 (0,0))*F))))))):=
  uH (H5.to (by ac_rfl))
 have r0:=Hj.out ⟨c,n,w4.heap.size,f⟩ _ z ⟨d,V,N⟩ _ rfl rfl X0;rename_i R0;generalize w4.heap.size=k at *;obtain ⟨⟨x0,i⟩,hp⟩:∃ p,m ⟨d,V,N⟩=p:=⟨_,rfl⟩
 rw [hp] at r0
 cases x0 with
 | bad cN=>
  have HE:=ae (mj hp);clear hp
  go_wp2_with fail
  (with_reducible refine r0.mono ?_)
  rintro e w6 ⟨y,b0,d6,rfl,h6⟩;have h7:=uT h6
  have B:ag w6 (c.RI i.b.s*(aB 176 5 z g c.rd d.err d.W d.D*(pt o (Y #[Z H 0] 28 (0,0))*(pt j (Y #[Z H 0] 3 (0,0))*(ak y*(G*F)))))):=
   (h7.to (by ac_rfl:_=pt v (Y #[X (U ⟨g,0,V⟩),Z H (n:Int)] 72 (0,0))*(c.RI i.b.s*(aB 176 5 z g c.rd d.err d.W d.D*(pt o (Y #[Z H 0] 28 (0,0))*(pt j (Y #[Z H 0] 3 (0,0))*(ak y*(G*F)))))))).right
  have q:=nT b0 B;have u:ag w6 (pt j (Y #[Z H 0] 3 (0,0))*(pt o (Y #[Z H 0] 28 (0,0))*(cI c y g { d with s:=i.b.s }*(ak y*(G*F))))):=q.to (by ac_rfl)
  go_wp2_with fail
  exact yC rfl rfl u fun A d0 D0=>HQ.out _ _ (by rw [HE.out];exact ⟨y,q0.trans b0,(D5.trans d6).trans D0,rfl,d0⟩)
 | ok a=>
  go_wp2_with fail
  (with_reducible refine r0.mono ?_)
  rintro e w6 ⟨y,v6,b0,d6,rfl,h6⟩;obtain ⟨rfl,h7⟩:=ag.aq.1 h6;obtain ⟨C,B⟩:=ag.fG h7;clear r0 h6 h7;have q:ag w6 (pt j (Y #[Z H 0] 3 (0,0))*(pt o (Y #[Z H 0] 28 (0,0))*(pt v (Y #[X (U ⟨g,0,V⟩),Z H (n:Int)] 72 (0,0))*(pt k (Y #[X (U ⟨f,0,V⟩),Z H (n:Int),C,J i.dt] 149 (0,0))*(cI c y f i.b*(cF i.bits C*(ak y*(aB 176 5 z g c.rd d.err d.W d.D*(G*F))))))))):=B.to (by unfold bH Wk.cells;ac_rfl);have c9:w6.cell? ⟨j,0,V⟩=U (Z H 0):=q.cell 0;have f9:w6.frozen? ⟨j,0,V⟩=N:=q.frozen 0;have u:=q.setCell 0 (Z H (a:Int));have m0:=(D5.trans d6).setCell ⟨j,0,V⟩ (Z H (a:Int));have k3:=u.aA.cell 3;clear B q D5 d6
  cases E:i.dt with
  | false=>
   have HE:=ae (oM hp E);rw [E] at k3 u;clear hp E
   go_wp2_with fail
   generalize w6.setCell ⟨j,0,V⟩ (Z H (a:Int))=w7 at *;have i0:ag w7 (aB 176 5 z g c.rd d.err d.W d.D*(aB 176 5 y f c.rd i.b.err i.b.W i.b.D*(ak y*(c.RI i.b.s*(pt j (Y #[Z H (a:Int)] 3 (0,0))*(pt o (Y #[Z H 0] 28 (0,0))*(pt v (Y #[X (U ⟨g,0,V⟩),Z H (n:Int)] 72 (0,0))*(pt k (Y #[X (U ⟨f,0,V⟩),Z H (n:Int),C,J N] 149 (0,0))*(cF i.bits C*(G*F)))))))))):=u.to (by unfold cI;ac_rfl);have P:=i0.fO (dZ b0);have s0:=P.bZ.cell 0;have k0:=P.eK.cell 0;have F0:=ae (iO w7.drew y g f c.rd c.rd i.b.err d.err i.b.W i.b.D d.W d.D _ P.drew ⟨_,_,rfl⟩);clear i0 P u
   go_region_held3 (fun A=>A.cell? ⟨v,0,V⟩=U (X (U ⟨g,0,V⟩))/\A.cell? ⟨k,0,V⟩=U (X (U ⟨f,0,V⟩)))
    (first|exact ⟨s0,k0⟩|exact l0|go_keep)
    (first|(go_at_call 144;refine (F0.out).mono ?_;rintro e x ⟨t,e0,rfl,B,S⟩;have l0:x.cell? ⟨v,0,V⟩=U (X (U ⟨g,0,V⟩))/\x.cell? ⟨k,0,V⟩=U (X (U ⟨f,0,V⟩)):=⟨B.bZ.cell 0,B.eK.cell 0⟩))
   all_goals
    rename_i R0;have q:ag x (pt j (Y #[Z H (a:Int)] 3 (0,0))*(pt o (Y #[Z H 0] 28 (0,0))*((cI c t g i.b*(ak t*(G*F)))*(pt v (Y #[X (U ⟨g,0,V⟩),Z H (n:Int)] 72 (0,0))*(pt k (Y #[X (U ⟨f,0,V⟩),Z H (n:Int),C,J N] 149 (0,0))*(aB 176 5 t f c.rd i.b.err i.b.W i.b.D*cF i.bits C)))))):=B.to (by unfold cI;ac_rfl);have c9:=q.cell 0;have f9:x.frozen? ⟨j,0,V⟩=N:=q.frozen 0;have e9:x.cell? ⟨o,0,V⟩=U (Z H 0):=q.ah.cell 0;have g9:x.frozen? ⟨o,0,V⟩=N:=q.ah.frozen 0;have G0:¬ (j=o):=ag.ne q;have c1:¬ (o=j):=fun h=>G0 h.symm;have u:=((q.setCell 0 (Z H (a:Int))).ah.setCell 0 (Z H 0))
    have ca:=u.ah.cell 0;have ce:=u.cell 0;have D9:=(((m0).drew.trans S).setCell ⟨j,0,V⟩ (Z H (a:Int))).setCell ⟨o,0,V⟩ (Z H 0);have hF:ag _ ((cI c t g i.b*(ak t*(G*F)))):=u.right.right.left;have HD:=ae D9;have HF:=ae hF;have Ca:=ae ca;have Ce:=ae ce
    go_wp2_with fail
    exact yg rfl rfl Ca.out Ce.out (HQ.out _ _ (by rw [HE.out];exact ⟨t,_,q0.trans (b0.trans e0),HD.out,rfl,ag.aq.2 ⟨rfl,HF.out.to (by ac_rfl)⟩⟩))
  | true=>
   have g0:=fun st'=>sr (st':=st') hp E;have h0:=fun st' c=>uL (st':=st') (c:=c) hp E;have g0:=ae g0;have h0:=ae h0;rw [E] at k3 u;have k2:=u.aA.cell 2;have H0:=zJ u.dV
   have d0:ag (w6.setCell ⟨j,0,V⟩ (Z H (a:Int))) (bH (⟨c,n,k,f⟩:Wk σ) C y i*(ak y*(pt j (Y #[Z H (a:Int)] 3 (0,0))*(pt o (Y #[Z H 0] 28 (0,0))*(pt v (Y #[X (U ⟨g,0,V⟩),Z H (n:Int)] 72 (0,0))*(cF i.bits C*(aB 176 5 z g c.rd d.err d.W d.D*(G*F)))))))):=
    u.to (by unfold bH Wk.cells;rw [E];ac_rfl)
   have u0:=kz (⟨c,n,k,f⟩:Wk σ) _ C y i 0 C (i.bits.getD []) _ d0 H0
   obtain ⟨va,vl,vc,rfl⟩:∃ a l c,C = R a l c:=by
    obtain ⟨a,c,e⟩:=H0.shape;exact ⟨_,_,_,e⟩
   have S0:∀ st' x0,bQ 0 (i.bits.getD []) i=(x0,st')->st'.dt=L:=fun st' x0 h=>by
    unfold bQ at h
    split at h
    .simp only [Prod.mk.injEq] at h;rw [<- h.2];exact E
    .simp only [Prod.mk.injEq] at h;rw [<- h.2];exact E
   obtain ⟨⟨r2,r⟩,f0⟩:∃ p,bQ 0 (i.bits.getD []) i=p:=⟨_,rfl⟩
   rw [f0] at u0;have T0:=S0 _ _ f0;have Y0:=ae T0;clear hp E d0 H0 S0 T0
   cases r2 with
   | bad cN=>
    have HE:=ae (h0.out _ _ f0);clear f0 g0 h0
    go_wp2_with fail
    (with_reducible refine u0.mono ?_)
    rintro e x ⟨t,e0,S,rfl,n0⟩
    have o0:ag x (c.RI r.b.s*(aB 176 5 z g c.rd d.err d.W d.D*(pt j (Y #[Z H (a:Int)] 3 (0,0))*(pt o (Y #[Z H 0] 28 (0,0))*(ak t*(G*F)))))):=
     (n0.to (by unfold bH cI;ac_rfl:_=(pt k (Y ((⟨c,n,k,f⟩:Wk σ).cells (R va vl vc) r.dt) 149 (0,0))*(aB 176 5 t f c.rd r.b.err r.b.W r.b.D*(pt v (Y #[X (U ⟨g,0,V⟩),Z H (n:Int)] 72 (0,0))*cF i.bits (R va vl vc))))*(c.RI r.b.s*(aB 176 5 z g c.rd d.err d.W d.D*(pt j (Y #[Z H (a:Int)] 3 (0,0))*(pt o (Y #[Z H 0] 28 (0,0))*(ak t*(G*F)))))))).right
    have p0:=nT (b0.trans e0) o0;have a1:ag x (pt j (Y #[Z H (a:Int)] 3 (0,0))*(pt o (Y #[Z H 0] 28 (0,0))*(cI c t g { d with s:=r.b.s }*(ak t*(G*F))))):=p0.to (by ac_rfl)
    go_wp2_with fail
    exact yC rfl rfl a1 fun A d0 D0=>HQ.out _ _ (by rw [HE.out];exact ⟨t,q0.trans (b0.trans e0),(m0.trans S).trans D0,rfl,d0⟩)
   | ok h1=>
    have HE:=ae (g0.out _ f0);clear f0 g0 h0
    go_wp2_with fail
    (with_reducible refine u0.mono ?_)
    rintro e w7 ⟨t,v8,e0,S,rfl,n0⟩;obtain ⟨rfl,o0⟩:=ag.aq.1 n0;have p0:ag w7 (pt j (Y #[Z H (a:Int)] 3 (0,0))*(pt o (Y #[Z H 0] 28 (0,0))*(pt v (Y #[X (U ⟨g,0,V⟩),Z H (n:Int)] 72 (0,0))*(pt k (Y #[X (U ⟨f,0,V⟩),Z H (n:Int),(R va vl vc),J L] 149 (0,0))*(cI c t f r.b*(cF i.bits (R va vl vc)*(ak t*(aB 176 5 z g c.rd d.err d.W d.D*(G*F))))))))):=o0.to (by unfold bH Wk.cells;rw [Y0.out];ac_rfl);have W0:=m0.trans S;have N0:=b0.trans e0;clear u0 n0 o0 m0 S u k2 k3
    go_wp2_with fail
    have i0:ag w7 (aB 176 5 z g c.rd d.err d.W d.D*(aB 176 5 t f c.rd r.b.err r.b.W r.b.D*(ak t*(c.RI r.b.s*(pt j (Y #[Z H (a:Int)] 3 (0,0))*(pt o (Y #[Z H 0] 28 (0,0))*(pt v (Y #[X (U ⟨g,0,V⟩),Z H (n:Int)] 72 (0,0))*(pt k (Y #[X (U ⟨f,0,V⟩),Z H (n:Int),(R va vl vc),J L] 149 (0,0))*(cF i.bits (R va vl vc)*(G*F)))))))))):=p0.to (by unfold cI;ac_rfl);have P:=i0.fO (dZ N0);have s0:=P.bZ.cell 0;have k0:=P.eK.cell 0;have F0:=ae (iO w7.drew t g f c.rd c.rd r.b.err d.err r.b.W r.b.D d.W d.D _ P.drew ⟨_,_,rfl⟩);clear i0 P p0
    go_region_held3 (fun A=>A.cell? ⟨v,0,V⟩=U (X (U ⟨g,0,V⟩))/\A.cell? ⟨k,0,V⟩=U (X (U ⟨f,0,V⟩)))
     (first|exact ⟨s0,k0⟩|exact l0|go_keep)
     (first|(go_at_call 144;refine (F0.out).mono ?_;rintro e x ⟨S5,b1,rfl,B,S⟩;have l0:x.cell? ⟨v,0,V⟩=U (X (U ⟨g,0,V⟩))/\x.cell? ⟨k,0,V⟩=U (X (U ⟨f,0,V⟩)):=⟨B.bZ.cell 0,B.eK.cell 0⟩))
    all_goals
     rename_i R0;have q:ag x (pt j (Y #[Z H (a:Int)] 3 (0,0))*(pt o (Y #[Z H 0] 28 (0,0))*((cI c S5 g r.b*(ak S5*(G*F)))*(pt v (Y #[X (U ⟨g,0,V⟩),Z H (n:Int)] 72 (0,0))*(pt k (Y #[X (U ⟨f,0,V⟩),Z H (n:Int),(R va vl vc),J L] 149 (0,0))*(aB 176 5 S5 f c.rd r.b.err r.b.W r.b.D*cF i.bits (R va vl vc))))))):=B.to (by unfold cI;ac_rfl);have c9:x.cell? ⟨j,0,V⟩=U (Z H (a:Int)):=q.cell 0;have f9:x.frozen? ⟨j,0,V⟩=N:=q.frozen 0;have e9:x.cell? ⟨o,0,V⟩=U (Z H 0):=q.ah.cell 0;have g9:x.frozen? ⟨o,0,V⟩=N:=q.ah.frozen 0;have G0:¬ (j=o):=ag.ne q;have c1:¬ (o=j):=fun h=>G0 h.symm;have u:=((q.setCell 0 (Z H (a:Int))).ah.setCell 0 (Z H 0))
     have ca:=u.ah.cell 0;have ce:=u.cell 0;have D9:=(((W0).drew.trans S).setCell ⟨j,0,V⟩ (Z H (a:Int))).setCell ⟨o,0,V⟩ (Z H 0);have hF:ag _ ((cI c S5 g r.b*(ak S5*(G*F)))):=u.right.right.left;have HD:=ae D9;have HF:=ae hF;have Ca:=ae ca;have Ce:=ae ce
     go_wp2_with fail
     exact yg rfl rfl Ca.out Ce.out (HQ.out _ _ (by rw [HE.out];exact ⟨S5,_,q0.trans (N0.trans b1),HD.out,rfl,ag.aq.2 ⟨rfl,HF.out.to (by ac_rfl)⟩⟩))
end
section
variable {σ α:Type}
theorem Nc (w:O) (g i:Addr) :
    CallsD Q 217 #[X (U g),X (U i)] .returning w fun e u j=>e = K (I #[])/\u = .returning/\w=j:=by
  refine callsD_of_wpS func217 rfl fun d l f=>?_;apply wpS_seq;refine wpS_of_wp ?_
  simp only [ntmps217,P2,M2,R2,T2,W2,X2,
     Y2,Z2,B3,G3,J3]
  go_wp2
  apply wpS_seq;apply wpS_region;simp [wpOpsS,go_sem,recoverD,f,Exit.thenS];refine wpS_of_wp ?_
  go_wp2
  cases d
  simp_all [bodyPostS,results,Tryz.results217]
theorem Mm (w:O) (d f:Addr) (c y:Int) (x:M) (g:List PanicEntry) (t:w.cell? d=U x) (B:x = R V 0 0\/∃ a n c,x = R a n c) (v:w.cell? f=U (Z H y)) (q:w.frozen? d=N) (r:w.frozen? f=N) (z:d≠f) :
    CallsD Q 217 #[X (U d),X (U f)] (.panicking ({ v:=.iface 220 (Z H c),recovered:=N } :: g)) w fun e u j=>
      e = K (I #[])/\u = .panicking ({ v:=.iface 220 (Z H c),recovered:=L } :: g)/\j=(w.setCell d (R V 0 0)).setCell f (Z H c):=by
  refine callsD_of_wpS func217 rfl fun o l i=>?_;apply wpS_seq;refine wpS_of_wp ?_
  simp only [ntmps217,P2,M2,R2,T2,W2,X2,
     Y2,Z2,B3,G3,J3]
  go_wp2
  apply wpS_seq;apply wpS_region;simp [wpOpsS,go_sem,recoverD,i,Exit.thenS];refine wpS_of_wp ?_;have A:=jY (Z H c)
  go_wp2
  exact ⟨rfl,_,rfl,_,results_none rfl _ _ _,rfl,rfl,rfl⟩
theorem rE {w:O} {d:Array M} {a b:Nat} (f:d[4]?=U (az a)) (g:d[5]?=U (az b)) (i:w.cell? ⟨a,0,V⟩=U v) (j:w.cell? ⟨b,0,V⟩=U e) :
  (results Tryz.f163 d).run Q w = .ok (I #[v,e]) w:=by
 simp [results,Tryz.results163,f,g,go_sem,i,j]
theorem yY {w:O} {i:Array M} {d f:Nat} {z c:Int} {P:ai} {l:Ending->O->Prop} (o:i[4]?=U (az d)) (q:i[5]?=U (az f))
  (h:ag w (pt d (Y #[v] 22 (0,0))*(pt f (Y #[Z H z] 28 (0,0))*P))) (t:v = R V 0 0\/∃ a n c,v = R a n c) (hR:∀ j,ag j P->aj w j->l (K (I #[R V 0 0,Z H c])) j) :
  bodyPostD Q Tryz.f163 l (Exit.panic (Ks c)) { tmps:=i,defers:=[{ target:=.fn (.func 217) #[X (U ⟨d,0,V⟩),X (U ⟨f,0,V⟩)],args:=#[] }] } w:=by
 have r:=ag.ne h;refine leaves_cons (f:=217) (args:=#[X (U ⟨d,0,V⟩),X (U ⟨f,0,V⟩)]) (by simp) (by simp [go_sem]) ?_;refine (Mm w ⟨d,0,V⟩ ⟨f,0,V⟩ c z v [] (h.cell 0) t (h.ah.cell 0) (h.frozen 0) (h.ah.frozen 0) (by intro h;injection h with h;exact r h)).mono ?_;rintro e u x ⟨rfl,rfl,rfl⟩;have g:=((h.setCell 0 (R V 0 0)).ah.setCell 0 (Z H c))
 exact ⟨_,rE o q (g.ah.cell 0) (g.cell 0),hR _ g.right.right (((aj.refl w).setCell _ _).setCell _ _)⟩
theorem yq {w:O} {g:Array M} {d f:Nat} {i:Ending->O->Prop} (j:g[4]?=U (az d)) (l:g[5]?=U (az f))
  (o:w.cell? ⟨d,0,V⟩=U v) (q:w.cell? ⟨f,0,V⟩=U e) (hR:i (K (I #[v,e])) w) :
  bodyPostD Q Tryz.f163 i Exit.ret { tmps:=g,defers:=[{ target:=.fn (.func 217) #[X (U ⟨d,0,V⟩),X (U ⟨f,0,V⟩)],args:=#[] }] } w:=by
 refine leaves_cons (f:=217) (args:=#[X (U ⟨d,0,V⟩),X (U ⟨f,0,V⟩)]) (by simp) (by simp [go_sem]) ?_;refine (Nc w ⟨d,0,V⟩ ⟨f,0,V⟩).mono ?_;rintro r u t ⟨rfl,rfl,rfl⟩;exact ⟨_,rE j l o q,hR⟩
theorem ve (c:Cx σ) (hc:c.Ok) (n:Nat) (f1:4<=n) (h1:n<=3840) (jf:FuncId) (V0:Array M) (G:ai) (m:WM σ (List UInt8))
  (jX:∀ (args:Array M) (w:O),(callFunc jf args).run Q w = .ok (.enter jf args) w) (hj:DE c n jf V0 gw G m)
  (g:Nat) (d:gZ σ) (w:O) (e0:Hp) (F:ai) (h:ag w (cI c e0 g d*(ak e0*(G*F)))) (T0:Ending->O->Prop)
  (hQ:∀ e E,Cf c g (R V 0 0) gw e0 (G*F) w (ed m d) e E->T0 e E) :
  Calls Q 163 #[fV g n,.func (.func jf) #[] V0] w T0:=by
 have HQ:=ae hQ;clear hQ;have g1:¬ ((n:Int)<4):=by omega
 have i1:¬ ((n:Int) > 3840):=by omega
 have Hj:=ae hj;unfold fV
 go_enter_defers func163,ntmps163
 have H3:=((h.alloc (Y #[X (U ⟨g,0,V⟩),Z H (n:Int)] 72 (0,0))).alloc (Y #[R V 0 0] 22 (0,0))).alloc (Y #[Z H 0] 28 (0,0));have D3:=(((aj.refl w).alloc (Y #[X (U ⟨g,0,V⟩),Z H (n:Int)] 72 (0,0))).alloc (Y #[R V 0 0] 22 (0,0))).alloc (Y #[Z H 0] 28 (0,0));simp only [L3] at H3
 go_wp2_with fail
 generalize ((w.alloc (Y #[X (U ⟨g,0,V⟩),Z H (n:Int)] 72 (0,0))).alloc (Y #[R V 0 0] 22 (0,0))).alloc (Y #[Z H 0] 28 (0,0))=w3 at H3 D3 ⊢;clear h;generalize w.heap.size+1+1=t at *;generalize w.heap.size+1=o at *;generalize w.heap.size=v at *;have s0:=H3.au.cell 0;have s1:w3.cell? ⟨v,1,V⟩=U (Z H (n:Int)):=H3.au.cell 1;have u:ag w3 (aB 176 5 e0 g c.rd d.err d.W d.D*(ak e0*(c.RI d.s*(pt t (Y #[Z H 0] 28 (0,0))*(pt o (Y #[R V 0 0] 22 (0,0))*(pt v (Y #[X (U ⟨g,0,V⟩),Z H (n:Int)] 72 (0,0))*(G*F))))))):=H3.to (by unfold cI;ac_rfl);have Z0:=oG w3.drew e0 g c.rd d.err d.W d.D _ u.drew ⟨_,_,rfl⟩;have S0:=ae Z0;clear Z0
 go_region_held3 (fun E=>E.cell? ⟨v,0,V⟩=U (X (U ⟨g,0,V⟩))/\E.cell? ⟨v,1,V⟩=U (Z H (n:Int)))
  (first|exact ⟨s0,s1⟩|exact i0|go_keep)
  (first|(go_at_call 142;refine (S0.out).mono ?_;rintro e w4 ⟨C,f,u0,rfl,h4,d4⟩;have i0:w4.cell? ⟨v,0,V⟩=U (X (U ⟨g,0,V⟩))/\w4.cell? ⟨v,1,V⟩=U (Z H (n:Int)):=⟨h4.bZ.cell 0,h4.bZ.cell 1⟩))
 have D5:=(D3.drew.trans d4).alloc (Y #[X (U ⟨f,0,V⟩),Z H (n:Int),R V 0 0,J N] 149 (0,0));have H5:=h4.alloc (Y #[X (U ⟨f,0,V⟩),Z H (n:Int),R V 0 0,J N] 149 (0,0))
 have R0:ag (w4.alloc (Y #[X (U ⟨f,0,V⟩),Z H (n:Int),R V 0 0,J N] 149 (0,0))) (aG (⟨c,n,w4.heap.size,f⟩:Wk σ) C ⟨d,V,N⟩*(ak C*(G*(aB 176 5 C g c.rd d.err d.W d.D*(pt t (Y #[Z H 0] 28 (0,0))*(pt o (Y #[R V 0 0] 22 (0,0))*(pt v (Y #[X (U ⟨g,0,V⟩),Z H (n:Int)] 72 (0,0))*F))))))):=
  uH (H5.to (by ac_rfl))
 have x0:=Hj.out ⟨c,n,w4.heap.size,f⟩ _ C ⟨d,V,N⟩ _ rfl rfl R0;rename_i H0;clear s0 s1 u S0 i0 H0 D3 d4 h4 H5 R0 Hj hj H3;generalize w4.heap.size=k at *;obtain ⟨⟨F0,i⟩,hp⟩:∃ p,m ⟨d,V,N⟩=p:=⟨_,rfl⟩
 rw [hp] at x0
 cases F0 with
 | bad cN=>
  have HE:=ae (mj hp);clear hp
  go_wp2_with fail
  (with_reducible refine x0.mono ?_)
  rintro e w6 ⟨B,d0,d6,rfl,h6⟩;have h7:=uT h6
  have P:ag w6 (c.RI i.b.s*(aB 176 5 C g c.rd d.err d.W d.D*(pt t (Y #[Z H 0] 28 (0,0))*(pt o (Y #[R V 0 0] 22 (0,0))*(ak B*(G*F)))))):=
   (h7.to (by ac_rfl:_=pt v (Y #[X (U ⟨g,0,V⟩),Z H (n:Int)] 72 (0,0))*(c.RI i.b.s*(aB 176 5 C g c.rd d.err d.W d.D*(pt t (Y #[Z H 0] 28 (0,0))*(pt o (Y #[R V 0 0] 22 (0,0))*(ak B*(G*F)))))))).right
  have u:=nT d0 P;have z:ag w6 (pt o (Y #[R V 0 0] 22 (0,0))*(pt t (Y #[Z H 0] 28 (0,0))*(cI c B g { d with s:=i.b.s }*(ak B*(G*F))))):=u.to (by ac_rfl)
  go_wp2_with fail
  exact yY rfl rfl z (.inl rfl) fun E f0 G0=>HQ.out _ _ (by rw [HE.out];exact ⟨B,u0.trans d0,(D5.trans d6).trans G0,rfl,f0⟩)
 | ok a=>
  go_wp2_with fail
  (with_reducible refine x0.mono ?_)
  rintro e w6 ⟨B,v6,d0,d6,rfl,h6⟩;unfold gw at h6;obtain ⟨j,q,rfl⟩:=aF h6;generalize a.length=r at h6 ⊢;have h7:ag w6 (aG (⟨c,n,k,f⟩:Wk σ) B i*(ak B*((bs 5 (R j r q) a*G)*(aB 176 5 C g c.rd d.err d.W d.D*(pt t (Y #[Z H 0] 28 (0,0))*(pt o (Y #[R V 0 0] 22 (0,0))*(pt v (Y #[X (U ⟨g,0,V⟩),Z H (n:Int)] 72 (0,0))*F))))))):=h6.to (by ac_rfl);obtain ⟨S,P⟩:=ag.fG h7;clear x0 h6 h7;have u:ag w6 (pt o (Y #[R V 0 0] 22 (0,0))*(pt t (Y #[Z H 0] 28 (0,0))*(pt v (Y #[X (U ⟨g,0,V⟩),Z H (n:Int)] 72 (0,0))*(pt k (Y #[X (U ⟨f,0,V⟩),Z H (n:Int),S,J i.dt] 149 (0,0))*(cI c B f i.b*(cF i.bits S*(ak B*(aB 176 5 C g c.rd d.err d.W d.D*((bs 5 (R j r q) a*G)*F))))))))):=P.to (by unfold bH Wk.cells;ac_rfl);have c9:w6.cell? ⟨o,0,V⟩=U (R V 0 0):=u.cell 0;have f9:w6.frozen? ⟨o,0,V⟩=N:=u.frozen 0;have z:=u.setCell 0 (R j r q);have o0:=(D5.trans d6).setCell ⟨o,0,V⟩ (R j r q);have k3:=z.aA.cell 3;clear P u D5 d6
  cases b0:i.dt with
  | false=>
   have HE:=ae (oM hp b0);rw [b0] at k3 z;clear hp b0
   go_wp2_with fail
   generalize w6.setCell ⟨o,0,V⟩ (R j r q)=w7 at *;have n0:ag w7 (aB 176 5 C g c.rd d.err d.W d.D*(aB 176 5 B f c.rd i.b.err i.b.W i.b.D*(ak B*(c.RI i.b.s*(pt o (Y #[R j r q] 22 (0,0))*(pt t (Y #[Z H 0] 28 (0,0))*(pt v (Y #[X (U ⟨g,0,V⟩),Z H (n:Int)] 72 (0,0))*(pt k (Y #[X (U ⟨f,0,V⟩),Z H (n:Int),S,J N] 149 (0,0))*(cF i.bits S*((bs 5 (R j r q) a*G)*F)))))))))):=z.to (by unfold cI;ac_rfl);have c0:=n0.fO (dZ d0);have s0:=c0.bZ.cell 0;have k0:=c0.eK.cell 0;have K0:=ae (iO w7.drew B g f c.rd c.rd i.b.err d.err i.b.W i.b.D d.W d.D _ c0.drew ⟨_,_,rfl⟩);clear n0 c0 z
   go_region_held3 (fun E=>E.cell? ⟨v,0,V⟩=U (X (U ⟨g,0,V⟩))/\E.cell? ⟨k,0,V⟩=U (X (U ⟨f,0,V⟩)))
    (first|exact ⟨s0,k0⟩|exact i0|go_keep)
    (first|(go_at_call 144;refine (K0.out).mono ?_;rintro e A ⟨y,g0,rfl,P,d8⟩;have i0:A.cell? ⟨v,0,V⟩=U (X (U ⟨g,0,V⟩))/\A.cell? ⟨k,0,V⟩=U (X (U ⟨f,0,V⟩)):=⟨P.bZ.cell 0,P.eK.cell 0⟩))
   all_goals
    rename_i H0;have u:ag A (pt o (Y #[R j r q] 22 (0,0))*(pt t (Y #[Z H 0] 28 (0,0))*((cI c y g i.b*(ak y*((bs 5 (R j r q) a*G)*F)))*(pt v (Y #[X (U ⟨g,0,V⟩),Z H (n:Int)] 72 (0,0))*(pt k (Y #[X (U ⟨f,0,V⟩),Z H (n:Int),S,J N] 149 (0,0))*(aB 176 5 y f c.rd i.b.err i.b.W i.b.D*cF i.bits S)))))):=P.to (by unfold cI;ac_rfl);have c9:A.cell? ⟨o,0,V⟩=U (R j r q):=u.cell 0;have f9:A.frozen? ⟨o,0,V⟩=N:=u.frozen 0;have e9:A.cell? ⟨t,0,V⟩=U (Z H 0):=u.ah.cell 0;have g9:A.frozen? ⟨t,0,V⟩=N:=u.ah.frozen 0;have L0:¬ (o=t):=ag.ne u;have e1:¬ (t=o):=fun h=>L0 h.symm;have z:=((u.setCell 0 (R j r q)).ah.setCell 0 (Z H 0))
    have ca:=z.ah.cell 0;have ce:=z.cell 0;have D9:=(((o0).drew.trans d8).setCell ⟨o,0,V⟩ (R j r q)).setCell ⟨t,0,V⟩ (Z H 0);have hF:=z.right.right.left;have HD:=ae D9;have HF:=ae hF;have Ca:=ae ca;have Ce:=ae ce
    go_wp2_with fail
    exact yq rfl rfl Ca.out Ce.out (HQ.out _ _ (by rw [HE.out];exact ⟨y,_,u0.trans (d0.trans g0),HD.out,rfl,HF.out.to (by unfold gw;ac_rfl)⟩))
  | true=>
   have l0:=fun st'=>sr (st':=st') hp b0;have m0:=fun st' c=>uL (st':=st') (c:=c) hp b0;have l0:=ae l0;have m0:=ae m0;rw [b0] at k3 z;have k2:=z.aA.cell 2;have N0:=zJ z.dV
   have f0:ag (w6.setCell ⟨o,0,V⟩ (R j r q)) (bH (⟨c,n,k,f⟩:Wk σ) S B i*(ak B*(pt o (Y #[R j r q] 22 (0,0))*(pt t (Y #[Z H 0] 28 (0,0))*(pt v (Y #[X (U ⟨g,0,V⟩),Z H (n:Int)] 72 (0,0))*(cF i.bits S*(aB 176 5 C g c.rd d.err d.W d.D*((bs 5 (R j r q) a*G)*F)))))))):=
    z.to (by unfold bH Wk.cells;rw [b0];ac_rfl)
   have D0:=kz (⟨c,n,k,f⟩:Wk σ) _ S B i 0 S (i.bits.getD []) _ f0 N0
   obtain ⟨va,vl,vc,rfl⟩:∃ a l c,S = R a l c:=by
    obtain ⟨a,c,e⟩:=N0.shape;exact ⟨_,_,_,e⟩
   have X0:∀ st' F0,bQ 0 (i.bits.getD []) i=(F0,st')->st'.dt=L:=fun st' F0 h=>by
    unfold bQ at h
    split at h
    .simp only [Prod.mk.injEq] at h;rw [<- h.2];exact b0
    .simp only [Prod.mk.injEq] at h;rw [<- h.2];exact b0
   obtain ⟨⟨r2,x⟩,h0⟩:∃ p,bQ 0 (i.bits.getD []) i=p:=⟨_,rfl⟩
   rw [h0] at D0;have Y0:=X0 _ _ h0;have b1:=ae Y0;clear hp b0 f0 N0 X0 Y0
   cases r2 with
   | bad cN=>
    have HE:=ae (m0.out _ _ h0);clear h0 l0 m0
    go_wp2_with fail
    (with_reducible refine D0.mono ?_)
    rintro e A ⟨y,g0,d8,rfl,p0⟩
    have q0:ag A (c.RI x.b.s*(aB 176 5 C g c.rd d.err d.W d.D*(pt o (Y #[R j r q] 22 (0,0))*(pt t (Y #[Z H 0] 28 (0,0))*(ak y*((bs 5 (R j r q) a*G)*F)))))):=
     (p0.to (by unfold bH cI;ac_rfl:_=(pt k (Y ((⟨c,n,k,f⟩:Wk σ).cells (R va vl vc) x.dt) 149 (0,0))*(aB 176 5 y f c.rd x.b.err x.b.W x.b.D*(pt v (Y #[X (U ⟨g,0,V⟩),Z H (n:Int)] 72 (0,0))*cF i.bits (R va vl vc))))*(c.RI x.b.s*(aB 176 5 C g c.rd d.err d.W d.D*(pt o (Y #[R j r q] 22 (0,0))*(pt t (Y #[Z H 0] 28 (0,0))*(ak y*((bs 5 (R j r q) a*G)*F)))))))).right
    have r0:=nT (d0.trans g0) q0;have c1:ag A (pt o (Y #[R j r q] 22 (0,0))*(pt t (Y #[Z H 0] 28 (0,0))*(cI c y g { d with s:=x.b.s }*(ak y*((bs 5 (R j r q) a*G)*F))))):=r0.to (by ac_rfl)
    go_wp2_with fail
    exact yY rfl rfl c1 (.inr ⟨_,_,_,rfl⟩) fun E f0 G0=>HQ.out _ _ (by rw [HE.out];exact ⟨y,u0.trans (d0.trans g0),(o0.trans d8).trans G0,rfl,(f0.to (by ac_rfl:_=bs 5 (R j r q) a*(cI c y g { d with s:=x.b.s }*(ak y*(G*F))))).right⟩)
   | ok j1=>
    have HE:=ae (l0.out _ h0);clear h0 l0 m0
    go_wp2_with fail
    (with_reducible refine D0.mono ?_)
    rintro e w7 ⟨y,v8,g0,d8,rfl,p0⟩;obtain ⟨rfl,q0⟩:=ag.aq.1 p0;have r0:ag w7 (pt o (Y #[R j r q] 22 (0,0))*(pt t (Y #[Z H 0] 28 (0,0))*(pt v (Y #[X (U ⟨g,0,V⟩),Z H (n:Int)] 72 (0,0))*(pt k (Y #[X (U ⟨f,0,V⟩),Z H (n:Int),(R va vl vc),J L] 149 (0,0))*(cI c y f x.b*(cF i.bits (R va vl vc)*(ak y*(aB 176 5 C g c.rd d.err d.W d.D*((bs 5 (R j r q) a*G)*F))))))))):=q0.to (by unfold bH Wk.cells;rw [b1.out];ac_rfl);have a1:=o0.trans d8;have W0:=d0.trans g0;clear D0 p0 q0 o0 d8 z k2 k3
    go_wp2_with fail
    have n0:ag w7 (aB 176 5 C g c.rd d.err d.W d.D*(aB 176 5 y f c.rd x.b.err x.b.W x.b.D*(ak y*(c.RI x.b.s*(pt o (Y #[R j r q] 22 (0,0))*(pt t (Y #[Z H 0] 28 (0,0))*(pt v (Y #[X (U ⟨g,0,V⟩),Z H (n:Int)] 72 (0,0))*(pt k (Y #[X (U ⟨f,0,V⟩),Z H (n:Int),(R va vl vc),J L] 149 (0,0))*(cF i.bits (R va vl vc)*((bs 5 (R j r q) a*G)*F)))))))))):=r0.to (by unfold cI;ac_rfl);have c0:=n0.fO (dZ W0);have s0:=c0.bZ.cell 0;have k0:=c0.eK.cell 0;have K0:=ae (iO w7.drew y g f c.rd c.rd x.b.err d.err x.b.W x.b.D d.W d.D _ c0.drew ⟨_,_,rfl⟩);clear n0 c0 r0
    go_region_held3 (fun E=>E.cell? ⟨v,0,V⟩=U (X (U ⟨g,0,V⟩))/\E.cell? ⟨k,0,V⟩=U (X (U ⟨f,0,V⟩)))
     (first|exact ⟨s0,k0⟩|exact i0|go_keep)
     (first|(go_at_call 144;refine (K0.out).mono ?_;rintro e A ⟨S5,d1,rfl,P,d8⟩;have i0:A.cell? ⟨v,0,V⟩=U (X (U ⟨g,0,V⟩))/\A.cell? ⟨k,0,V⟩=U (X (U ⟨f,0,V⟩)):=⟨P.bZ.cell 0,P.eK.cell 0⟩))
    all_goals
     rename_i H0;have u:ag A (pt o (Y #[R j r q] 22 (0,0))*(pt t (Y #[Z H 0] 28 (0,0))*((cI c S5 g x.b*(ak S5*((bs 5 (R j r q) a*G)*F)))*(pt v (Y #[X (U ⟨g,0,V⟩),Z H (n:Int)] 72 (0,0))*(pt k (Y #[X (U ⟨f,0,V⟩),Z H (n:Int),(R va vl vc),J L] 149 (0,0))*(aB 176 5 S5 f c.rd x.b.err x.b.W x.b.D*cF i.bits (R va vl vc))))))):=P.to (by unfold cI;ac_rfl);have c9:A.cell? ⟨o,0,V⟩=U (R j r q):=u.cell 0;have f9:A.frozen? ⟨o,0,V⟩=N:=u.frozen 0;have e9:A.cell? ⟨t,0,V⟩=U (Z H 0):=u.ah.cell 0;have g9:A.frozen? ⟨t,0,V⟩=N:=u.ah.frozen 0;have L0:¬ (o=t):=ag.ne u;have e1:¬ (t=o):=fun h=>L0 h.symm;have z:=((u.setCell 0 (R j r q)).ah.setCell 0 (Z H 0))
     have ca:=z.ah.cell 0;have ce:=z.cell 0;have D9:=(((a1).drew.trans d8).setCell ⟨o,0,V⟩ (R j r q)).setCell ⟨t,0,V⟩ (Z H 0);have hF:=z.right.right.left;have HD:=ae D9;have HF:=ae hF;have Ca:=ae ca;have Ce:=ae ce
     go_wp2_with fail
     exact yq rfl rfl Ca.out Ce.out (HQ.out _ _ (by rw [HE.out];exact ⟨S5,_,u0.trans (W0.trans d1),HD.out,rfl,HF.out.to (by unfold gw;ac_rfl)⟩))
end
theorem eh:(prog.info? 202).map (·.size)=U 0:=by kernel_rfl
section
variable {σ α:Type}
theorem NI (w:O) (g:Nat) (i:Addr) :
    CallsD Q 195 #[X (U ⟨g,0,V⟩),X (U i)] .returning w fun e u j=>e = K (I #[])/\u = .returning/\j=w.alloc (Y #[] 202 (0,0)):=by
  refine callsD_of_wpS func195 rfl fun d l f=>?_;apply wpS_seq;refine wpS_of_wp ?_
  simp only [ntmps195,P2,M2,R2,T2,W2,X2,
     Y2,Z2,B3,G3,J3]
  go_wp2
  apply wpS_seq;apply wpS_region;simp [wpOpsS,go_sem,recoverD,f,Exit.thenS];refine wpS_of_wp ?_
  go_wp2
  cases d
  simp_all [bodyPostS,results,Tryz.results195]
theorem KN (w:O) (g d:Nat) (c y:Int) (f:List PanicEntry) (t:w.cell? ⟨d,0,V⟩=U (Z H y)) (r:w.frozen? ⟨d,0,V⟩=N) (x:d<w.heap.size) :
    CallsD Q 195 #[X (U ⟨g,0,V⟩),X (U ⟨d,0,V⟩)] (.panicking ({ v:=.iface 220 (Z H c),recovered:=N } :: f)) w fun e u l=>
      e = K (I #[])/\u = .panicking ({ v:=.iface 220 (Z H c),recovered:=L } :: f)/\l=(w.setCell ⟨d,0,V⟩ (Z H c)).alloc (Y #[] 202 (0,0)):=by
  refine callsD_of_wpS func195 rfl fun q o i=>?_;apply wpS_seq;refine wpS_of_wp ?_
  simp only [ntmps195,P2,M2,R2,T2,W2,X2,
     Y2,Z2,B3,G3,J3]
  go_wp2
  apply wpS_seq;apply wpS_region;simp [wpOpsS,go_sem,recoverD,i,Exit.thenS];refine wpS_of_wp ?_;have z:=jY (Z H c)
  go_wp2_with (first|(refine wpList_load_mid (by exact rfl) 202 (.tmp 2) (by exact rfl) w.heap.size 0 (by exact rfl) [] _ (by exact fun j v h=>by cases h) underlying202 rfl (by exact eh) ?_)|(refine wpList_store_mid (by exact rfl) 202 (.tmp 0) (.tmp 12) (by exact rfl) g 0 #[] (by exact rfl) (by exact rfl) (by exact fun j h=>absurd h (N2 _)) (by exact eh) (by exact rfl) ?_))
  exact ⟨rfl,_,rfl,_,results_none rfl _ _ _,rfl,rfl,rfl⟩
theorem rC {w:O} {d:Array M} {a b:Nat} {F:ai} (e:d[4]?=U (az a)) (f:d[5]?=U (az b)) (g:ag w (pt a (Y #[] 202 (0,0))*F)) (i:w.cell? ⟨b,0,V⟩=U v) :
  (results Tryz.f145 d).run Q w = .ok (I #[.agg #[],v]) w:=by
 have j:=run_loadVar_row (P:=Q) w a 202 202 #[] (0,0) _ g.heap underlying202 rfl eh;simp [results,Tryz.results145,e,f,go_sem,asAddr,j,i]
theorem yd {w:O} {i:Array M} {d f:Nat} {z c:Int} {P:ai} {l:Ending->O->Prop} (o:i[4]?=U (az d)) (q:i[5]?=U (az f))
  (h:ag w (pt d (Y #[] 202 (0,0))*(pt f (Y #[Z H z] 28 (0,0))*P))) (hR:∀ j,ag j P->aj w j->l (K (I #[.agg #[],Z H c])) j) :
  bodyPostD Q Tryz.f145 l (Exit.panic (Ks c)) { tmps:=i,defers:=[{ target:=.fn (.func 195) #[X (U ⟨d,0,V⟩),X (U ⟨f,0,V⟩)],args:=#[] }] } w:=by
 refine leaves_cons (f:=195) (args:=#[X (U ⟨d,0,V⟩),X (U ⟨f,0,V⟩)]) (by simp) (by simp [go_sem]) ?_;refine (KN w d f c z [] (h.ah.cell 0) (h.ah.frozen 0) h.ah.lt).mono ?_;rintro e u r ⟨rfl,rfl,rfl⟩;have g:=((h.ah.setCell 0 (Z H c)).alloc (Y #[] 202 (0,0))).right;exact ⟨_,rC o q g.ah (g.cell 0),hR _ g.right.right (((aj.refl w).setCell _ _).alloc _)⟩
theorem yj {w:O} {i:Array M} {d f:Nat} {z:Int} {P:ai} {l:Ending->O->Prop} (o:i[4]?=U (az d)) (q:i[5]?=U (az f))
  (h:ag w (pt d (Y #[] 202 (0,0))*(pt f (Y #[Z H z] 28 (0,0))*P))) (hR:∀ j,ag j P->aj w j->l (K (I #[.agg #[],Z H z])) j) :
  bodyPostD Q Tryz.f145 l Exit.ret { tmps:=i,defers:=[{ target:=.fn (.func 195) #[X (U ⟨d,0,V⟩),X (U ⟨f,0,V⟩)],args:=#[] }] } w:=by
 refine leaves_cons (f:=195) (args:=#[X (U ⟨d,0,V⟩),X (U ⟨f,0,V⟩)]) (by simp) (by simp [go_sem]) ?_;refine (NI w d ⟨f,0,V⟩).mono ?_;rintro e u r ⟨rfl,rfl,rfl⟩;have g:=(h.alloc (Y #[] 202 (0,0))).right;exact ⟨_,rC o q g (g.ah.cell 0),hR _ g.right.right ((aj.refl w).alloc _)⟩
def OR (a:Unit) (v:M):ai:=fact (v = .agg #[])
theorem L7 (c:Cx σ) (hc:c.Ok) (n:Nat) (h1:4<=n) (j1:n<=3840) (jf:FuncId) (W0:Array M) (G:ai) (m:WM σ Unit)
  (jX:∀ (args:Array M) (w:O),(callFunc jf args).run Q w = .ok (.enter jf args) w) (hj:DE c n jf W0 OR G m)
  (g:Nat) (d:gZ σ) (w:O) (h0:Hp) (F:ai) (h:ag w (cI c h0 g d*(ak h0*(G*F)))) (V0:Ending->O->Prop)
  (hQ:∀ e y,Cf c g (.agg #[]) OR h0 (G*F) w (ed m d) e y->V0 e y) :
  Calls Q 145 #[fV g n,.func (.func jf) #[] W0] w V0:=by
 have HQ:=ae hQ;clear hQ;have g1:=nB Q;have i1:¬ ((n:Int)<4):=by omega
 have k1:¬ ((n:Int) > 3840):=by omega
 have Hj:=ae hj;unfold fV
 go_enter_defers func145,ntmps145
 have H3:=((h.alloc (Y #[X (U ⟨g,0,V⟩),Z H (n:Int)] 72 (0,0))).alloc (Y #[] 202 (0,0))).alloc (Y #[Z H 0] 28 (0,0));have D3:=(((aj.refl w).alloc (Y #[X (U ⟨g,0,V⟩),Z H (n:Int)] 72 (0,0))).alloc (Y #[] 202 (0,0))).alloc (Y #[Z H 0] 28 (0,0));simp only [L3] at H3
 go_wp2_with fail
 generalize ((w.alloc (Y #[X (U ⟨g,0,V⟩),Z H (n:Int)] 72 (0,0))).alloc (Y #[] 202 (0,0))).alloc (Y #[Z H 0] 28 (0,0))=w3 at H3 D3 ⊢;clear h;generalize w.heap.size+1+1=q at *;generalize w.heap.size+1=o at *;generalize w.heap.size=j at *;have s0:w3.cell? ⟨j,0,V⟩=U (X (U ⟨g,0,V⟩)):=H3.au.cell 0;have s1:w3.cell? ⟨j,1,V⟩=U (Z H (n:Int)):=H3.au.cell 1;have x:ag w3 (aB 176 5 h0 g c.rd d.err d.W d.D*(ak h0*(c.RI d.s*(pt q (Y #[Z H 0] 28 (0,0))*(pt o (Y #[] 202 (0,0))*(pt j (Y #[X (U ⟨g,0,V⟩),Z H (n:Int)] 72 (0,0))*(G*F))))))):=H3.to (by unfold cI;ac_rfl);have a1:=oG w3.drew h0 g c.rd d.err d.W d.D _ x.drew ⟨_,_,rfl⟩;have T0:=ae a1;clear a1
 go_region_held3 (fun y=>y.cell? ⟨j,0,V⟩=U (X (U ⟨g,0,V⟩))/\y.cell? ⟨j,1,V⟩=U (Z H (n:Int)))
  (first|exact ⟨s0,s1⟩|exact f0|go_keep)
  (first|(go_at_call 142;refine (T0.out).mono ?_;rintro e w4 ⟨C,f,G0,rfl,h4,d4⟩;have f0:w4.cell? ⟨j,0,V⟩=U (X (U ⟨g,0,V⟩))/\w4.cell? ⟨j,1,V⟩=U (Z H (n:Int)):=⟨h4.bZ.cell 0,h4.bZ.cell 1⟩))
 have D5:=(D3.drew.trans d4).alloc (Y #[X (U ⟨f,0,V⟩),Z H (n:Int),R V 0 0,J N] 149 (0,0));have H5:=h4.alloc (Y #[X (U ⟨f,0,V⟩),Z H (n:Int),R V 0 0,J N] 149 (0,0))
 have S0:ag (w4.alloc (Y #[X (U ⟨f,0,V⟩),Z H (n:Int),R V 0 0,J N] 149 (0,0))) (aG (⟨c,n,w4.heap.size,f⟩:Wk σ) C ⟨d,V,N⟩*(ak C*(G*(aB 176 5 C g c.rd d.err d.W d.D*(pt q (Y #[Z H 0] 28 (0,0))*(pt o (Y #[] 202 (0,0))*(pt j (Y #[X (U ⟨g,0,V⟩),Z H (n:Int)] 72 (0,0))*F))))))):=
  uH (H5.to (by ac_rfl))
 have H0:=Hj.out ⟨c,n,w4.heap.size,f⟩ _ C ⟨d,V,N⟩ _ rfl rfl S0;rename_i p0;clear s0 s1 x T0 f0 p0 D3 d4 h4 H5 S0 Hj hj H3;generalize w4.alloc (Y #[X (U ⟨f,0,V⟩),Z H (n:Int),R V 0 0,J N] 149 (0,0))=w5 at *;generalize w4.heap.size=k at *;obtain ⟨⟨L0,i⟩,hp⟩:∃ p,m ⟨d,V,N⟩=p:=⟨_,rfl⟩
 rw [hp] at H0
 cases L0 with
 | bad cN=>
  have HE:=ae (mj hp);clear hp
  go_wp2_with fail
  (with_reducible refine H0.mono ?_)
  rintro e w6 ⟨z,e0,d6,rfl,h6⟩;have h7:=uT h6
  have A:ag w6 (c.RI i.b.s*(aB 176 5 C g c.rd d.err d.W d.D*(pt q (Y #[Z H 0] 28 (0,0))*(pt o (Y #[] 202 (0,0))*(ak z*(G*F)))))):=
   (h7.to (by ac_rfl:_=pt j (Y #[X (U ⟨g,0,V⟩),Z H (n:Int)] 72 (0,0))*(c.RI i.b.s*(aB 176 5 C g c.rd d.err d.W d.D*(pt q (Y #[Z H 0] 28 (0,0))*(pt o (Y #[] 202 (0,0))*(ak z*(G*F)))))))).right
  have x:=nT e0 A;have u:ag w6 (pt o (Y #[] 202 (0,0))*(pt q (Y #[Z H 0] 28 (0,0))*(cI c z g { d with s:=i.b.s }*(ak z*(G*F))))):=x.to (by ac_rfl)
  go_wp2_with fail
  exact yd rfl rfl u fun y b0 g0=>HQ.out _ _ (by rw [HE.out];exact ⟨z,G0.trans e0,(D5.trans d6).trans g0,rfl,b0⟩)
 | ok a=>
  go_wp2_with fail
  (with_reducible refine H0.mono ?_)
  rintro e w6 ⟨z,v6,e0,d6,rfl,h6⟩;obtain ⟨rfl,h7⟩:=ag.aq.1 h6;obtain ⟨E,A⟩:=ag.fG h7;clear H0 h6 h7;have x:ag w6 (pt o (Y #[] 202 (0,0))*(pt q (Y #[Z H 0] 28 (0,0))*(pt j (Y #[X (U ⟨g,0,V⟩),Z H (n:Int)] 72 (0,0))*(pt k (Y #[X (U ⟨f,0,V⟩),Z H (n:Int),E,J i.dt] 149 (0,0))*(cI c z f i.b*(cF i.bits E*(ak z*(aB 176 5 C g c.rd d.err d.W d.D*(G*F))))))))):=A.to (by unfold bH Wk.cells;ac_rfl);have u:=x;have u0:=D5.trans d6;have k3:w6.cell? ⟨k,3,V⟩=U (J i.dt):=u.aA.cell 3;clear A x D5 d6
  cases c0:i.dt with
  | false=>
   have HE:=ae (oM hp c0);rw [c0] at k3 u;clear hp c0
   go_wp2_with (refine wpList_store_mid (by exact rfl) 202 (.tmp 4) (.tmp 31) (by exact rfl) o 0 #[] (by exact rfl) (by exact rfl) (by exact fun m0 h=>absurd h (N2 _)) (by exact eh) (by exact rfl) ?_)
   have d1:∃ P,P=w6:=⟨_,rfl⟩
   obtain ⟨P,rfl⟩:=d1;have q0:ag P (aB 176 5 C g c.rd d.err d.W d.D*(aB 176 5 z f c.rd i.b.err i.b.W i.b.D*(ak z*(c.RI i.b.s*(pt o (Y #[] 202 (0,0))*(pt q (Y #[Z H 0] 28 (0,0))*(pt j (Y #[X (U ⟨g,0,V⟩),Z H (n:Int)] 72 (0,0))*(pt k (Y #[X (U ⟨f,0,V⟩),Z H (n:Int),E,J N] 149 (0,0))*(cF i.bits E*(G*F)))))))))):=u.to (by unfold cI;ac_rfl);have d0:=q0.fO (dZ e0);have s0:P.cell? ⟨j,0,V⟩=U (X (U ⟨g,0,V⟩)):=d0.bZ.cell 0;have k0:P.cell? ⟨k,0,V⟩=U (X (U ⟨f,0,V⟩)):=d0.eK.cell 0;have r0:=ae (iO P.drew z g f c.rd c.rd i.b.err d.err i.b.W i.b.D d.W d.D _ d0.drew ⟨_,_,rfl⟩);clear q0 d0 u
   go_region_held3 (fun y=>y.cell? ⟨j,0,V⟩=U (X (U ⟨g,0,V⟩))/\y.cell? ⟨k,0,V⟩=U (X (U ⟨f,0,V⟩)))
    (first|exact ⟨s0,k0⟩|exact f0|go_keep)
    (first|(go_at_call 144;refine (r0.out).mono ?_;rintro e B ⟨t,i0,rfl,A,S⟩;have f0:B.cell? ⟨j,0,V⟩=U (X (U ⟨g,0,V⟩))/\B.cell? ⟨k,0,V⟩=U (X (U ⟨f,0,V⟩)):=⟨A.bZ.cell 0,A.eK.cell 0⟩))
   all_goals
    rename_i p0;have x:ag B (pt o (Y #[] 202 (0,0))*(pt q (Y #[Z H 0] 28 (0,0))*((cI c t g i.b*(ak t*(G*F)))*(pt j (Y #[X (U ⟨g,0,V⟩),Z H (n:Int)] 72 (0,0))*(pt k (Y #[X (U ⟨f,0,V⟩),Z H (n:Int),E,J N] 149 (0,0))*(aB 176 5 t f c.rd i.b.err i.b.W i.b.D*cF i.bits E)))))):=A.to (by unfold cI;ac_rfl);have e9:B.cell? ⟨q,0,V⟩=U (Z H 0):=x.ah.cell 0;have g9:B.frozen? ⟨q,0,V⟩=N:=x.ah.frozen 0;have u:=((x.ah.setCell 0 (Z H 0)).ah)
    have D9:=((u0).drew.trans S).setCell ⟨q,0,V⟩ (Z H 0);have HD:=ae D9;have N0:=ae u;clear r0 s0 k0 f0 A x u D9 p0 S
    go_wp2_with (first|(refine wpList_load_mid (by exact rfl) 202 (.tmp 4) (by exact rfl) o 0 (by exact rfl) [] _ (by exact fun m0 v h=>by cases h) underlying202 rfl (by exact eh) ?_)|(refine wpList_store_mid (by exact rfl) 202 (.tmp 4) (.tmp 49) (by exact rfl) o 0 #[] (by exact rfl) (by exact rfl) (by exact fun m0 h=>absurd h (N2 _)) (by exact eh) (by exact rfl) ?_))
    exact yj rfl rfl N0.out fun y b0 g0=>HQ.out _ _ (by rw [HE.out];exact ⟨t,_,G0.trans (e0.trans i0),HD.out.trans g0,rfl,ag.aq.2 ⟨rfl,(b0.left).to (by ac_rfl)⟩⟩)
  | true=>
   have n0:=fun st'=>sr (st':=st') hp c0;have o0:=fun st' c=>uL (st':=st') (c:=c) hp c0;have n0:=ae n0;have o0:=ae o0;rw [c0] at k3 u;have k2:w6.cell? ⟨k,2,V⟩=U E:=u.aA.cell 2;have R0:Rd w6 E (i.bits.getD []):=zJ u.dV
   have b0:ag w6 (bH (⟨c,n,k,f⟩:Wk σ) E z i*(ak z*(pt o (Y #[] 202 (0,0))*(pt q (Y #[Z H 0] 28 (0,0))*(pt j (Y #[X (U ⟨g,0,V⟩),Z H (n:Int)] 72 (0,0))*(cF i.bits E*(aB 176 5 C g c.rd d.err d.W d.D*(G*F)))))))):=
    u.to (by unfold bH Wk.cells;rw [c0];ac_rfl)
   have K0:=kz (⟨c,n,k,f⟩:Wk σ) _ E z i 0 E (i.bits.getD []) _ b0 R0
   obtain ⟨va,vl,vc,rfl⟩:∃ a l c,E = R a l c:=by
    obtain ⟨a,c,e⟩:=R0.shape;exact ⟨_,_,_,e⟩
   have Y0:∀ st' L0,bQ 0 (i.bits.getD []) i=(L0,st')->st'.dt=L:=fun st' L0 h=>by
    unfold bQ at h
    split at h
    .simp only [Prod.mk.injEq] at h;rw [<- h.2];exact c0
    .simp only [Prod.mk.injEq] at h;rw [<- h.2];exact c0
   obtain ⟨⟨r2,r⟩,l0⟩:∃ p,bQ 0 (i.bits.getD []) i=p:=⟨_,rfl⟩
   rw [l0] at K0;have Z0:=Y0 _ _ l0;have c1:=ae Z0;clear hp c0 b0 R0 Y0 Z0
   cases r2 with
   | bad cN=>
    have HE:=ae (o0.out _ _ l0);clear l0 n0 o0
    go_wp2_with (refine wpList_store_mid (by exact rfl) 202 (.tmp 4) (.tmp 31) (by exact rfl) o 0 #[] (by exact rfl) (by exact rfl) (by exact fun m0 h=>absurd h (N2 _)) (by exact eh) (by exact rfl) ?_)
    (with_reducible refine K0.mono ?_)
    rintro e B ⟨t,i0,S,rfl,x0⟩
    have D0:ag B (c.RI r.b.s*(aB 176 5 C g c.rd d.err d.W d.D*(pt o (Y #[] 202 (0,0))*(pt q (Y #[Z H 0] 28 (0,0))*(ak t*(G*F)))))):=
     (x0.to (by unfold bH cI;ac_rfl:_=(pt k (Y ((⟨c,n,k,f⟩:Wk σ).cells (R va vl vc) r.dt) 149 (0,0))*(aB 176 5 t f c.rd r.b.err r.b.W r.b.D*(pt j (Y #[X (U ⟨g,0,V⟩),Z H (n:Int)] 72 (0,0))*cF i.bits (R va vl vc))))*(c.RI r.b.s*(aB 176 5 C g c.rd d.err d.W d.D*(pt o (Y #[] 202 (0,0))*(pt q (Y #[Z H 0] 28 (0,0))*(ak t*(G*F)))))))).right
    have F0:=nT (e0.trans i0) D0;have e1:ag B (pt o (Y #[] 202 (0,0))*(pt q (Y #[Z H 0] 28 (0,0))*(cI c t g { d with s:=r.b.s }*(ak t*(G*F))))):=F0.to (by ac_rfl)
    go_wp2_with fail
    exact yd rfl rfl e1 fun y b0 g0=>HQ.out _ _ (by rw [HE.out];exact ⟨t,G0.trans (e0.trans i0),(u0.trans S).trans g0,rfl,b0⟩)
   | ok l1=>
    have HE:=ae (n0.out _ l0);clear l0 n0 o0
    go_wp2_with (refine wpList_store_mid (by exact rfl) 202 (.tmp 4) (.tmp 31) (by exact rfl) o 0 #[] (by exact rfl) (by exact rfl) (by exact fun m0 h=>absurd h (N2 _)) (by exact eh) (by exact rfl) ?_)
    (with_reducible refine K0.mono ?_)
    rintro e P ⟨t,v8,i0,S,rfl,x0⟩;obtain ⟨rfl,D0⟩:=ag.aq.1 x0;have F0:ag P (pt o (Y #[] 202 (0,0))*(pt q (Y #[Z H 0] 28 (0,0))*(pt j (Y #[X (U ⟨g,0,V⟩),Z H (n:Int)] 72 (0,0))*(pt k (Y #[X (U ⟨f,0,V⟩),Z H (n:Int),(R va vl vc),J L] 149 (0,0))*(cI c t f r.b*(cF i.bits (R va vl vc)*(ak t*(aB 176 5 C g c.rd d.err d.W d.D*(G*F))))))))):=D0.to (by unfold bH Wk.cells;rw [c1.out];ac_rfl);have b1:=u0.trans S;have X0:=e0.trans i0;clear K0 x0 D0 u0 S u k2 k3
    go_wp2_with fail
    have q0:ag P (aB 176 5 C g c.rd d.err d.W d.D*(aB 176 5 t f c.rd r.b.err r.b.W r.b.D*(ak t*(c.RI r.b.s*(pt o (Y #[] 202 (0,0))*(pt q (Y #[Z H 0] 28 (0,0))*(pt j (Y #[X (U ⟨g,0,V⟩),Z H (n:Int)] 72 (0,0))*(pt k (Y #[X (U ⟨f,0,V⟩),Z H (n:Int),(R va vl vc),J L] 149 (0,0))*(cF i.bits (R va vl vc)*(G*F)))))))))):=F0.to (by unfold cI;ac_rfl);have d0:=q0.fO (dZ X0);have s0:P.cell? ⟨j,0,V⟩=U (X (U ⟨g,0,V⟩)):=d0.bZ.cell 0;have k0:P.cell? ⟨k,0,V⟩=U (X (U ⟨f,0,V⟩)):=d0.eK.cell 0;have r0:=ae (iO P.drew t g f c.rd c.rd r.b.err d.err r.b.W r.b.D d.W d.D _ d0.drew ⟨_,_,rfl⟩);clear q0 d0 F0
    go_region_held3 (fun y=>y.cell? ⟨j,0,V⟩=U (X (U ⟨g,0,V⟩))/\y.cell? ⟨k,0,V⟩=U (X (U ⟨f,0,V⟩)))
     (first|exact ⟨s0,k0⟩|exact f0|go_keep)
     (first|(go_at_call 144;refine (r0.out).mono ?_;rintro e B ⟨S5,f1,rfl,A,S⟩;have f0:B.cell? ⟨j,0,V⟩=U (X (U ⟨g,0,V⟩))/\B.cell? ⟨k,0,V⟩=U (X (U ⟨f,0,V⟩)):=⟨A.bZ.cell 0,A.eK.cell 0⟩))
    all_goals
     rename_i p0;have x:ag B (pt o (Y #[] 202 (0,0))*(pt q (Y #[Z H 0] 28 (0,0))*((cI c S5 g r.b*(ak S5*(G*F)))*(pt j (Y #[X (U ⟨g,0,V⟩),Z H (n:Int)] 72 (0,0))*(pt k (Y #[X (U ⟨f,0,V⟩),Z H (n:Int),(R va vl vc),J L] 149 (0,0))*(aB 176 5 S5 f c.rd r.b.err r.b.W r.b.D*cF i.bits (R va vl vc))))))):=A.to (by unfold cI;ac_rfl);have e9:B.cell? ⟨q,0,V⟩=U (Z H 0):=x.ah.cell 0;have g9:B.frozen? ⟨q,0,V⟩=N:=x.ah.frozen 0;have u:=((x.ah.setCell 0 (Z H 0)).ah)
     have D9:=((b1).drew.trans S).setCell ⟨q,0,V⟩ (Z H 0);have HD:=ae D9;have N0:=ae u;clear r0 s0 k0 f0 A x u D9 p0 S
     go_wp2_with (first|(refine wpList_load_mid (by exact rfl) 202 (.tmp 4) (by exact rfl) o 0 (by exact rfl) [] _ (by exact fun m0 v h=>by cases h) underlying202 rfl (by exact eh) ?_)|(refine wpList_store_mid (by exact rfl) 202 (.tmp 4) (.tmp 49) (by exact rfl) o 0 #[] (by exact rfl) (by exact rfl) (by exact fun m0 h=>absurd h (N2 _)) (by exact eh) (by exact rfl) ?_))
     exact yj rfl rfl N0.out fun y b0 g0=>HQ.out _ _ (by rw [HE.out];exact ⟨S5,_,G0.trans (X0.trans f1),HD.out.trans g0,rfl,ag.aq.2 ⟨rfl,(b0.left).to (by ac_rfl)⟩⟩)
end
section
variable {σ α:Type}
theorem MG (w:O) (g:Nat) (i:Addr) :
    CallsD Q 214 #[X (U ⟨g,0,V⟩),X (U i)] .returning w fun e u j=>e = K (I #[])/\u = .returning/\j=w.alloc (Y #[Z H 0,Z H 0,Z H 0,Z H 0,Z H 0,Z H 0,Z H 0,Z H 0,Z H 0,Z H 0,Z H 0,Z H 0,Z H 0,Z H 0,Z H 0,Z H 0,Z H 0,Z H 0,Z H 0,Z H 0] 65 (0,0)):=by
  refine callsD_of_wpS func214 rfl fun d l f=>?_;apply wpS_seq;refine wpS_of_wp ?_
  simp only [ntmps214,P2,M2,R2,T2,W2,X2,
     Y2,Z2,B3,G3,J3]
  go_wp2
  simp only [Exit.thenS];apply wpS_seq;apply wpS_region;simp [wpOpsS,go_sem,recoverD,f,Exit.thenS];refine wpS_of_wp ?_
  go_wp2
  cases d
  simp_all [bodyPostS,results,Tryz.results214]
  try rfl
theorem Nl (w:O) (d f:Nat) (j:Array M) (E:j.size=20) (c y:Int) (v:List PanicEntry) (P:ai) (h:ag w (pt d (Y j 65 (0,0))*(pt f (Y #[Z H y] 28 (0,0))*P))) :
    CallsD Q 214 #[X (U ⟨d,0,V⟩),X (U ⟨f,0,V⟩)] (.panicking ({ v:=.iface 220 (Z H c),recovered:=N } :: v)) w fun e u x=>
      e = K (I #[])/\u = .panicking ({ v:=.iface 220 (Z H c),recovered:=L } :: v)/\ag x (pt d (Y #[Z H 0,Z H 0,Z H 0,Z H 0,Z H 0,Z H 0,Z H 0,Z H 0,Z H 0,Z H 0,Z H 0,Z H 0,Z H 0,Z H 0,Z H 0,Z H 0,Z H 0,Z H 0,Z H 0,Z H 0] 65 (0,0))*(pt f (Y #[Z H c] 28 (0,0))*P))/\aj w x:=by
  refine callsD_of_wpS func214 rfl fun b0 S G=>?_;apply wpS_seq;refine wpS_of_wp ?_
  simp only [ntmps214,P2,M2,R2,T2,W2,X2,
     Y2,Z2,B3,G3,J3]
  go_wp2
  simp only [Exit.thenS];apply wpS_seq;apply wpS_region;simp [wpOpsS,go_sem,recoverD,G,Exit.thenS];refine wpS_of_wp ?_;have c0:=jY (Z H c);have g:=h.alloc (Y #[Z H 0,Z H 0,Z H 0,Z H 0,Z H 0,Z H 0,Z H 0,Z H 0,Z H 0,Z H 0,Z H 0,Z H 0,Z H 0,Z H 0,Z H 0,Z H 0,Z H 0,Z H 0,Z H 0,Z H 0] 65 (0,0));have l:=(aj.refl w).alloc (Y #[Z H 0,Z H 0,Z H 0,Z H 0,Z H 0,Z H 0,Z H 0,Z H 0,Z H 0,Z H 0,Z H 0,Z H 0,Z H 0,Z H 0,Z H 0,Z H 0,Z H 0,Z H 0,Z H 0,Z H 0] 65 (0,0));have q:=g.heap;have r:=g.ah.heap;have i:=g.ah.setRow (cs':=#[Z H 0,Z H 0,Z H 0,Z H 0,Z H 0,Z H 0,Z H 0,Z H 0,Z H 0,Z H 0,Z H 0,Z H 0,Z H 0,Z H 0,Z H 0,Z H 0,Z H 0,Z H 0,Z H 0,Z H 0]);have z:=ae (((l.setRow d #[Z H 0,Z H 0,Z H 0,Z H 0,Z H 0,Z H 0,Z H 0,Z H 0,Z H 0,Z H 0,Z H 0,Z H 0,Z H 0,Z H 0,Z H 0,Z H 0,Z H 0,Z H 0,Z H 0,Z H 0])).setCell ⟨f,0,V⟩ (Z H c));have o:=(i.au.setCell 0 (Z H c))
  generalize w.alloc (Y #[Z H 0,Z H 0,Z H 0,Z H 0,Z H 0,Z H 0,Z H 0,Z H 0,Z H 0,Z H 0,Z H 0,Z H 0,Z H 0,Z H 0,Z H 0,Z H 0,Z H 0,Z H 0,Z H 0,Z H 0] 65 (0,0))=w1 at *;generalize w.heap.size=t at *;have e1:=i.au.cell 0;have f1:=i.au.frozen 0;have B:=ae q;have C:=ae r;have A:=ae o;clear h g i o l q r
  go_wp2_with (first|(refine wpList_load_row (by exact rfl) 65 (.tmp 2) (by exact rfl) t (by exact rfl) 65 #[Z H 0,Z H 0,Z H 0,Z H 0,Z H 0,Z H 0,Z H 0,Z H 0,Z H 0,Z H 0,Z H 0,Z H 0,Z H 0,Z H 0,Z H 0,Z H 0,Z H 0,Z H 0,Z H 0,Z H 0] (0,0) _ (by with_reducible exact B.out) underlying65 rfl bF ?_)|(refine wpList_store_row (by exact rfl) 65 (.tmp 0) (.tmp 12) (by exact rfl) d #[Z H 0,Z H 0,Z H 0,Z H 0,Z H 0,Z H 0,Z H 0,Z H 0,Z H 0,Z H 0,Z H 0,Z H 0,Z H 0,Z H 0,Z H 0,Z H 0,Z H 0,Z H 0,Z H 0,Z H 0] (by exact rfl) (by exact rfl) 65 j (by with_reducible exact C.out) bF E Ge ?_))
  exact ⟨rfl,_,rfl,_,results_none rfl _ _ _,rfl,rfl,(A.out.to (by ac_rfl:_=pt t (Y #[Z H 0,Z H 0,Z H 0,Z H 0,Z H 0,Z H 0,Z H 0,Z H 0,Z H 0,Z H 0,Z H 0,Z H 0,Z H 0,Z H 0,Z H 0,Z H 0,Z H 0,Z H 0,Z H 0,Z H 0] 65 (0,0))*(pt d (Y #[Z H 0,Z H 0,Z H 0,Z H 0,Z H 0,Z H 0,Z H 0,Z H 0,Z H 0,Z H 0,Z H 0,Z H 0,Z H 0,Z H 0,Z H 0,Z H 0,Z H 0,Z H 0,Z H 0,Z H 0] 65 (0,0))*(pt f (Y #[Z H c] 28 (0,0))*P)))).right,z.out⟩
theorem sy {w:O} {d:Array M} {a b:Nat} {e:Array M} {F:ai} (f:d[4]?=U (az a)) (g:d[5]?=U (az b)) (j:ag w (pt a (Y e 65 (0,0))*F)) (i:e.size=20) (l:w.cell? ⟨b,0,V⟩=U v) :
  (results Tryz.f158 d).run Q w = .ok (I #[.agg e,v]) w:=by
 have o:=run_loadVar_row (P:=Q) w a 65 65 e (0,0) _ j.heap underlying65 rfl (by rw [i];exact bF);have r:d.getD 4 undef = X (U ⟨a,0,V⟩):=by simp [f]
 have t:d.getD 5 undef = X (U ⟨b,0,V⟩):=by simp [g]
 have q:(loadVar 28 ⟨b,0,V⟩).run Q w = .ok v w:=by simp [go_sem,l]
 simp [results,Tryz.results158,f,g,asAddr,o,q]
theorem yG {w:O} {j:Array M} {d f:Nat} {g:Array M} {z c:Int} {P:ai} {o:Ending->O->Prop} (r:j[4]?=U (az d)) (t:j[5]?=U (az f))
  (h:ag w (pt d (Y g 65 (0,0))*(pt f (Y #[Z H z] 28 (0,0))*P))) (v:g.size=20) (hR:∀ l,ag l P->aj w l->o (K (I #[.agg #[Z H 0,Z H 0,Z H 0,Z H 0,Z H 0,Z H 0,Z H 0,Z H 0,Z H 0,Z H 0,Z H 0,Z H 0,Z H 0,Z H 0,Z H 0,Z H 0,Z H 0,Z H 0,Z H 0,Z H 0],Z H c])) l) :
  bodyPostD Q Tryz.f158 o (Exit.panic (Ks c)) { tmps:=j,defers:=[{ target:=.fn (.func 214) #[X (U ⟨d,0,V⟩),X (U ⟨f,0,V⟩)],args:=#[] }] } w:=by
 refine leaves_cons (f:=214) (args:=#[X (U ⟨d,0,V⟩),X (U ⟨f,0,V⟩)]) (by simp) (by simp [go_sem]) ?_;refine (Nl w d f g v c z [] P h).mono ?_;rintro e u x ⟨rfl,rfl,i,q⟩;exact ⟨_,sy r t i rfl (i.ah.cell 0),hR _ i.right.right q⟩
theorem yh {w:O} {j:Array M} {d f:Nat} {g:Array M} {z:Int} {P:ai} {o:Ending->O->Prop} (q:j[4]?=U (az d)) (r:j[5]?=U (az f))
  (h:ag w (pt d (Y g 65 (0,0))*(pt f (Y #[Z H z] 28 (0,0))*P))) (t:g.size=20) (hR:∀ l,ag l P->aj w l->o (K (I #[.agg g,Z H z])) l) :
  bodyPostD Q Tryz.f158 o Exit.ret { tmps:=j,defers:=[{ target:=.fn (.func 214) #[X (U ⟨d,0,V⟩),X (U ⟨f,0,V⟩)],args:=#[] }] } w:=by
 refine leaves_cons (f:=214) (args:=#[X (U ⟨d,0,V⟩),X (U ⟨f,0,V⟩)]) (by simp) (by simp [go_sem]) ?_;refine (MG w d ⟨f,0,V⟩).mono ?_;rintro e u v ⟨rfl,rfl,rfl⟩;have i:=(h.alloc (Y #[Z H 0,Z H 0,Z H 0,Z H 0,Z H 0,Z H 0,Z H 0,Z H 0,Z H 0,Z H 0,Z H 0,Z H 0,Z H 0,Z H 0,Z H 0,Z H 0,Z H 0,Z H 0,Z H 0,Z H 0] 65 (0,0))).right;exact ⟨_,sy q r i t (i.ah.cell 0),hR _ i.right.right ((aj.refl w).alloc _)⟩
def De (a:Nd) (v:M):ai:=fact (v=a.v/\a.dr.length=16)
theorem LJ (c:Cx σ) (hc:c.Ok) (n:Nat) (q1:4<=n) (t1:n<=3840) (jf:FuncId) (c1:Array M) (G:ai) (m:WM σ Nd)
  (jX:∀ (args:Array M) (w:O),(callFunc jf args).run Q w = .ok (.enter jf args) w) (hj:DE c n jf c1 De G m)
  (g:Nat) (d:gZ σ) (w:O) (i0:Hp) (F:ai) (h:ag w (cI c i0 g d*(ak i0*(G*F)))) (b1:Ending->O->Prop)
  (hQ:∀ e y,Cf c g (.agg #[Z H 0,Z H 0,Z H 0,Z H 0,Z H 0,Z H 0,Z H 0,Z H 0,Z H 0,Z H 0,Z H 0,Z H 0,Z H 0,Z H 0,Z H 0,Z H 0,Z H 0,Z H 0,Z H 0,Z H 0]) De i0 (G*F) w (ed m d) e y->b1 e y) :
  Calls Q 158 #[fV g n,.func (.func jf) #[] c1] w b1:=by
 have HQ:=ae hQ;clear hQ;have p1:=nB Q;have r1:¬ ((n:Int)<4):=by omega
 have u1:¬ ((n:Int) > 3840):=by omega
 have Hj:=ae hj;unfold fV
 go_enter_defers func158,ntmps158
 have H3:=((h.alloc (Y #[X (U ⟨g,0,V⟩),Z H (n:Int)] 72 (0,0))).alloc (Y #[Z H 0,Z H 0,Z H 0,Z H 0,Z H 0,Z H 0,Z H 0,Z H 0,Z H 0,Z H 0,Z H 0,Z H 0,Z H 0,Z H 0,Z H 0,Z H 0,Z H 0,Z H 0,Z H 0,Z H 0] 65 (0,0))).alloc (Y #[Z H 0] 28 (0,0));have D3:=(((aj.refl w).alloc (Y #[X (U ⟨g,0,V⟩),Z H (n:Int)] 72 (0,0))).alloc (Y #[Z H 0,Z H 0,Z H 0,Z H 0,Z H 0,Z H 0,Z H 0,Z H 0,Z H 0,Z H 0,Z H 0,Z H 0,Z H 0,Z H 0,Z H 0,Z H 0,Z H 0,Z H 0,Z H 0,Z H 0] 65 (0,0))).alloc (Y #[Z H 0] 28 (0,0));simp only [L3] at H3
 go_wp2_with fail
 generalize ((w.alloc (Y #[X (U ⟨g,0,V⟩),Z H (n:Int)] 72 (0,0))).alloc (Y #[Z H 0,Z H 0,Z H 0,Z H 0,Z H 0,Z H 0,Z H 0,Z H 0,Z H 0,Z H 0,Z H 0,Z H 0,Z H 0,Z H 0,Z H 0,Z H 0,Z H 0,Z H 0,Z H 0,Z H 0] 65 (0,0))).alloc (Y #[Z H 0] 28 (0,0))=w3 at H3 D3 ⊢;clear h;generalize w.heap.size+1+1=r at *;generalize w.heap.size+1=o at *;generalize w.heap.size=q at *;have s0:w3.cell? ⟨q,0,V⟩=U (X (U ⟨g,0,V⟩)):=H3.au.cell 0;have s1:w3.cell? ⟨q,1,V⟩=U (Z H (n:Int)):=H3.au.cell 1;have x:ag w3 (aB 176 5 i0 g c.rd d.err d.W d.D*(ak i0*(c.RI d.s*(pt r (Y #[Z H 0] 28 (0,0))*(pt o (Y #[Z H 0,Z H 0,Z H 0,Z H 0,Z H 0,Z H 0,Z H 0,Z H 0,Z H 0,Z H 0,Z H 0,Z H 0,Z H 0,Z H 0,Z H 0,Z H 0,Z H 0,Z H 0,Z H 0,Z H 0] 65 (0,0))*(pt q (Y #[X (U ⟨g,0,V⟩),Z H (n:Int)] 72 (0,0))*(G*F))))))):=H3.to (by unfold cI;ac_rfl);have i1:=oG w3.drew i0 g c.rd d.err d.W d.D _ x.drew ⟨_,_,rfl⟩;have a1:=ae i1;clear i1
 go_region_held3 (fun y=>y.cell? ⟨q,0,V⟩=U (X (U ⟨g,0,V⟩))/\y.cell? ⟨q,1,V⟩=U (Z H (n:Int)))
  (first|exact ⟨s0,s1⟩|exact f0|go_keep)
  (first|(go_at_call 142;refine (a1.out).mono ?_;rintro e w4 ⟨C,f,K0,rfl,h4,d4⟩;have f0:w4.cell? ⟨q,0,V⟩=U (X (U ⟨g,0,V⟩))/\w4.cell? ⟨q,1,V⟩=U (Z H (n:Int)):=⟨h4.bZ.cell 0,h4.bZ.cell 1⟩))
 have D5:=(D3.drew.trans d4).alloc (Y #[X (U ⟨f,0,V⟩),Z H (n:Int),R V 0 0,J N] 149 (0,0));have H5:=h4.alloc (Y #[X (U ⟨f,0,V⟩),Z H (n:Int),R V 0 0,J N] 149 (0,0))
 have Y0:ag (w4.alloc (Y #[X (U ⟨f,0,V⟩),Z H (n:Int),R V 0 0,J N] 149 (0,0))) (aG (⟨c,n,w4.heap.size,f⟩:Wk σ) C ⟨d,V,N⟩*(ak C*(G*(aB 176 5 C g c.rd d.err d.W d.D*(pt r (Y #[Z H 0] 28 (0,0))*(pt o (Y #[Z H 0,Z H 0,Z H 0,Z H 0,Z H 0,Z H 0,Z H 0,Z H 0,Z H 0,Z H 0,Z H 0,Z H 0,Z H 0,Z H 0,Z H 0,Z H 0,Z H 0,Z H 0,Z H 0,Z H 0] 65 (0,0))*(pt q (Y #[X (U ⟨g,0,V⟩),Z H (n:Int)] 72 (0,0))*F))))))):=
  uH (H5.to (by ac_rfl))
 have L0:=Hj.out ⟨c,n,w4.heap.size,f⟩ _ C ⟨d,V,N⟩ _ rfl rfl Y0;rename_i r0;clear s0 s1 x a1 f0 r0 D3 d4 h4 H5 Y0 Hj hj H3;generalize w4.alloc (Y #[X (U ⟨f,0,V⟩),Z H (n:Int),R V 0 0,J N] 149 (0,0))=w5 at *;generalize w4.heap.size=k at *;obtain ⟨⟨R0,j⟩,hp⟩:∃ p,m ⟨d,V,N⟩=p:=⟨_,rfl⟩
 rw [hp] at L0
 cases R0 with
 | bad cN=>
  have HE:=ae (mj hp);clear hp
  go_wp2_with fail
  (with_reducible refine L0.mono ?_)
  rintro e w6 ⟨z,e0,d6,rfl,h6⟩;have h7:=uT h6
  have A:ag w6 (c.RI j.b.s*(aB 176 5 C g c.rd d.err d.W d.D*(pt r (Y #[Z H 0] 28 (0,0))*(pt o (Y #[Z H 0,Z H 0,Z H 0,Z H 0,Z H 0,Z H 0,Z H 0,Z H 0,Z H 0,Z H 0,Z H 0,Z H 0,Z H 0,Z H 0,Z H 0,Z H 0,Z H 0,Z H 0,Z H 0,Z H 0] 65 (0,0))*(ak z*(G*F)))))):=
   (h7.to (by ac_rfl:_=pt q (Y #[X (U ⟨g,0,V⟩),Z H (n:Int)] 72 (0,0))*(c.RI j.b.s*(aB 176 5 C g c.rd d.err d.W d.D*(pt r (Y #[Z H 0] 28 (0,0))*(pt o (Y #[Z H 0,Z H 0,Z H 0,Z H 0,Z H 0,Z H 0,Z H 0,Z H 0,Z H 0,Z H 0,Z H 0,Z H 0,Z H 0,Z H 0,Z H 0,Z H 0,Z H 0,Z H 0,Z H 0,Z H 0] 65 (0,0))*(ak z*(G*F)))))))).right
  have x:=nT e0 A;have v:ag w6 (pt o (Y #[Z H 0,Z H 0,Z H 0,Z H 0,Z H 0,Z H 0,Z H 0,Z H 0,Z H 0,Z H 0,Z H 0,Z H 0,Z H 0,Z H 0,Z H 0,Z H 0,Z H 0,Z H 0,Z H 0,Z H 0] 65 (0,0))*(pt r (Y #[Z H 0] 28 (0,0))*(cI c z g { d with s:=j.b.s }*(ak z*(G*F))))):=x.to (by ac_rfl)
  go_wp2_with fail
  exact yG rfl rfl v rfl fun y S h0=>HQ.out _ _ (by rw [HE.out];exact ⟨z,K0.trans e0,(D5.trans d6).trans h0,rfl,S⟩)
 | ok a=>
  go_wp2_with fail
  (with_reducible refine L0.mono ?_)
  rintro e w6 ⟨z,v6,e0,d6,rfl,h6⟩;obtain ⟨⟨rfl,W0⟩,h7⟩:=ag.aq.1 h6;have e1:a.v = .agg (ints a.l):=rfl;have hX:(ints a.l).size=20:=by rw [er,Nd.cells W0]
  have k1:(ints a.l).all (·.oneCell')=L:=by simp [ints,Z3]
  have h1:∀ w (V0:ai),ag w V0->ag w (De a (.agg (ints a.l))*V0):=fun w V0 h=>ag.aq.2 ⟨⟨rfl,W0⟩,h⟩;rw [e1];clear W0 h6 e1;generalize ints a.l=i at *;have j1:(prog.info? 65).map (·.size)=U i.size:=by rw [hX];exact bF
  have g0:=ae j1;have p0:=ae k1;have HX:=ae hX;have Z0:=ae h1;clear j1 k1 hX h1;obtain ⟨E,A⟩:=ag.fG h7;clear L0 h7;have x:ag w6 (pt o (Y #[Z H 0,Z H 0,Z H 0,Z H 0,Z H 0,Z H 0,Z H 0,Z H 0,Z H 0,Z H 0,Z H 0,Z H 0,Z H 0,Z H 0,Z H 0,Z H 0,Z H 0,Z H 0,Z H 0,Z H 0] 65 (0,0))*(pt r (Y #[Z H 0] 28 (0,0))*(pt q (Y #[X (U ⟨g,0,V⟩),Z H (n:Int)] 72 (0,0))*(pt k (Y #[X (U ⟨f,0,V⟩),Z H (n:Int),E,J j.dt] 149 (0,0))*(cI c z f j.b*(cF j.bits E*(ak z*(aB 176 5 C g c.rd d.err d.W d.D*(G*F))))))))):=A.to (by unfold bH Wk.cells;ac_rfl);have T0:=ae x.heap;have v:=x.setRow (cs':=i);have D0:=(D5.trans d6).setRow o i;have k3:(w6.setRow o i).cell? ⟨k,3,V⟩=U (J j.dt):=v.aA.cell 3;clear A x D5 d6
  cases b0:j.dt with
  | false=>
   have HE:=ae (oM hp b0);rw [b0] at k3 v;clear hp b0
   go_wp2_with (refine wpList_store_row (by exact rfl) 65 (.tmp 4) (.tmp 31) (by exact rfl) o i (by exact rfl) (by exact rfl) 65 _ (by with_reducible exact T0.out) g0.out (by rw [HX.out];rfl) p0.out ?_)
   generalize w6.setRow o i=w7 at *;have u0:ag w7 (aB 176 5 C g c.rd d.err d.W d.D*(aB 176 5 z f c.rd j.b.err j.b.W j.b.D*(ak z*(c.RI j.b.s*(pt o (Y i 65 (0,0))*(pt r (Y #[Z H 0] 28 (0,0))*(pt q (Y #[X (U ⟨g,0,V⟩),Z H (n:Int)] 72 (0,0))*(pt k (Y #[X (U ⟨f,0,V⟩),Z H (n:Int),E,J N] 149 (0,0))*(cF j.bits E*(G*F)))))))))):=v.to (by unfold cI;ac_rfl);have d0:=u0.fO (dZ e0);have s0:w7.cell? ⟨q,0,V⟩=U (X (U ⟨g,0,V⟩)):=d0.bZ.cell 0;have k0:w7.cell? ⟨k,0,V⟩=U (X (U ⟨f,0,V⟩)):=d0.eK.cell 0;have x0:=ae (iO w7.drew z g f c.rd c.rd j.b.err d.err j.b.W j.b.D d.W d.D _ d0.drew ⟨_,_,rfl⟩);clear u0 d0 v
   go_region_held3 (fun y=>y.cell? ⟨q,0,V⟩=U (X (U ⟨g,0,V⟩))/\y.cell? ⟨k,0,V⟩=U (X (U ⟨f,0,V⟩)))
    (first|exact ⟨s0,k0⟩|exact f0|go_keep)
    (first|(go_at_call 144;refine (x0.out).mono ?_;rintro e B ⟨u,l0,rfl,A,P⟩;have f0:B.cell? ⟨q,0,V⟩=U (X (U ⟨g,0,V⟩))/\B.cell? ⟨k,0,V⟩=U (X (U ⟨f,0,V⟩)):=⟨A.bZ.cell 0,A.eK.cell 0⟩))
   all_goals
    rename_i r0;have x:ag B (pt o (Y i 65 (0,0))*(pt r (Y #[Z H 0] 28 (0,0))*((cI c u g j.b*(ak u*(G*F)))*(pt q (Y #[X (U ⟨g,0,V⟩),Z H (n:Int)] 72 (0,0))*(pt k (Y #[X (U ⟨f,0,V⟩),Z H (n:Int),E,J N] 149 (0,0))*(aB 176 5 u f c.rd j.b.err j.b.W j.b.D*cF j.bits E)))))):=A.to (by unfold cI;ac_rfl);have q0:=ae x.heap;have c0:=x.setRow (cs':=i);have e9:(B.setRow o i).cell? ⟨r,0,V⟩=U (Z H 0):=c0.ah.cell 0;have g9:(B.setRow o i).frozen? ⟨r,0,V⟩=N:=c0.ah.frozen 0;have v:=((c0.ah.setCell 0 (Z H 0)).ah)
    have D9:=(((D0).drew.trans P).setRow o i).setCell ⟨r,0,V⟩ (Z H 0);have HD:=ae D9;have S0:=ae v;clear x0 s0 k0 f0 A x c0 v D9 r0 P
    go_wp2_with (first|(refine wpList_load_row (by exact rfl) 65 (.tmp 4) (by exact rfl) o (by exact rfl) 65 i (0,0) _ (by with_reducible exact q0.out) underlying65 rfl g0.out ?_)|(refine wpList_store_row (by exact rfl) 65 (.tmp 4) (.tmp 49) (by exact rfl) o i (by exact rfl) (by exact rfl) 65 i (by with_reducible exact q0.out) g0.out rfl p0.out ?_))
    exact yh rfl rfl S0.out HX.out fun y S h0=>HQ.out _ _ (by rw [HE.out];exact ⟨u,_,K0.trans (e0.trans l0),HD.out.trans h0,rfl,Z0.out _ _ ((S.left).to (by ac_rfl))⟩)
  | true=>
   have n0:=fun st'=>sr (st':=st') hp b0;have o0:=fun st' c=>uL (st':=st') (c:=c) hp b0;have n0:=ae n0;have o0:=ae o0;rw [b0] at k3 v;have k2:(w6.setRow o i).cell? ⟨k,2,V⟩=U E:=v.aA.cell 2;have X0:Rd (w6.setRow o i) E (j.bits.getD []):=zJ v.dV
   have S:ag (w6.setRow o i) (bH (⟨c,n,k,f⟩:Wk σ) E z j*(ak z*(pt o (Y i 65 (0,0))*(pt r (Y #[Z H 0] 28 (0,0))*(pt q (Y #[X (U ⟨g,0,V⟩),Z H (n:Int)] 72 (0,0))*(cF j.bits E*(aB 176 5 C g c.rd d.err d.W d.D*(G*F)))))))):=
    v.to (by unfold bH Wk.cells;rw [b0];ac_rfl)
   have N0:=kz (⟨c,n,k,f⟩:Wk σ) _ E z j 0 E (j.bits.getD []) _ S X0
   obtain ⟨va,vl,vc,rfl⟩:∃ a l c,E = R a l c:=by
    obtain ⟨a,c,e⟩:=X0.shape;exact ⟨_,_,_,e⟩
   have f1:∀ st' R0,bQ 0 (j.bits.getD []) j=(R0,st')->st'.dt=L:=fun st' R0 h=>by
    unfold bQ at h
    split at h
    .simp only [Prod.mk.injEq] at h;rw [<- h.2];exact b0
    .simp only [Prod.mk.injEq] at h;rw [<- h.2];exact b0
   obtain ⟨⟨r2,t⟩,m0⟩:∃ p,bQ 0 (j.bits.getD []) j=p:=⟨_,rfl⟩
   rw [m0] at N0;have g1:=f1 _ _ m0;have m1:=ae g1;clear hp b0 S X0 f1 g1
   cases r2 with
   | bad cN=>
    have HE:=ae (o0.out _ _ m0);clear m0 n0 o0
    go_wp2_with (refine wpList_store_row (by exact rfl) 65 (.tmp 4) (.tmp 31) (by exact rfl) o i (by exact rfl) (by exact rfl) 65 _ (by with_reducible exact T0.out) g0.out (by rw [HX.out];rfl) p0.out ?_)
    (with_reducible refine N0.mono ?_)
    rintro e B ⟨u,l0,P,rfl,F0⟩
    have G0:ag B (c.RI t.b.s*(aB 176 5 C g c.rd d.err d.W d.D*(pt o (Y i 65 (0,0))*(pt r (Y #[Z H 0] 28 (0,0))*(ak u*(G*F)))))):=
     (F0.to (by unfold bH cI;ac_rfl:_=(pt k (Y ((⟨c,n,k,f⟩:Wk σ).cells (R va vl vc) t.dt) 149 (0,0))*(aB 176 5 u f c.rd t.b.err t.b.W t.b.D*(pt q (Y #[X (U ⟨g,0,V⟩),Z H (n:Int)] 72 (0,0))*cF j.bits (R va vl vc))))*(c.RI t.b.s*(aB 176 5 C g c.rd d.err d.W d.D*(pt o (Y i 65 (0,0))*(pt r (Y #[Z H 0] 28 (0,0))*(ak u*(G*F)))))))).right
    have H0:=nT (e0.trans l0) G0;have n1:ag B (pt o (Y i 65 (0,0))*(pt r (Y #[Z H 0] 28 (0,0))*(cI c u g { d with s:=t.b.s }*(ak u*(G*F))))):=H0.to (by ac_rfl)
    go_wp2_with fail
    exact yG rfl rfl n1 HX.out fun y S h0=>HQ.out _ _ (by rw [HE.out];exact ⟨u,K0.trans (e0.trans l0),(D0.trans P).trans h0,rfl,S⟩)
   | ok v1=>
    have HE:=ae (n0.out _ m0);clear m0 n0 o0
    go_wp2_with (refine wpList_store_row (by exact rfl) 65 (.tmp 4) (.tmp 31) (by exact rfl) o i (by exact rfl) (by exact rfl) 65 _ (by with_reducible exact T0.out) g0.out (by rw [HX.out];rfl) p0.out ?_)
    (with_reducible refine N0.mono ?_)
    rintro e w7 ⟨u,v8,l0,P,rfl,F0⟩;obtain ⟨rfl,G0⟩:=ag.aq.1 F0;have H0:ag w7 (pt o (Y i 65 (0,0))*(pt r (Y #[Z H 0] 28 (0,0))*(pt q (Y #[X (U ⟨g,0,V⟩),Z H (n:Int)] 72 (0,0))*(pt k (Y #[X (U ⟨f,0,V⟩),Z H (n:Int),(R va vl vc),J L] 149 (0,0))*(cI c u f t.b*(cF j.bits (R va vl vc)*(ak u*(aB 176 5 C g c.rd d.err d.W d.D*(G*F))))))))):=G0.to (by unfold bH Wk.cells;rw [m1.out];ac_rfl);have l1:=D0.trans P;have d1:=e0.trans l0;clear N0 F0 G0 D0 P v k2 k3
    go_wp2_with fail
    have u0:ag w7 (aB 176 5 C g c.rd d.err d.W d.D*(aB 176 5 u f c.rd t.b.err t.b.W t.b.D*(ak u*(c.RI t.b.s*(pt o (Y i 65 (0,0))*(pt r (Y #[Z H 0] 28 (0,0))*(pt q (Y #[X (U ⟨g,0,V⟩),Z H (n:Int)] 72 (0,0))*(pt k (Y #[X (U ⟨f,0,V⟩),Z H (n:Int),(R va vl vc),J L] 149 (0,0))*(cF j.bits (R va vl vc)*(G*F)))))))))):=H0.to (by unfold cI;ac_rfl);have d0:=u0.fO (dZ d1);have s0:w7.cell? ⟨q,0,V⟩=U (X (U ⟨g,0,V⟩)):=d0.bZ.cell 0;have k0:w7.cell? ⟨k,0,V⟩=U (X (U ⟨f,0,V⟩)):=d0.eK.cell 0;have x0:=ae (iO w7.drew u g f c.rd c.rd t.b.err d.err t.b.W t.b.D d.W d.D _ d0.drew ⟨_,_,rfl⟩);clear u0 d0 H0
    go_region_held3 (fun y=>y.cell? ⟨q,0,V⟩=U (X (U ⟨g,0,V⟩))/\y.cell? ⟨k,0,V⟩=U (X (U ⟨f,0,V⟩)))
     (first|exact ⟨s0,k0⟩|exact f0|go_keep)
     (first|(go_at_call 144;refine (x0.out).mono ?_;rintro e B ⟨S5,o1,rfl,A,P⟩;have f0:B.cell? ⟨q,0,V⟩=U (X (U ⟨g,0,V⟩))/\B.cell? ⟨k,0,V⟩=U (X (U ⟨f,0,V⟩)):=⟨A.bZ.cell 0,A.eK.cell 0⟩))
    all_goals
     rename_i r0;have x:ag B (pt o (Y i 65 (0,0))*(pt r (Y #[Z H 0] 28 (0,0))*((cI c S5 g t.b*(ak S5*(G*F)))*(pt q (Y #[X (U ⟨g,0,V⟩),Z H (n:Int)] 72 (0,0))*(pt k (Y #[X (U ⟨f,0,V⟩),Z H (n:Int),(R va vl vc),J L] 149 (0,0))*(aB 176 5 S5 f c.rd t.b.err t.b.W t.b.D*cF j.bits (R va vl vc))))))):=A.to (by unfold cI;ac_rfl);have q0:=ae x.heap;have c0:=x.setRow (cs':=i);have e9:(B.setRow o i).cell? ⟨r,0,V⟩=U (Z H 0):=c0.ah.cell 0;have g9:(B.setRow o i).frozen? ⟨r,0,V⟩=N:=c0.ah.frozen 0;have v:=((c0.ah.setCell 0 (Z H 0)).ah)
     have D9:=(((l1).drew.trans P).setRow o i).setCell ⟨r,0,V⟩ (Z H 0);have HD:=ae D9;have S0:=ae v;clear x0 s0 k0 f0 A x c0 v D9 r0 P
     go_wp2_with (first|(refine wpList_load_row (by exact rfl) 65 (.tmp 4) (by exact rfl) o (by exact rfl) 65 i (0,0) _ (by with_reducible exact q0.out) underlying65 rfl g0.out ?_)|(refine wpList_store_row (by exact rfl) 65 (.tmp 4) (.tmp 49) (by exact rfl) o i (by exact rfl) (by exact rfl) 65 i (by with_reducible exact q0.out) g0.out rfl p0.out ?_))
     exact yh rfl rfl S0.out HX.out fun y S h0=>HQ.out _ _ (by rw [HE.out];exact ⟨S5,_,K0.trans (d1.trans o1),HD.out.trans h0,rfl,Z0.out _ _ ((S.left).to (by ac_rfl))⟩)
end
end Go.Proofs.Fs
namespace Go.SL
open RowKit
def Rs.code {α:Type}:Rs α->Int
 | .ok _=>0
 | .bad c=>c
end Go.SL
namespace Go.Proofs.Fs
open RowKit SL Proofs.Ba
section
variable {σ α:Type}
theorem xT {w:O} {d:Array M} {a:Nat} {F:ai} (e:d[3]?=U (az a)) (f:ag w (pt a (Y #[] 202 (0,0))*F)) :
  (results Tryz.f146 d).run Q w = .ok (.agg #[]) w:=by
 have g:=run_loadVar_row (P:=Q) w a 202 202 #[] (0,0) _ f.heap underlying202 rfl eh;simp [results,Tryz.results146,e,asAddr,g]
def O0 (e:Nat) (f:FuncId) (d:Array M):ai:=pt e (Y #[.func (.func f) #[] d] 138 (0,0))
theorem IU {c:Cx σ} {n:Nat} {d:FuncId} {g:Array M} {G:ai} {m:WM σ Unit} (jX:∀ (args:Array M) (w:O),(callFunc d args).run Q w = .ok (.enter d args) w)
  (P:DE c n d g jA G m) (e:Nat):DE c n 146 #[X (U ⟨e,0,V⟩)] OR (O0 e d g*G) m:=by
 intro x w S st F b0 c0 h;have i:=fun w F h=>P x w S st F b0 c0 h;have u:=ae i;have C:=h.alloc (Y #[] 202 (0,0));have z:=(aj.refl w).alloc (Y #[] 202 (0,0));clear P h i b0 c0;show Calls Q 146 #[X (U ⟨x.k,0,V⟩),X (U ⟨e,0,V⟩)] w _
 go_enter func146,ntmps146
 have q:ag (w.alloc (Y #[] 202 (0,0))) (O0 e d g*(pt w.heap.size (Y #[] 202 (0,0))*(aG x S st*(ak S*(G*F))))):=C.to (by ac_rfl);have cj:(w.alloc (Y #[] 202 (0,0))).cell? ⟨e,0,V⟩=U (.func (.func d) #[] g):=q.cell 0;have E:ag (w.alloc (Y #[] 202 (0,0))) (aG x S st*(ak S*(G*(O0 e d g*(pt w.heap.size (Y #[] 202 (0,0))*F))))):=q.to (by ac_rfl);have i:=u.out _ _ E;clear u C q E;obtain ⟨⟨e0,y⟩,hp⟩:∃ p,m st=p:=⟨_,rfl⟩
 rw [hp] at i ⊢;clear hp
 cases e0 with
 | bad cN=>
  go_wp2_with fail
  generalize w.alloc (Y #[] 202 (0,0))=w1 at *;generalize w.heap.size=l at *
  (with_reducible refine i.mono ?_)
  rintro d0 w2 ⟨f,r,o,rfl,j⟩
  go_wp2_with fail
  exact ⟨rfl,f,r,z.trans o,rfl,(j.to (by ac_rfl:_=pt l (Y #[] 202 (0,0))*(aG x f y*(ak f*(O0 e d g*G*F))))).right⟩
 | ok g0=>
  go_wp2_with fail
  generalize w.alloc (Y #[] 202 (0,0))=w1 at *;generalize w.heap.size=l at *
  (with_reducible refine i.mono ?_)
  rintro d0 w2 ⟨f,v,r,o,rfl,j⟩;obtain ⟨rfl,A⟩:=ag.aq.1 j;have B:ag w2 (pt l (Y #[] 202 (0,0))*(aG x f y*(ak f*(O0 e d g*G*F)))):=A.to (by ac_rfl);have t:=ae B;clear j A B i cj
  go_wp2_with (refine wpList_store_mid (by exact rfl) 202 (.tmp 3) (.tmp 7) (by exact rfl) l 0 #[] (by exact rfl) (by exact rfl) (by exact fun f0 h=>absurd h (N2 _)) (by exact eh) (by exact rfl) ?_)
  exact bodyPost_ret (xT rfl t.out) rfl ⟨f,_,r,z.trans o,rfl,ag.aq.2 ⟨rfl,t.out.right⟩⟩
def OF (c:Cx σ) (g:Nat) (S:Hp) (F:ai) (w:O) (p:Rs Unit × gZ σ) (e:Ending) (f:O):Prop:=
 ∃ d,Ext S d/\aj w f/\e = K (Z H p.1.code)/\ag f (cI c d g p.2*(ak d*F))
theorem wS (c:Cx σ) (hc:c.Ok) (n:Nat) (e0:4<=n) (f0:n<=3840) (f:FuncId) (g:Array M) (G:ai) (m:WM σ Unit)
  (jX:∀ (args:Array M) (w:O),(callFunc f args).run Q w = .ok (.enter f args) w) (hj:DE c n f g jA G m)
  (d:Nat) (o:gZ σ) (w:O) (S:Hp) (F:ai) (h:ag w (cI c S d o*(ak S*(G*F)))) (u:Ending->O->Prop)
  (hQ:∀ e i,OF c d S (G*F) w (ed m o) e i->u e i) :
  Calls Q 83 #[fV d n,.func (.func f) #[] g] w u:=by
 have h0:=nB Q;have P:=ae hQ;have c0:=fun l w F h=>L7 c hc n e0 f0 146 #[X (U ⟨l,0,V⟩)] (O0 l f g*G) m (fun args w=>enters func146 (by kernel_rfl) rfl args w) (IU jX hj l) d o w S F h;have b0:=ae c0;have y:=(h.alloc (Y #[X (U ⟨d,0,V⟩),Z H (n:Int)] 72 (0,0))).alloc (Y #[.func (.func f) #[] g] 138 (0,0));have dA:=((aj.refl w).alloc (Y #[X (U ⟨d,0,V⟩),Z H (n:Int)] 72 (0,0))).alloc (Y #[.func (.func f) #[] g] 138 (0,0));simp only [L3] at y;clear hQ c0 hj h jX;unfold fV
 go_enter func83,ntmps83
 go_wp2_with fail
 have hB:ag ((w.alloc (Y #[X (U ⟨d,0,V⟩),Z H (n:Int)] 72 (0,0))).alloc (Y #[.func (.func f) #[] g] 138 (0,0)))
   (cI c S d o*(ak S*(O0 (w.heap.size+1) f g*G*(pt w.heap.size (Y #[X (U ⟨d,0,V⟩),Z H (n:Int)] 72 (0,0))*F)))):=y.to (by unfold O0;ac_rfl)
 refine b0.out (w.heap.size+1) _ _ hB _ ?_;clear y hB b0;generalize (w.alloc (Y #[X (U ⟨d,0,V⟩),Z H (n:Int)] 72 (0,0))).alloc (Y #[.func (.func f) #[] g] 138 (0,0))=w1 at *;generalize w.heap.size+1=l at *;generalize w.heap.size=sp at *;have C:=ae (fun e i=>P.out e i);clear P;obtain ⟨⟨d0,t⟩,A⟩:∃ p,ed m o=p:=⟨_,rfl⟩
 rw [A];have E:RowKit.Hid (∀ e i,OF c d S (G*F) w (d0,t) e i->u e i):=fun e i h=>C.out e i (by rw [A];exact h);clear C A
 cases d0 with
 | bad cN=>
  rintro e B ⟨j,z,x,rfl,q⟩;have r:=ae (q.to (by ac_rfl:_=(cI c j d t*(ak j*(G*F)))*(O0 l f g*pt sp (Y #[X (U ⟨d,0,V⟩),Z H (n:Int)] 72 (0,0)))));clear q
  go_wp2_with (refine wpList_store_mid (by exact rfl) 202 (.tmp 5) (.tmp 11) (by exact rfl) B.heap.size 0 #[] (by exact rfl) (by exact rfl) (by exact fun g0 h=>absurd h (N2 _)) (by exact eh) (by exact rfl) ?_)
  exact E.out _ _ ⟨j,z,(dA.trans x).alloc _,rfl,(r.out.alloc _).right.left⟩
 | ok i0=>
  rintro e B ⟨j,v,z,x,rfl,q⟩;obtain ⟨rfl,h3⟩:=ag.aq.1 q;have r:=ae (h3.to (by ac_rfl:_=(cI c j d t*(ak j*(G*F)))*(O0 l f g*pt sp (Y #[X (U ⟨d,0,V⟩),Z H (n:Int)] 72 (0,0)))));clear q h3
  go_wp2_with (refine wpList_store_mid (by exact rfl) 202 (.tmp 5) (.tmp 11) (by exact rfl) B.heap.size 0 #[] (by exact rfl) (by exact rfl) (by exact fun g0 h=>absurd h (N2 _)) (by exact eh) (by exact rfl) ?_)
  exact E.out _ _ ⟨j,z,(dA.trans x).alloc _,rfl,(r.out.alloc _).right.left⟩
end
end Go.Proofs.Fs
namespace Go.SL
open RowKit
section
variable {σ:Type}
def dz (id:Nat) (d:Int):Hd:=⟨id,⟨d,1,0,J2 16 0,0⟩,J2 240 0⟩
def GL (d:Int) (id:Nat):WM σ Nat:=WM.bind (ez (dz id d)) fun _=>WM.pure id
def xH (ask:cO σ) (n:Nat) (d:Int):WM σ Nat:=fun st=>if d=1\/d=2 then (WM.bind (iZ ask n) (GL d)) st else (.bad 1,st)
end
end Go.SL
namespace Go.Proofs.Fs
open RowKit SL Proofs.Ba
section
variable {σ α:Type}
def bp (b:Nat) (z:Int):ai:=pt b (Y #[Z H z] 3 (0,0))
theorem pk (id:Nat) (d:Int):(dz id d).fit:=⟨rfl,rfl⟩
theorem Qt {c:Cx σ} (hc:c.Ok) {n:Nat} (hn:n<=3840) (d:Int) (f:Nat):DE c n 128 #[X (U ⟨f,0,V⟩)] FQ (bp f d) (xH c.ask n d):=by
 intro x w S st F q0 r0 h;subst q0 r0;have ck:w.cell? ⟨f,0,V⟩=U (Z H d):=(h.to (by ac_rfl:_=bp f d*(aG x S st*(ak S*F)))).cell 0;show Calls Q 128 #[X (U ⟨x.k,0,V⟩),X (U ⟨f,0,V⟩)] w _
 by_cases z:d=1\/d=2
 .have C:=oL x hc hn w S st _ h
  have y:xH x.c.ask x.n d st=(WM.bind (iZ x.c.ask x.n) (GL d)) st:=if_pos z;rw [y];obtain ⟨⟨r,t⟩,i⟩:∃ p,iZ x.c.ask x.n st=p:=⟨_,rfl⟩
  rw [i] at C;clear y h
  cases r with
  | bad cN=>
   rw [WM.bk i];clear i;rcases z with rfl|rfl
   all_goals
    go_enter func128,ntmps128
    go_wp2_with fail
    (with_reducible refine (gO w).mono ?_)
    rintro e g ⟨rfl,rfl⟩
    go_wp2_with fail
    (with_reducible refine C.mono ?_)
    rintro e g ⟨j,A,E,rfl,u⟩
    go_wp2_with fail
    exact ⟨rfl,j,A,E,rfl,u⟩
  | ok id=>
   rw [WM.bd i];clear i;have B:=qM (id:Int) (dz id d).n (pk id d).1;have m0:=ae B;obtain ⟨q,b0⟩:∃ o0,o0=ints ((id:Int) :: ((dz id d).n.l++J2 240 0)):=⟨_,rfl⟩
   rw [<- b0] at B;have h0:q=ints (dz id d).l:=b0;have l0:=ae h0;clear m0 b0 h0
   have i0:∀ p,ez (dz id d) t=p->∀ r o,p=(r,o)->GL d id t=(match r with | .ok _=>.ok id | .bad c=>.bad c,o):=by
    intro p i r o he;subst he
    cases r with
    | ok s0=>exact WM.bd i
    | bad c=>exact WM.bk i
   obtain ⟨⟨r2,o⟩,d0⟩:∃ p,ez (dz id d) t=p:=⟨_,rfl⟩
   have g0:=i0 _ d0 r2 o rfl;rw [g0];have e0:=fun w S hb F h p0 hQ=>Dt x w S t hb (dz id d) F h p0 hQ;rw [d0] at e0;have f0:=ae e0;have k0:=pk id d;have n0:=ae k0;clear i0 g0 d0 e0 k0;rcases z with rfl|rfl
   all_goals
    have Hb:=ae B;clear B
    go_enter func128,ntmps128
    go_wp2_with fail
    (with_reducible refine (gO w).mono ?_)
    rintro e g ⟨rfl,rfl⟩
    go_wp2_with fail
    (with_reducible refine C.mono ?_)
    rintro e g ⟨j,v,A,E,rfl,u⟩;obtain ⟨rfl,P⟩:=ag.aq.1 u;have u0:g.cell? ⟨f,0,V⟩=U _:=(P.to (by ac_rfl:_=bp f _*(aG x j t*(ak j*F)))).cell 0;clear ck;have h4:=P.alloc (Y q 136 (0,0));have h5:ag (g.alloc (Y q 136 (0,0))) (aR g.heap.size (dz id _)*(aG x j t*(ak j*(bp f _*F)))):=ag.held.2 ⟨n0.out,by rw [l0.out] at h4 ⊢;exact h4⟩;have D5:=E.alloc (Y q 136 (0,0));have H5:=ae h5;clear u P h4 h5 C
    go_wp2_with (refine gU (by exact rfl) 136 #[(0,.tmp 15),(1,.tmp 17)] (by exact rfl) _ (by exact rfl) q (by exact Hb.out) ?_)
    refine f0.out _ j _ _ H5.out _ ?_;clear H5 f0;generalize g.alloc (Y q 136 (0,0))=w3 at *
    cases r2 with
    | bad cN=>
     rintro e w4 ⟨l,c0,G,rfl,h6⟩
     go_wp2_with fail
     exact ⟨rfl,l,A.trans c0,D5.trans G,rfl,(h6.to (by ac_rfl:_=aR g.heap.size (dz id _)*(aG x l o*(ak l*(bp f _*F))))).right⟩
    | ok s0=>
     rintro e w4 ⟨l,v4,c0,G,rfl,h6⟩;obtain ⟨rfl,h7⟩:=ag.aq.1 h6
     go_wp2_with fail
     go_ret
     exact ⟨l,_,A.trans c0,D5.trans G,rfl,ag.aq.2 ⟨rfl,(h7.to (by ac_rfl:_=aR g.heap.size (dz id _)*(aG x l o*(ak l*(bp f _*F))))).right⟩⟩
 .have y:xH x.c.ask x.n d st=(.bad 1,st):=if_neg z
  rw [y];have h1:(d == 1)=N:=by simp;omega
  have u:(d == 2)=N:=by simp;omega
  clear y z
  go_enter func128,ntmps128
  go_wp2_with fail
  (with_reducible refine (gX w).mono ?_)
  rintro e g ⟨rfl,rfl⟩
  go_wp2_with fail
  exact ⟨rfl,S,Ext.refl S,aj.refl w,rfl,h⟩
end
end Go.Proofs.Fs
namespace Go.SL
open RowKit
section
variable {σ α β:Type}
def Hd.pV (h:Hd) (z:Int):Hd:={ h with n:={ h.n with lk:=z } }
def uW (h:Hd) (z:Int):WM σ Unit:=fun st=>if 0<=z/\z<=65535 then ez (h.pV z) st else (.bad 1,st)
def lD (ask:cO σ) (n:Nat) (node d:Int):WM σ Unit:=WM.bind (gv ask n node) fun h=>uW h (wrap64 (h.n.lk+d))
def qR (ask:cO σ) (n:Nat) (node:Int):WM σ Nd:=WM.bind (gv ask n node) fun h=>WM.pure h.n
def qe (ask:cO σ) (n:Nat):WM σ Nat:=WM.bind (jF ask) fun l=>WM.pure (n-(dx l n).length)
theorem Hd.Jg {h:Hd} (d:h.fit) (z:Int):(h.pV z).fit:=d
end
end Go.SL
namespace Go.Proofs.Fs
open RowKit SL Proofs.Ba
section
variable {σ α:Type}
theorem km (x:Wk σ) (d:x.c.Ok) (w:O) (S:Hp) (st:eP σ) (id:Int) (F:ai) (h:ag w (aG x S st*(ak S*F))) :
  Calls Q 85 #[X (U ⟨x.k,0,V⟩),Z H id] w (WQ x qi S F w (gv x.c.ask x.n id st)):=
 xu x d w S st id F h _ fun _ _ h=>h
theorem kn (x:Wk σ) (w:O) (S:Hp) (st:eP σ) (d:Nat) (h:Hd) (F:ai) (hs:ag w (aR d h*(aG x S st*(ak S*F)))) :
  Calls Q 87 #[X (U ⟨x.k,0,V⟩),X (U ⟨d,0,V⟩)] w (WQ x jA S (aR d h*F) w (ez h st)):=
 Dt x w S st d h F hs _ fun _ _ h=>h
theorem ag.qi {w:O} {h:Hd} {v:M} {F:ai} (hs:ag w (qi h v*F)):∃ d,v = X (U ⟨d,0,V⟩)/\ag w (aR d h*F):=by
 obtain ⟨d,e⟩:=ag.aw.1 hs;obtain ⟨f,g⟩:=ag.aq.1 (e.to (ax _ _ _));exact ⟨d,f,g⟩
theorem di {w:O} {d:Nat} {h:Hd} {F:ai} (hs:ag w (aR d h*F)) {j:Nat} (g:j<261):w.cell? ⟨d,j,V⟩=U (Z H (h.l.getD j 0))/\w.frozen? ⟨d,j,V⟩=N:=by
 obtain ⟨f,e⟩:=ag.held.1 hs;exact ⟨by rw [e.cell,bL (by rw [Hd.wb f];exact g)],e.frozen j⟩
theorem kM {w:O} {d:Nat} {h h':Hd} {F:ai} (hs:ag w (aR d h*F)) {j:Nat} {z:Int} (f:h'.fit) (g:h'.l=h.l.set j z):ag (w.setCell ⟨d,j,V⟩ (Z H z)) (aR d h'*F):=by
 obtain ⟨_,e⟩:=ag.held.1 hs;refine ag.held.2 ⟨f,?_⟩;have:=e.setCell j (Z H z);rw [gM] at this;rw [g];exact this
theorem ag.Aq {w:O} {d:Nat} {h:Hd} {F:ai} (hs:ag w (aR d h*F)):h.fit:=(ag.held.1 hs).1
theorem Kc {c:Cx σ} (hc:c.Ok) {n:Nat} (node d:Int) (i g:Nat):DE c n 84 #[X (U ⟨i,0,V⟩),X (U ⟨g,0,V⟩)] jA (bp i node*bp g d) (lD c.ask n node d):=by
 intro x w b0 st F l0 m0 h;subst l0 m0;have cn:w.cell? ⟨i,0,V⟩=U (Z H node):=(h.to (by ac_rfl:_=bp i node*(bp g d*(aG x b0 st*(ak b0*F))))).cell 0;show Calls Q 84 #[X (U ⟨x.k,0,V⟩),X (U ⟨i,0,V⟩),X (U ⟨g,0,V⟩)] w _
 have P:=km x hc w b0 st node _ h;obtain ⟨⟨o0,o⟩,y⟩:∃ p,gv x.c.ask x.n node st=p:=⟨_,rfl⟩
 rw [y] at P
 cases o0 with
 | bad cN=>
  have u:lD x.c.ask x.n node d st=(.bad cN,o):=WM.bk y;rw [u];clear u y h
  go_enter func84,ntmps84
  go_wp2_with fail
  (with_reducible refine P.mono ?_)
  rintro e w2 ⟨j,r,C,rfl,E⟩
  go_wp2_with fail
  exact ⟨rfl,j,r,C,rfl,E⟩
 | ok f=>
  have u:lD x.c.ask x.n node d st=uW f (wrap64 (f.n.lk+d)) o:=WM.bd y;rw [u];clear u y h;obtain ⟨z,hz⟩:∃ z,wrap64 (f.n.lk+d)=z:=⟨_,rfl⟩
  rw [hz];have h0:f.l.getD 2 0=f.n.lk:=rfl;have Hz:=ae hz;obtain ⟨r2,e0⟩:∃ p,uW f z o=p:=⟨_,rfl⟩
  rw [e0];have B:=ae e0;clear hz e0
  go_enter func84,ntmps84
  go_wp2_with fail
  (with_reducible refine P.mono ?_)
  rintro e w2 ⟨j,v,r,C,rfl,E⟩;obtain ⟨t,rfl,G⟩:=ag.qi E;have d0:=(di G (j:=2) (by decide)).1;rw [h0] at d0;have cd:w2.cell? ⟨g,0,V⟩=U (Z H d):=(G.to (by ac_rfl:_=bp g d*(bp i node*(aR t f*(aG x j o*(ak j*F)))))).cell 0;clear P E cn h0
  go_wp2_with fail
  go_region_held3 (fun w'=>w'.cell? ⟨t,2,V⟩=U (Z H f.n.lk)/\w'.cell? ⟨g,0,V⟩=U (Z H d)) (first|exact ⟨d0,cd⟩|go_keep) (fail)
  rename_i k0;have q:=ae G.drew;have D2:=ae C.drew;clear k0 G C d0 cd;rw [show IntKind.i64.wrap (f.n.lk+d)=z from by rw [<- Hz.out,IntKind.wrap_i64];unfold wrap64;omega];generalize w2.drew=w3 at *
  by_cases A:0<=z/\z<=65535
  .have S:ez (f.pV z) o=r2:=by rw [<- B.out];exact (if_pos A).symm
   have g2:=(di q.out (j:=2) (by decide)).1;have f2:=(di q.out (j:=2) (by decide)).2;have h4:=kM (h':=f.pV z) q.out (j:=2) (z:=z) (Hd.Jg (ag.Aq q.out) z) rfl;have f0:=kn x _ j o t (f.pV z) _ h4;rw [S] at f0;have g0:=ae f0;have D4:=ae (D2.out.setCell ⟨t,2,V⟩ (Z H z));obtain ⟨z1,z2⟩:=A;clear h4 f0 S B;generalize f.l.getD 2 0=r0 at *;obtain ⟨r3,i0⟩:=r2
   go_wp2_with fail
   (with_reducible refine (gO w3).mono ?_)
   rintro e w4 ⟨rfl,rfl⟩
   cases r3 with
   | bad cN=>
    go_wp2_with fail
    refine g0.out.mono ?_;rintro e w5 ⟨l,c0,d5,rfl,h6⟩
    go_wp2_with fail
    exact ⟨rfl,l,r.trans c0,D4.out.trans d5,rfl,(h6.to (by ac_rfl:_=aR t (f.pV z)*(aG x l i0*(ak l*(bp i node*bp g d*F))))).right⟩
   | ok q0=>
    go_wp2_with fail
    refine g0.out.mono ?_;rintro e w5 ⟨l,v5,c0,d5,rfl,h6⟩;obtain ⟨rfl,h7⟩:=ag.aq.1 h6
    go_wp2_with fail
    go_end0
    exact ⟨l,_,r.trans c0,D4.out.trans d5,rfl,ag.aq.2 ⟨rfl,(h7.to (by ac_rfl:_=aR t (f.pV z)*(aG x l i0*(ak l*(bp i node*bp g d*F))))).right⟩⟩
  .have S:r2=(.bad 1,o):=by rw [<- B.out];exact if_neg A
   subst S;clear B
   by_cases p0:0<=z
   .have n0:decide (z<=65535)=N:=decide_eq_false (by omega)
    clear A
    go_wp2_with fail
    (with_reducible refine (gX w3).mono ?_)
    rintro e w4 ⟨rfl,rfl⟩
    go_wp2_with fail
    exact ⟨rfl,j,r,D2.out,rfl,q.out.right⟩
   .have n0:z<0:=by omega
    clear A
    go_wp2_with fail
    (with_reducible refine (gX w3).mono ?_)
    rintro e w4 ⟨rfl,rfl⟩
    go_wp2_with fail
    exact ⟨rfl,j,r,D2.out,rfl,q.out.right⟩
theorem uC {w:O} {e:Array M} {a:Nat} {d:Array M} {F:ai} (f:e[3]?=U (az a)) (i:ag w (pt a (Y d 65 (0,0))*F)) (g:d.size=20) :
  (results Tryz.f159 e).run Q w = .ok (.agg d) w:=by
 have j:=run_loadVar_row (P:=Q) w a 65 65 d (0,0) _ i.heap underlying65 rfl (by rw [g];exact bF);simp [results,Tryz.results159,f,asAddr,j]
theorem NW {c:Cx σ} (hc:c.Ok) {n:Nat} (node:Int) (g:Nat):DE c n 159 #[X (U ⟨g,0,V⟩)] De (bp g node) (qR c.ask n node):=by
 intro x w S st F l0 m0 h;subst l0 m0;show Calls Q 159 #[X (U ⟨x.k,0,V⟩),X (U ⟨g,0,V⟩)] w _
 have u:=h.alloc (Y #[Z H 0,Z H 0,Z H 0,Z H 0,Z H 0,Z H 0,Z H 0,Z H 0,Z H 0,Z H 0,Z H 0,Z H 0,Z H 0,Z H 0,Z H 0,Z H 0,Z H 0,Z H 0,Z H 0,Z H 0] 65 (0,0));have B:=(aj.refl w).alloc (Y #[Z H 0,Z H 0,Z H 0,Z H 0,Z H 0,Z H 0,Z H 0,Z H 0,Z H 0,Z H 0,Z H 0,Z H 0,Z H 0,Z H 0,Z H 0,Z H 0,Z H 0,Z H 0,Z H 0,Z H 0] 65 (0,0));have e:=u.to (by ac_rfl:_=aG x S st*(ak S*(bp g node*(pt w.heap.size (Y #[Z H 0,Z H 0,Z H 0,Z H 0,Z H 0,Z H 0,Z H 0,Z H 0,Z H 0,Z H 0,Z H 0,Z H 0,Z H 0,Z H 0,Z H 0,Z H 0,Z H 0,Z H 0,Z H 0,Z H 0] 65 (0,0))*F))));have cn:(w.alloc (Y #[Z H 0,Z H 0,Z H 0,Z H 0,Z H 0,Z H 0,Z H 0,Z H 0,Z H 0,Z H 0,Z H 0,Z H 0,Z H 0,Z H 0,Z H 0,Z H 0,Z H 0,Z H 0,Z H 0,Z H 0] 65 (0,0))).cell? ⟨g,0,V⟩=U (Z H node):=e.au.cell 0;have t:=km x hc _ S st node _ e;obtain ⟨⟨n0,o⟩,l⟩:∃ p,gv x.c.ask x.n node st=p:=⟨_,rfl⟩
 rw [l] at t;have hz:=ae u.heap;clear u e h
 cases n0 with
 | bad cN=>
  have i:qR x.c.ask x.n node st=(.bad cN,o):=WM.bk l;rw [i];clear i l
  go_enter func159,ntmps159
  go_wp2_with fail
  (with_reducible refine t.mono ?_)
  rintro i0 w2 ⟨f,z,q,rfl,e⟩
  go_wp2_with fail
  exact ⟨rfl,f,z,B.trans q,rfl,(e.to (by ac_rfl:_=pt w.heap.size (Y #[Z H 0,Z H 0,Z H 0,Z H 0,Z H 0,Z H 0,Z H 0,Z H 0,Z H 0,Z H 0,Z H 0,Z H 0,Z H 0,Z H 0,Z H 0,Z H 0,Z H 0,Z H 0,Z H 0,Z H 0] 65 (0,0))*(aG x f o*(ak f*(bp g node*F))))).right⟩
 | ok d=>
  have i:qR x.c.ask x.n node st=(.ok d.n,o):=WM.bd l;rw [i];clear i l
  go_enter func159,ntmps159
  go_wp2_with fail
  (with_reducible refine t.mono ?_)
  rintro i0 w2 ⟨f,v,z,q,rfl,e⟩;obtain ⟨P,rfl,r⟩:=ag.qi e;have j:=ag.Aq r;have k0:=ae (tq j (ag.held.1 r).2);have b0:(prog.info? 65).map (·.size)=U (d.n.l.map (E2 H)).length:=by rw [O2,Nd.cells j.1];exact bF
  have A:(d.n.l.map (E2 H)).toArray.size=20:=by simp [Nd.cells j.1]
  have c0:(prog.info? 65).map (·.size)=U (d.n.l.map (E2 H)).toArray.size:=by rw [A];exact bF
  have d0:(d.n.l.map (E2 H)).toArray.all (·.oneCell')=L:=by simp [Z3]
  have y:ag w2 (pt w.heap.size (Y #[Z H 0,Z H 0,Z H 0,Z H 0,Z H 0,Z H 0,Z H 0,Z H 0,Z H 0,Z H 0,Z H 0,Z H 0,Z H 0,Z H 0,Z H 0,Z H 0,Z H 0,Z H 0,Z H 0,Z H 0] 65 (0,0))*(aR P d*(aG x f o*(ak f*(bp g node*F))))):=r.to (by ac_rfl);have h0:=ae y.heap;have G:=y.setRow (cs':=(d.n.l.map (E2 H)).toArray);have D5:=ae ((B.trans q).setRow w.heap.size (d.n.l.map (E2 H)).toArray);have C:=ae G;have e0:=ae b0;have f0:=ae c0;have g0:=ae d0;have E:=ae A;have Hf:=ae j;clear e r y G b0 c0 d0 j t hz cn q A
  go_wp2_with (first
   | (refine wpList_load_mid (by exact rfl) 65 (.tmp 8) (by exact rfl) P 1 (by exact rfl) (d.n.l.map (E2 H)) _ (by with_reducible exact k0.out) underlying65 rfl (by with_reducible exact e0.out) ?_)
   | (refine wpList_store_row (by exact rfl) 65 (.tmp 3) (.tmp 9) (by exact rfl) w.heap.size (d.n.l.map (E2 H)).toArray (by exact rfl) (by exact rfl) 65 #[Z H 0,Z H 0,Z H 0,Z H 0,Z H 0,Z H 0,Z H 0,Z H 0,Z H 0,Z H 0,Z H 0,Z H 0,Z H 0,Z H 0,Z H 0,Z H 0,Z H 0,Z H 0,Z H 0,Z H 0] (by with_reducible exact h0.out) f0.out (by rw [E.out];rfl) g0.out ?_))
  exact bodyPost_ret (uC rfl C.out E.out) rfl ⟨f,_,z,D5.out,rfl,ag.aq.2 ⟨⟨rfl,Hf.out.1⟩,C.out.right.right⟩⟩
end
end Go.Proofs.Fs
namespace Go.SL
open RowKit
section
variable {σ:Type}
def jy (ask:cO σ):WM σ Unit:=fun st=>(WM.bind (cM ask 0 L) fun _=>WM.bind (cM ask 1 L) fun _=>ez (dz 1 2)) { st with bits:=U (zs 480) }
def Hd.iB (h:Hd):List Int:=h.n.dr++h.row
theorem Hd.jV {h:Hd} (d:h.fit):h.iB.length=256:=by simp [Hd.iB,d.1,d.2]
theorem Hd.xw {h:Hd} (d:h.fit) (i:Nat):h.aO i=h.iB.getD i 0:=by
 unfold Hd.aO Hd.iB
 split
 .rename_i e;rw [K2,K2,P3 (by rw [d.1];exact e)]
 .rename_i e;rw [K2,K2,W3 (by rw [d.1];omega),d.1]
end
end Go.SL
namespace Go.Proofs.Fs
open RowKit SL Proofs.Ba
section
variable {σ α:Type}
theorem Ot {c:Cx σ} (hc:c.Ok) {n:Nat} (hn:n<=3840):DE c n 99 #[] FQ emp (qe c.ask n):=by
 intro x w b0 st F d0 e0 h;subst d0 e0;show Calls Q 99 #[X (U ⟨x.k,0,V⟩)] w _
 have A:w.cell? ⟨x.k,1,V⟩=U (Z H (x.n:Int)):=wo h;have u:=fun (w:O) h=>qI x hc w b0 st (emp*F) h;obtain ⟨⟨f0,f⟩,g⟩:∃ p,jF x.c.ask st=p:=⟨_,rfl⟩
 rw [g] at u
 cases f0 with
 | bad cN=>
  have i:qe x.c.ask x.n st=(.bad cN,f):=WM.bk g;rw [i];clear i g
  go_enter func99,ntmps99
  go_wp2_with fail
  refine wp_region_held_drew (S:=(fun y=>y.cell? ⟨x.k,1,V⟩=U (Z H (x.n:Int)))) (by kernel_rfl) ?_ (fun h0=>?_)
  ·(first|exact A|go_keep)
  refine tk 0 ?_;refine tk 1 ?_;refine tk 2 ?_;refine tk 3 ?_;refine tk 4 ?_;refine tk 6 ?_;refine tk 7 ?_;refine tk 8 ?_;refine tk 9 ?_;refine tr 5 fun g0 hK=>?_
  go_simp
  go_wp2_with (go_at_call 101;refine (u w.drew h.drew).mono ?_;rintro e z ⟨d,r,q,rfl,j⟩)
  exact ⟨rfl,d,r,(aj.refl w).drew.trans q,rfl,j⟩
 | ok l=>
  have i:qe x.c.ask x.n st=(.ok (x.n-(dx l x.n).length),f):=WM.bd g;have C:=(Dp g (bitsLen h)).1;have S:=ae C;rw [i];have P:=qj l x.n;have E:=fun w v F h o=>HU w v l F h o x.n hn;have hN:(x.n:Int)<=3840:=by omega
  have i0:0<=(x.n:Int):=by omega
  have c0:(x.n:Int)-((dx l x.n).length:Int)=((x.n-(dx l x.n).length:Nat):Int):=by omega
  obtain ⟨t,G⟩:∃ t,(dx l x.n).length=t:=⟨_,rfl⟩
  rw [G] at P E c0 ⊢;have k0:0<=(t:Int):=by omega
  have l0:(t:Int)<=(x.n:Int):=by omega
  clear i g C G P
  go_enter func99,ntmps99
  go_wp2_with fail
  go_region_held3 (fun y=>y.cell? ⟨x.k,1,V⟩=U (Z H (x.n:Int)))
   (first|exact A|exact k1|exact k2|go_keep)
   (first
    | (go_at_call 101;refine (u w.drew h.drew).mono ?_;rintro e z ⟨d,v,r,q,rfl,o,j⟩;have k1:z.cell? ⟨x.k,1,V⟩=U (Z H (x.n:Int)):=(j.to (by unfold bH;ac_rfl:_=pt x.k (Y (x.cells v f.dt) 149 (0,0))*(cI x.c d x.b f.b*(bs 5 v l*(ak d*(emp*F)))))).cell 1)
    | (go_at_call 100;refine (E z v (bH x v d f*(ak d*(emp*F))) (j.to (by ac_rfl)) o).mono ?_;rintro e w2 ⟨rfl,B,d2⟩;have k2:w2.cell? ⟨x.k,1,V⟩=U (Z H (x.n:Int)):=(B.to (by unfold bH;ac_rfl:_=pt x.k (Y (x.cells v f.dt) 149 (0,0))*(cI x.c d x.b f.b*(bs 5 v l*(ak d*(emp*F)))))).cell 1))
  all_goals
   go_wp2_with fail
   go_ret
   refine ⟨d,_,r,((aj.refl w).drew.trans q).trans d2,rfl,ag.aq.2 ⟨?_,ag.iG v ?_⟩⟩
   .show E2 H _=E2 H _;congr 1;rw [IntKind.wrap_i64];omega
   .rw [S.out];exact (ag.oA o B).to (by ac_rfl)
theorem aH {P:Program} {f:FuncId} {args:Array M} {w:O} {d:Ending->O->Prop} (h:∀ g:Ending->O->Prop,RowKit.Hid (∀ e w',d e w'->g e w')->Calls P f args w g):Calls P f args w d:=h d (fun _ _ h=>h)
theorem EC {c:Cx σ} (hc:c.Ok) {n:Nat}:DE c n 124 #[] jA emp (jy c.ask):=by
 intro x w S st F N0 R0 h;subst N0 R0;show Calls Q 124 #[X (U ⟨x.k,0,V⟩)] w _
 refine aH fun S0 P=>?_;obtain ⟨v0,h1⟩:=ag.fG h;have D0:=OD w;obtain ⟨LP,hA⟩:∃ LP,LP=({ st with bits:=U (zs 480) }:eP σ):=⟨_,rfl⟩
 have d:jy x.c.ask st=(WM.bind (cM x.c.ask 0 L) fun _=>WM.bind (cM x.c.ask 1 L) fun _=>ez (dz 1 2)) LP:=by rw [hA];rfl
 have o0:=ae d;have HA:=ae hA;have i0:=qM 1 (dz 1 2).n (pk 1 2).1;obtain ⟨u,g0⟩:∃ K0,K0=ints ((1:Int) :: ((dz 1 2).n.l++J2 240 0)):=⟨_,rfl⟩
 rw [<- g0] at i0;have H0:=ae (show u=ints (dz 1 2).l from g0);have Hb:=ae i0;have x0:(zs 480).length=480:=bq 480;have q0:=ae x0;clear i0 g0 d hA h x0;generalize zs 480=d0 at *;obtain ⟨⟨r1,f⟩,A⟩:∃ p,cM x.c.ask 0 L LP=p:=⟨_,rfl⟩
 have k0:∀ (w:O) (S:Hp) (F:ai),ag w (aG x S LP*(ak S*F))->Calls Q 90 #[X (U ⟨x.k,0,V⟩),Z H 0,J L] w (WQ x jA S F w (cM x.c.ask 0 L LP)):=fun w S F h=>vR x hc w S LP 0 L F (by decide) h;rw [A] at k0
 go_enter func124,ntmps124
 go_wp2_with fail
 (with_reducible refine D0.mono ?_)
 rintro e w2 ⟨v,rfl,h2,d2⟩;have z:=h2.under h1;obtain ⟨j,o,rfl⟩:=aF z;rw [q0.out] at z ⊢;have h4:ag w2 (pt x.k (Y (x.cells v0 st.dt) 149 (0,0))*(cI x.c S x.b st.b*(bs 5 (R j 480 o) d0*(ak S*(emp*F))))):=(z.to (by unfold bH;ac_rfl:_=cF st.bits v0*(pt x.k (Y (x.cells v0 st.dt) 149 (0,0))*(cI x.c S x.b st.b*(bs 5 (R j 480 o) d0*(ak S*(emp*F))))))).right
 obtain ⟨v1,n1,k1,rfl⟩:∃ a n c,v0 = R a n c:=by
  rcases ag.oW (z.to (by ac_rfl:_=cF st.bits v0*(bs 5 (R j 480 o) d0*(bH x v0 S st*(ak S*(emp*F)))))) with ⟨_,rfl,_⟩|⟨l,_,_,hx⟩
  .exact ⟨_,_,_,rfl⟩
  .obtain ⟨a,b,e⟩:=aF hx;exact ⟨_,_,_,e⟩
 have g2:w2.cell? ⟨x.k,2,V⟩=U (R v1 n1 k1):=h4.cell 2;have f2:w2.frozen? ⟨x.k,2,V⟩=N:=h4.frozen 2;have h5:=h4.setCell 2 (R j 480 o);have G:=d2.setCell ⟨x.k,2,V⟩ (R j 480 o)
 have h6:ag (w2.setCell ⟨x.k,2,V⟩ (R j 480 o)) (aG x S LP*(ak S*(emp*F))):=by
  rw [HA.out];refine ag.iG (R j 480 o) ?_;have g:=ag.oA q0.out h5.au;exact g.to (by unfold bH Wk.cells;simp only [J4,T3,K4];ac_rfl)
 have hm:=k0 _ S _ h6;clear D0 h1 h2 z h4 h5 h6 k0
 cases r1 with
 | bad cN=>
  have d:(WM.bind (cM x.c.ask 0 L) fun _=>WM.bind (cM x.c.ask 1 L) fun _=>ez (dz 1 2)) LP=(.bad cN,f):=WM.bk A;have q:=ae (o0.out.trans d);clear d A
  go_wp2_with fail
  (with_reducible refine hm.mono ?_)
  rintro e w3 ⟨y,t,r,rfl,g⟩
  go_wp2_with fail
  exact ⟨rfl,P.out _ _ (by rw [q.out];exact ⟨y,t,G.trans r,rfl,g⟩)⟩
 | ok T0=>
  have d:(WM.bind (cM x.c.ask 0 L) fun _=>WM.bind (cM x.c.ask 1 L) fun _=>ez (dz 1 2)) LP=(WM.bind (cM x.c.ask 1 L) fun _=>ez (dz 1 2)) f:=WM.bd A;have p0:=ae (o0.out.trans d);clear d A;obtain ⟨⟨r2,C⟩,B⟩:∃ p,cM x.c.ask 1 L f=p:=⟨_,rfl⟩
  have c0:∀ (w:O) (S:Hp) (F:ai),ag w (aG x S f*(ak S*F))->Calls Q 90 #[X (U ⟨x.k,0,V⟩),Z H 1,J L] w (WQ x jA S F w (cM x.c.ask 1 L f)):=fun w S F h=>vR x hc w S f 1 L F (by decide) h;rw [B] at c0
  cases r2 with
  | bad cN=>
   have d:(WM.bind (cM x.c.ask 1 L) fun _=>ez (dz 1 2)) f=(.bad cN,C):=WM.bk B;have q:=ae (p0.out.trans d);clear d B
   go_wp2_with fail
   (with_reducible refine hm.mono ?_)
   rintro e w3 ⟨y,v3,t,r,rfl,g⟩;obtain ⟨rfl,h8⟩:=ag.aq.1 g
   go_wp2_with fail
   (with_reducible refine (c0 w3 y _ h8).mono ?_)
   rintro e E ⟨S2,b0,d4,rfl,h9⟩
   go_wp2_with fail
   exact ⟨rfl,P.out _ _ (by rw [q.out];exact ⟨S2,t.trans b0,(G.trans r).trans d4,rfl,h9⟩)⟩
  | ok u2=>
   have d:(WM.bind (cM x.c.ask 1 L) fun _=>ez (dz 1 2)) f=ez (dz 1 2) C:=WM.bd B;have G0:=ae (p0.out.trans d);clear d B;have m0:=fun w S hb F h=>kn x w S C hb (dz 1 2) F h;obtain ⟨⟨r3,F0⟩,l0⟩:∃ p,ez (dz 1 2) C=p:=⟨_,rfl⟩
   rw [l0] at m0;have q:=ae (G0.out.trans l0);have r0:=ae m0;clear l0 m0
   go_wp2_with fail
   (with_reducible refine hm.mono ?_)
   rintro e w3 ⟨y,v3,t,r,rfl,g⟩;obtain ⟨rfl,h8⟩:=ag.aq.1 g
   go_wp2_with fail
   (with_reducible refine (c0 w3 y _ h8).mono ?_)
   rintro e E ⟨S2,v4,b0,d4,rfl,h9⟩;obtain ⟨rfl,s0⟩:=ag.aq.1 h9;have e0:=s0.alloc (Y u 136 (0,0));have u0:ag (E.alloc (Y u 136 (0,0))) (aR E.heap.size (dz 1 2)*(aG x S2 C*(ak S2*(emp*F)))):=ag.held.2 ⟨pk 1 2,by rw [H0.out] at e0 ⊢;exact e0⟩;have n0:=ae (((G.trans r).trans d4).alloc (Y u 136 (0,0)));have HS:=ae (t.trans b0);have hs:=ae (r0.out _ _ _ _ u0);clear hm c0 g h8 h9 s0 e0 u0 r0 G r d4 t b0
   go_wp2_with (refine gU (by exact rfl) 136 #[(0,.const (Z H 1)),(1,.tmp 11)] (by exact rfl) _ (by exact rfl) u (by exact Hb.out) ?_)
   refine hs.out.mono ?_
   cases r3 with
   | bad cN=>
    rintro e w5 ⟨i,h0,d5,rfl,f0⟩
    go_wp2_with fail
    exact ⟨rfl,P.out _ _ (by rw [q.out];exact ⟨i,HS.out.trans h0,n0.out.trans d5,rfl,(f0.to (by ac_rfl:_=aR E.heap.size (dz 1 2)*(aG x i F0*(ak i*(emp*F))))).right⟩)⟩
   | ok u3=>
    rintro e w5 ⟨i,v5,h0,d5,rfl,f0⟩;obtain ⟨rfl,L0⟩:=ag.aq.1 f0
    go_wp2_with fail
    go_end0
    exact P.out _ _ (by rw [q.out];exact ⟨i,_,HS.out.trans h0,n0.out.trans d5,rfl,ag.aq.2 ⟨rfl,(L0.to (by ac_rfl:_=aR E.heap.size (dz 1 2)*(aG x i F0*(ak i*(emp*F))))).right⟩⟩)
end
end Go.Proofs.Fs
namespace Go.SL
open RowKit
section
variable {σ α β:Type}
theorem WM.nR {m:WM σ α} {k:α->WM σ β} {st st':eP σ} {b:β} (h:WM.bind m k st=(.ok b,st')):∃ a d,m st=(.ok a,d)/\k a d=(.ok b,st'):=by
 unfold WM.bind at h
 match hm:m st,h with
 | (.ok a,d),h=>exact ⟨a,d,rfl,h⟩
 | (.bad c,d),h=>cases h
structure Hd.Ur (n:Nat) (h:Hd):Prop where
 fit:h.fit
 ok:h.n.ok=true
 Xm:1<=h.id
 WN:h.id<n
 ze:0<=h.n.rw
 A6:h.n.rw<n
 pg:∀ p ∈ h.iB,0<=p/\p<n
theorem GQ {l:List Int} (h:l.all dq=L):∀ p ∈ l,0<=p/\p<3840:=fun p d=>jK (List.all_eq_true.1 h p d)
theorem tj {ask:cO σ} {n:Nat} {id:Int} {st st':eP σ} {h:Hd} (o:gv ask n id st=(.ok h,st')):h.Ur n:=by
 unfold gv at o
 split at o
 .rename_i h0
  obtain ⟨j,aS,h1,e⟩:=WM.nR o;unfold Tv at e
  split at e
  .rename_i v
   have q:(kV j).1.ok=L/\(kV j).1.dr.length=16:=by
    refine ⟨?_,Gj j⟩;unfold kV at v ⊢
    split at v
    .rename_i i;rw [if_pos i];simp only [Bool.and_eq_true] at i;exact i.1
    .cases v
   generalize (kV j).1=r at *;obtain ⟨q,G⟩:=q;have A:=Nd.rp q;have e0:=jK A.2.2.2.2.2.2.1
   have B:∀ row C,row.length=240->(∀ p ∈ row,0<=p)->(r.rw<n)->ja n id.toNat r row C=(.ok h,st')->h.Ur n:=by
    intro row C S d0 b0 P;obtain ⟨_,f0,f,u⟩:=WM.nR P;obtain ⟨_,g0,l,g⟩:=WM.nR u;simp only [WM.pure,Prod.mk.injEq,Rs.ok.injEq] at g;obtain ⟨rfl,rfl⟩:=g
    have t:r.dr.all (fun x=>decide (x<n))=L:=by
     unfold eS at f;split at f
     .assumption
     .cases f
    have E:row.all (fun x=>decide (x<n))=L:=by
     unfold eS at l;split at l
     .assumption
     .cases l
    refine ⟨⟨G,S⟩,q,by show 1<=id.toNat;omega,by show id.toNat<n;omega,e0.1,b0,fun p d=>?_⟩;rcases List.mem_append.1 d with d|d
    .exact ⟨(GQ A.2.2.2.2.2.1 p d).1,by simpa using List.all_eq_true.1 t p d⟩
    .exact ⟨d0 p d,by simpa using List.all_eq_true.1 E p d⟩
   unfold lJ at e
   split at e
   .rename_i hz
    exact B _ _ rfl (fun p d=>by rw [(List.mem_replicate.1 d).2];omega) (by rw [hz];omega) e
   .obtain ⟨_,f0,f,u⟩:=WM.nR e
    obtain ⟨z,g0,l,g⟩:=WM.nR u
    have t:[r.rw].all (fun x=>decide (x<n))=L:=by
     unfold eS at f;split at f
     .assumption
     .cases f
    unfold KP at g
    split at g
    .rename_i y
     have c0:(l7 z).1.all dq=L:=by
      unfold l7 at y ⊢
      split at y
      .rename_i i;rw [if_pos i];exact i
      .cases y
     exact B _ _ (Cj z) (fun p d=>(GQ c0 p d).1) (by simpa using t) g
    .cases g
  .cases e
 .cases o
def iQ (ask:cO σ):List Int->WM σ Unit
 | []=>WM.pure ()
 | p :: d=>fun st=>if p=0 then iQ ask d st else (WM.bind (cM ask p.toNat N) fun _=>iQ ask d) st
def Fz (ask:cO σ) (h:Hd):WM σ Unit:=fun st=>if h.n.rw=0 then cM ask h.id N st else (WM.bind (cM ask h.n.rw.toNat N) fun _=>cM ask h.id N) st
def qZ (ask:cO σ) (n:Nat) (node:Int):WM σ Unit:=WM.bind (gv ask n node) fun h=>WM.bind (iQ ask h.iB) fun _=>Fz ask h
def lE (ask:cO σ) (h:Hd) (k:Nat):WM σ Unit:=WM.bind (iQ ask (h.iB.drop k)) fun _=>Fz ask h
theorem Hd.mF {h:Hd} (d:h.fit) {k:Nat} (f:k<256):h.iB.drop k=h.aO k :: h.iB.drop (k+1):=by
 have e:k<h.iB.length:=by rw [Hd.jV d];exact f
 rw [List.drop_eq_getElem_cons e,Hd.xw d,K2,X3 e];rfl
theorem NO {ask:cO σ} {h:Hd} (f:h.fit) {k:Nat} (g:k<256) (d:h.aO k=0) (st:eP σ):lE ask h k st=lE ask h (k+1) st:=by
 have e:iQ ask (h.iB.drop k) st=iQ ask (h.iB.drop (k+1)) st:=by rw [Hd.mF f g];exact if_pos d
 unfold lE WM.bind;rw [e]
theorem Nr {ask:cO σ} {h:Hd} (g:h.fit) {k:Nat} (i:k<256) (f:h.aO k≠0) {st d:eP σ} {c:Int} (hm:cM ask (h.aO k).toNat N st=(.bad c,d)):lE ask h k st=(.bad c,d):=by
 have e:iQ ask (h.iB.drop k) st=(.bad c,d):=by rw [Hd.mF g i];exact (if_neg f).trans (WM.bk hm)
 exact WM.bk e
theorem MH {ask:cO σ} {h:Hd} (g:h.fit) {k:Nat} (i:k<256) (f:h.aO k≠0) {st d:eP σ} (hm:cM ask (h.aO k).toNat N st=(.ok (),d)):lE ask h k st=lE ask h (k+1) d:=by
 have e:iQ ask (h.iB.drop k) st=iQ ask (h.iB.drop (k+1)) d:=by rw [Hd.mF g i];exact (if_neg f).trans (WM.bd hm)
 unfold lE WM.bind;rw [e]
theorem Ml {ask:cO σ} {h:Hd} (d:h.fit) (st:eP σ):lE ask h 256 st=Fz ask h st:=by
 have e:iQ ask (h.iB.drop 256) st=(.ok (),st):=by rw [List.drop_of_length_le (by rw [Hd.jV d];exact Nat.le_refl _)];rfl
 exact WM.bd e
theorem Hd.Ur.aO {n:Nat} {h:Hd} (d:h.Ur n) {k:Nat} (f:k<256):0<=h.aO k/\h.aO k<n:=by
 have e:k<h.iB.length:=by rw [Hd.jV d.fit];exact f
 have:=d.pg _ (List.getElem_mem e);rw [Hd.xw d.fit,K2,X3 e];exact this
end
end Go.SL
namespace Go.Proofs.Fs
open RowKit SL Proofs.Ba
section
variable {σ α:Type}
theorem j7 (x:Wk σ) (e:x.c.Ok) (w:O) (S:Hp) (st:eP σ) (p:Int) (t:Bool) (F:ai) (d:0<=p) (f:p<3840) (h:ag w (aG x S st*(ak S*F))) :
  Calls Q 90 #[X (U ⟨x.k,0,V⟩),Z H p,J t] w (WQ x jA S F w (cM x.c.ask p.toNat t st)):=by
 have:=vR x e w S st p.toNat t F (by omega) h
 rwa [T4 d] at this
def Pa (x:Wk σ) (g:Nat) (e:Hd) (S:Hp) (F:ai) (w:O) (T:Rs Unit × eP σ) (u9:M) (wr:O):Prop:=
 ∃ (k:Nat) (f:eP σ) (d:Hp),k<=256/\u9 = Z H (k:Int)/\lE x.c.ask e k f=T/\Ext S d/\aj w wr/\ag wr (aG x d f*(ak d*(aR g e*F)))
theorem MB {c:Cx σ} (hc:c.Ok) {n:Nat} (hn:n<=3840) (node:Int) (i:Nat):DE c n 88 #[X (U ⟨i,0,V⟩)] jA (bp i node) (qZ c.ask n node):=by
 intro x w e0 st F s0 u0 h;subst s0 u0;have cn:w.cell? ⟨i,0,V⟩=U (Z H node):=(h.to (by ac_rfl:_=bp i node*(aG x e0 st*(ak e0*F)))).cell 0;show Calls Q 88 #[X (U ⟨x.k,0,V⟩),X (U ⟨i,0,V⟩)] w _
 refine aH fun D0 S=>?_;have hl:=km x hc w e0 st node _ h;obtain ⟨⟨x0,aS⟩,hp⟩:∃ p,gv x.c.ask x.n node st=p:=⟨_,rfl⟩
 rw [hp] at hl;clear h
 cases x0 with
 | bad cN=>
  have A:=ae (show qZ x.c.ask x.n node st=(.bad cN,aS) from WM.bk hp);clear hp
  go_enter func88,ntmps88
  go_wp2_with fail
  (with_reducible refine hl.mono ?_)
  rintro e w2 ⟨S',hS,d2,rfl,h2⟩
  go_wp2_with fail
  exact ⟨rfl,S.out _ _ (by rw [A.out];exact ⟨S',hS,d2,rfl,h2⟩)⟩
 | ok d=>
  have hI:=tj hp;have t:=ae hI;obtain ⟨T,hT⟩:∃ T,lE x.c.ask d 0 aS=T:=⟨_,rfl⟩
  have A:=ae (show qZ x.c.ask x.n node st=T from (WM.bd hp).trans hT);clear hp
  go_enter func88,ntmps88
  go_wp2_with fail
  (with_reducible refine hl.mono ?_)
  rintro e w2 ⟨S',v,hS,d2,rfl,h2⟩;obtain ⟨j,rfl,h3⟩:=ag.qi h2;have h4:ag w2 (aG x S' aS*(ak S'*(aR j d*(bp i node*F)))):=h3.to (by ac_rfl);have H4:=ae h4;have HT:=ae hT;clear h2 h3 hl cn hI hT h4
  go_wp2_with fail
  go_loopw [9] (fun u9 wr=>Pa x j d e0 (bp i node*F) w T u9 wr) (fun u9 _=>256-(intOf u9).toNat)
  case atStart=>exact ⟨0,aS,S',Nat.zero_le _,rfl,HT.out,hS,d2,H4.out⟩
  case round=>
   obtain ⟨k,y,Sk,hk,rfl,m0,l0,C,b0⟩:=hrel;have d0:=ae m0;have B:=ae l0;clear H4 HT m0 l0;have z:=b0.to (by ac_rfl:_=aR j d*(aG x Sk y*(ak Sk*(bp i node*F))))
   by_cases G:k<256
   .have G0:(k:Int)<256:=by omega
    have c0:=oD wr j d _ z k G;unfold MI at c0
    by_cases E:d.aO k=0
    .have l:=ae ((NO t.out.fit G E y).symm.trans d0.out)
     rw [E] at c0;clear E z
     go_wp2_with fail
     (with_reducible refine c0.mono ?_)
     rintro e w3 ⟨rfl,rfl⟩
     go_wp2_with fail
     go_roundw
     case rel=>exact ⟨k+1,y,Sk,by omega,by go_num,l.out,B.out,C,b0⟩
     case measure=>simp [intOf];omega
    .have h1:(d.aO k != 0)=L:=by simpa using E
     obtain ⟨p0,p1⟩:=t.out.aO G;have hm:=j7 x hc wr Sk y (d.aO k) N _ p0 (by omega) b0;obtain ⟨⟨r2,u⟩,g⟩:∃ p,cM x.c.ask (d.aO k).toNat N y=p:=⟨_,rfl⟩
     rw [g] at hm
     cases r2 with
     | bad cN=>
      have l:=ae ((Nr t.out.fit G E g).symm.trans d0.out);clear E g z p0 p1;generalize d.aO k=i0 at *
      go_wp2_with fail
      (with_reducible refine c0.mono ?_)
      rintro e w3 ⟨rfl,rfl⟩
      go_wp2_with fail
      (with_reducible refine hm.mono ?_)
      rintro e w4 ⟨f,r,o,rfl,q⟩
      go_wp2_with fail
      exact ⟨rfl,S.out _ _ (by rw [A.out,<- l.out];exact ⟨f,B.out.trans r,C.trans o,rfl,(q.to (by ac_rfl:_=aR j d*(aG x f u*(ak f*(bp i node*F))))).right⟩)⟩
     | ok o0=>
      have l:=ae ((MH t.out.fit G E g).symm.trans d0.out);clear E g z p0 p1;generalize d.aO k=i0 at *
      go_wp2_with fail
      (with_reducible refine c0.mono ?_)
      rintro e w3 ⟨rfl,rfl⟩
      go_wp2_with fail
      (with_reducible refine hm.mono ?_)
      rintro e w4 ⟨f,v4,r,o,rfl,q⟩;obtain ⟨rfl,h7⟩:=ag.aq.1 q
      go_wp2_with fail
      go_roundw
      case rel=>exact ⟨k+1,u,f,by omega,by go_num,l.out,B.out.trans r,C.trans o,h7⟩
      case measure=>simp [intOf];omega
   .obtain rfl:k=256:=by omega
    have HR:=ae ((Ml t.out.fit y).symm.trans d0.out);have r0:wr.cell? ⟨j,20,V⟩=U (Z H d.n.rw):=si t.out.fit (ag.held.1 z).2;have q0:wr.cell? ⟨j,0,V⟩=U (Z H (d.id:Int)):=zV (ag.held.1 z).2
    by_cases P:d.n.rw=0
    .have hm:=j7 x hc wr Sk y (d.id:Int) N _ (by omega) (by have:=t.out.WN;omega) b0
     rw [Int.toNat_natCast] at hm;obtain ⟨⟨r2,u⟩,g⟩:∃ p,cM x.c.ask d.id N y=p:=⟨_,rfl⟩
     rw [g] at hm;have l:=ae (HR.out.symm.trans ((if_pos P).trans g));rw [P] at r0;clear P g z G
     cases r2 with
     | bad cN=>
      go_wp2_with fail
      (with_reducible refine hm.mono ?_)
      rintro e w4 ⟨f,r,o,rfl,q⟩
      go_wp2_with fail
      exact ⟨rfl,S.out _ _ (by rw [A.out,l.out];exact ⟨f,B.out.trans r,C.trans o,rfl,(q.to (by ac_rfl:_=aR j d*(aG x f u*(ak f*(bp i node*F))))).right⟩)⟩
     | ok o0=>
      go_wp2_with fail
      (with_reducible refine hm.mono ?_)
      rintro e w4 ⟨f,v4,r,o,rfl,q⟩;obtain ⟨rfl,h7⟩:=ag.aq.1 q
      go_wp2_with fail
      go_end0
      exact S.out _ _ (by rw [A.out,l.out];exact ⟨f,_,B.out.trans r,C.trans o,rfl,ag.aq.2 ⟨rfl,(h7.to (by ac_rfl:_=aR j d*(aG x f u*(ak f*(bp i node*F))))).right⟩⟩)
    .have h1:(d.n.rw != 0)=L:=by simpa using P
     have hm:=j7 x hc wr Sk y d.n.rw N _ t.out.ze (by have:=t.out.A6;omega) b0;obtain ⟨⟨r2,u⟩,g⟩:∃ p,cM x.c.ask d.n.rw.toNat N y=p:=⟨_,rfl⟩
     rw [g] at hm
     cases r2 with
     | bad cN=>
      have l:=ae (HR.out.symm.trans ((if_neg P).trans (WM.bk g)));clear P g z G;generalize d.n.rw=i0 at *
      go_wp2_with fail
      (with_reducible refine hm.mono ?_)
      rintro e w4 ⟨f,r,o,rfl,q⟩
      go_wp2_with fail
      exact ⟨rfl,S.out _ _ (by rw [A.out,l.out];exact ⟨f,B.out.trans r,C.trans o,rfl,(q.to (by ac_rfl:_=aR j d*(aG x f u*(ak f*(bp i node*F))))).right⟩)⟩
     | ok o0=>
      have l:=ae (HR.out.symm.trans ((if_neg P).trans (WM.bd g)));clear P g z G;generalize d.n.rw=i0 at *
      go_wp2_with fail
      (with_reducible refine hm.mono ?_)
      rintro e w4 ⟨f,v4,r,o,rfl,q⟩;obtain ⟨rfl,h7⟩:=ag.aq.1 q;have F0:w4.cell? ⟨j,0,V⟩=U (Z H (d.id:Int)):=zV (ag.held.1 (h7.to (by ac_rfl:_=aR j d*(aG x f u*(ak f*(bp i node*F)))))).2;have f0:=j7 x hc w4 f u (d.id:Int) N _ (by omega) (by have:=t.out.WN;omega) h7;rw [Int.toNat_natCast] at f0;obtain ⟨⟨r3,n0⟩,h0⟩:∃ p,cM x.c.ask d.id N u=p:=⟨_,rfl⟩
      rw [h0] at f0;have k0:=ae (l.out.trans h0);clear h0 hm q0 q
      cases r3 with
      | bad cN=>
       go_wp2_with fail
       (with_reducible refine f0.mono ?_)
       rintro e w5 ⟨S3,g0,d5,rfl,h8⟩
       go_wp2_with fail
       exact ⟨rfl,S.out _ _ (by rw [A.out,k0.out];exact ⟨S3,(B.out.trans r).trans g0,(C.trans o).trans d5,rfl,(h8.to (by ac_rfl:_=aR j d*(aG x S3 n0*(ak S3*(bp i node*F))))).right⟩)⟩
      | ok u3=>
       go_wp2_with fail
       (with_reducible refine f0.mono ?_)
       rintro e w5 ⟨S3,v5,g0,d5,rfl,h8⟩;obtain ⟨rfl,h9⟩:=ag.aq.1 h8
       go_wp2_with fail
       go_end0
       exact S.out _ _ (by rw [A.out,k0.out];exact ⟨S3,_,(B.out.trans r).trans g0,(C.trans o).trans d5,rfl,ag.aq.2 ⟨rfl,(h9.to (by ac_rfl:_=aR j d*(aG x S3 n0*(ak S3*(bp i node*F))))).right⟩⟩)
end
end Go.Proofs.Fs

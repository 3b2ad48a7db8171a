/- Steps. -/
import Derived.Test.YtdickhgiahcnaaaGreatDoorNP23
import Derived.Test.YtdickhgiahcnaaaGreatDoorNP4
import Derived.Test.YtdickhgiahcnaaaGreatDoorNP13
import Derived.Test.YtdickhgiahcnaaaGreatDoorNP6
set_option linter.all false
set_option maxRecDepth 99999
set_option maxHeartbeats 0
open Go.SL
open Go.Value renaming int->Z,slice->H,pointer->X,tuple->A,bool->r
open Go.IntKind renaming i64->Y
open Go.Obj renaming cells->V
open Go.Ending renaming returned->I
open Go renaming World->L,Value->K
open Go.Proofs.Tryz renaming prog->N
open Option renaming some->U,none->O
open Bool renaming true->E,false->B
open Go.Proofs.Tryz
open Go.Value renaming int->A3,cells->D9,oneCell'->K7
open List renaming replicate->A2,length_cons->B3,getD->B2,size_toArray->D7,length_nil->D6,push_toArray->H8,append_toArray->H6,nil_append->J7,cons_append->J4,length_map->J3,getElem?_cons_succ->J2,getElem?_append_left->K9,set_cons_succ->K6,getElem?_append_right->K5,getElem?_eq_getElem->K4,getElem?_map->K3,setIfInBounds_toArray->K2,set_cons_zero->L8,length_append->L5,map_cons->M2,getElem?_eq_none->N4,drop_succ_cons->N2,take_of_length_le->O4
open Nat renaming reduceAdd->E5,reduceSub->E2,not_lt_zero->K8,add_comm->L6
open Array renaming replicate_succ->G3,replicate_zero->H9
open Int renaming toNat_of_nonneg->L4
open Go.World renaming size_alloc->L3
namespace Go.SL
open RowKit
inductive Rs (α:Type) where
 | ok (a:α)
 | bad (c:Int)
structure gD (σ:Type) where
 err:Int
 W:List (Int × List UInt8)
 D:List (Int × List UInt8)
 s:σ
structure eG (σ:Type) where
 b:gD σ
 bits:Option (List UInt8)
 dt:Bool
abbrev cL (σ:Type):=σ->Int->(Int × List UInt8) × σ
abbrev WM (σ α:Type):=eG σ->Rs α × eG σ
def WM.bind {σ α β:Type} (m:WM σ α) (k:α->WM σ β):WM σ β:=fun st=>match m st with|(.ok a,st')=>k a st'|(.bad c,st')=>(.bad c,st')
def WM.pure {σ α:Type} (a:α):WM σ α:=fun st=>(.ok a,st)
section
variable {σ α β:Type} {m:WM σ α} {k:α->WM σ β} {st st':eG σ}
def WM.aW {a:α} (h:m st=(.ok a,st')):WM.bind m k st=k a st':=by unfold WM.bind;rw [h]
def WM.bd {c:Int} (h:m st=(.bad c,st')):WM.bind m k st=(.bad c,st'):=by unfold WM.bind;rw [h]
end
def su {σ:Type} (ask:cL σ) (b:gD σ) (id:Int):(Int × List UInt8) × gD σ:=
 if (ask b.s id).1.1=0 then ((0,(ask b.s id).1.2),{ b with D:=SL.fC b.D id (ask b.s id).1.2,s:=(ask b.s id).2 })
 else (((ask b.s id).1.1,(ask b.s id).1.2),{ b with err:=(ask b.s id).1.1,s:=(ask b.s id).2 })
def fY {σ:Type} (ask:cL σ) (b:gD σ) (id:Int):(Int × List UInt8) × gD σ:=
 if b.err≠0 then ((b.err,[]),b) else
 match aM b.W id with
 | some l=>((0,l),b)
 | none=>match aM b.D id with
  | some l=>((0,l),b)
  | none=>su ask b id
def cZ {σ:Type} (ask:cL σ) (id:Int):WM σ (List UInt8):=fun st=>
 if (fY ask st.b id).1.1≠0 then (.bad (fY ask st.b id).1.1,{ st with b:=(fY ask st.b id).2 })
 else if (fY ask st.b id).1.2.length≠480 then (.bad 4,{ st with b:=(fY ask st.b id).2 })
 else (.ok (fY ask st.b id).1.2,{ st with b:=(fY ask st.b id).2 })
end Go.SL
namespace Go.Proofs.Fs
open RowKit SL Proofs.Ba
structure Cx (σ:Type) where
 T:TypeId
 rv:Value
 fr:FuncId
 rr:Value
 Mq:World->Prop
 ask:cL σ
 RI:σ->ai
def Cx.rd {σ:Type} (c:Cx σ):K:=.iface c.T c.rv
structure Cx.Ok {σ:Type} (c:Cx σ):Prop where
 hM:∀ (s:σ) (F:ai) (w:World),ag w (c.RI s*F)->c.Mq w
 hm:∀ (k:Nat) (w:World),c.Mq w->(method (k+1) c.T c.rv "Read").run prog w = .ok (c.fr,c.rr) w
 jD:∀ (args:Array Value) (w:World),(callFunc c.fr args).run prog w = .ok (.enter c.fr args) w
 hR:∀ (s:σ) (id:Int) (F:ai) (w:World),ag w (c.RI s*F)->Calls prog c.fr #[c.rr,.int .i64 id] w (pj (c.ask s id).1 (c.RI (c.ask s id).2) F w)
 hs:∀ (s:σ) (id:Int),(c.ask s id).1.1=0->small (c.ask s id).1.2
def dG {σ:Type} (c:Cx σ) (S:Hp) (b:Nat) (x:gD σ):ai:=aU 177 5 S b c.rd x.err x.W x.D*c.RI x.s
def TS {σ:Type} (c:Cx σ) (b:Nat) (S:Hp) (p:(Int × List UInt8) × gD σ) (F:ai) (w:L) (e:Ending) (w':L):Prop:=
 ∃ d f,Ext S d/\e = I (A #[f,Z Y p.1.1])/\ag w' (pS 5 p.1 f*(dG c d b p.2*(al d*F)))/\aj w w'
def JM {σ:Type} {c:Cx σ} (e:c.Ok) (w:L) (S:Hp) (b:Nat) (x:gD σ) (id:Int) (F:ai) (h:ag w (dG c S b x*(al S*F))) :
  Calls N 195 #[X (U ⟨b,0,O⟩),Z Y id] w (TS c b S (fY c.ask x id) F w):=by
 obtain ⟨err,W,D,s⟩:=x;have M:ag w (aU 177 5 S b c.rd err W D*(al S*(c.RI s*F))):=h.to (by unfold dG;ac_rfl)
 by_cases he:err=0
 .subst he
  cases G:aM W id with
  | some l=>
   have t:fY c.ask ⟨0,W,D,s⟩ id=((0,l),⟨0,W,D,s⟩):=by unfold fY;simp only [ne_eq,not_true_eq_false,if_false,G]
   rw [t];apply (RG w S b c.rd W D id l _ M G).mono;rintro b0 w' ⟨f,i,d,rfl,j,q⟩;exact ⟨f,i,d,rfl,j.to (by unfold dG;ac_rfl),q⟩
  | none=>
   cases hd:aM D id with
   | some l=>
    have t:fY c.ask ⟨0,W,D,s⟩ id=((0,l),⟨0,W,D,s⟩):=by unfold fY;simp only [ne_eq,not_true_eq_false,if_false,G,hd]
    rw [t];apply (RH w S b c.rd W D id l _ M G hd).mono;rintro b0 w' ⟨f,i,d,rfl,j,q⟩;exact ⟨f,i,d,rfl,j.to (by unfold dG;ac_rfl),q⟩
   | none=>
    have t:fY c.ask ⟨0,W,D,s⟩ id=su c.ask ⟨0,W,D,s⟩ id:=by unfold fY;simp only [ne_eq,not_true_eq_false,if_false,G,hd]
    have hR:=fun F w=>e.hR s id F w;have hs:=e.hs s id;rw [t];unfold su;generalize c.ask s id=p at *;obtain ⟨⟨c1,l⟩,s'⟩:=p
    by_cases d:c1=0
    .subst d
     rw [if_pos rfl];apply (Py w S b c.T c.rv c.fr W D id l (c.RI s) (c.RI s') F c.rr c.Mq (e.hM s) (e.hM s') e.hm e.jD hR M G hd (hs rfl)).mono;rintro b0 w' ⟨f,i,d,rfl,j,q⟩;exact ⟨f,i,d,rfl,j.to (by unfold dG Cx.rd;ac_rfl),q⟩
    .rw [if_neg d]
     apply (y5 w S b c.T c.rv c.fr W D id c1 l (c.RI s) (c.RI s') F c.rr c.Mq (e.hM s) (e.hM s') e.hm e.jD hR d M G hd).mono;rintro b0 w' ⟨f,i,d,rfl,j,q⟩;exact ⟨f,i,d,rfl,j.to (by unfold dG Cx.rd;ac_rfl),q⟩
 .have t:fY c.ask ⟨err,W,D,s⟩ id=((err,[]),⟨err,W,D,s⟩):=by unfold fY;rw [if_pos he]
  rw [t];apply (Nb w S b c.rd err W D id _ M he).mono;rintro b0 w' ⟨f,i,d,rfl,j,q⟩;exact ⟨f,i,d,rfl,j.to (by unfold dG;ac_rfl),q⟩
def JW (c:Int):List PanicEntry:=[{ v:=.iface 208 (Z Y c),recovered:=B }]
def kJ (w:L):Calls N 154 #[Z Y 0] w fun e w'=>e = I (A #[])/\w=w':=by
 go_in
 go_wp2
 go_end0
 exact ⟨rfl,rfl⟩
def fL (w:L) (c:Int) (d:c≠0):Calls N 154 #[Z Y c] w fun e w'=>e = .panicked (JW c)/\w=w':=by
 go_in
 go_wp2
 exact ⟨rfl,rfl,rfl⟩
def gH (w:L):Calls N 94 #[r E] w fun e w'=>e = I (A #[])/\w=w':=by
 go_in
 go_wp2
 go_end0
 exact ⟨rfl,rfl⟩
def gQ (w:L):Calls N 94 #[r B] w fun e w'=>e = .panicked (JW 1)/\w=w':=by
 have d:=fL w 1 De0
 go_in
 go_wp2_with fail
 (apply d.mono)
 rintro e f ⟨rfl,rfl⟩
 go_wp2
 exact ⟨rfl,rfl,rfl⟩
def fA (o:Option (List UInt8)) (v:K):ai:=fun h=>(o=O/\v = H O 0 0/\h=fun _=>O)\/∃ l,o=U l/\l.length=480/\bs 5 v l h
structure Wk (σ:Type) where
 c:Cx σ
 n:Nat
 k:Nat
 b:Nat
def Wk.cells {σ:Type} (x:Wk σ) (v:K) (t:Bool):Array K:=#[X (U ⟨x.b,0,O⟩),Z Y (x.n:Int),v,r t]
def cG {σ:Type} (x:Wk σ) (v:K) (S:Hp) (st:eG σ):ai:=pt x.k (V (x.cells v st.dt) 139 (0,0))*dG x.c S x.b st.b
def aG {σ:Type} (x:Wk σ) (S:Hp) (st:eG σ):ai:=ex fun v=>cG x v S st*fA st.bits v
def WQ {σ α:Type} (x:Wk σ) (R:α->K->ai) (S:Hp) (F:ai) (w:L):Rs α × eG σ->Ending->L->Prop
 | (.ok a,st'),e,w'=>∃ d v,Ext S d/\aj w w'/\e = I v/\ag w' (R a v*(aG x d st'*(al d*F)))
 | (.bad c,st'),e,w'=>∃ d,Ext S d/\aj w w'/\e = .panicked (JW c)/\ag w' (aG x d st'*(al d*F))
def T9 {σ α:Type} (x:Wk σ) (f:K) (R:α->K->ai) (S:Hp) (F:ai) (w:L):Rs α × eG σ->Ending->L->Prop
 | (.ok a,st'),e,w'=>∃ d v,Ext S d/\aj w w'/\e = I v/\ag w' (R a v*(cG x f d st'*(al d*F)))
 | (.bad c,st'),e,w'=>∃ d,Ext S d/\aj w w'/\e = .panicked (JW c)/\ag w' (cG x f d st'*(al d*F))
def jo (a:Unit) (v:K):ai:=fact (v = A #[])
def gX (l:List UInt8) (v:K):ai:=bs 5 v l
def yD {σ:Type} (x:Wk σ) (hc:x.c.Ok) (w:L) (bv:K) (S:Hp) (st:eG σ) (id:Int) (F:ai) (h:ag w (cG x bv S st*(al S*F))) :
  Calls N 144 #[X (U ⟨x.k,0,O⟩),Z Y id] w (T9 x bv gX S F w (cZ x.c.ask id st)):=by
 have h0:ag w (dG x.c S x.b st.b*(al S*(pt x.k (V (x.cells bv st.dt) 139 (0,0))*F))):=h.to (by unfold cG;ac_rfl);have c0:w.cell? ⟨x.k,0,O⟩=U (X (U ⟨x.b,0,O⟩)):=h0.au.cell 0;have hr:=JM hc w S x.b st.b id _ h0;have hE:∀ p,fY x.c.ask st.b id=p->cZ x.c.ask id st=if p.1.1≠0 then (.bad p.1.1,{ st with b:=p.2 }) else if p.1.2.length≠480 then (.bad 4,{ st with b:=p.2 }) else (.ok p.1.2,{ st with b:=p.2 }):=fun p M=>by subst M;rfl
 obtain ⟨⟨⟨c1,l⟩,b'⟩,M⟩:∃ p,fY x.c.ask st.b id=p:=⟨_,rfl⟩
 have b0:=hE _ M;rw [M] at hr;rw [b0]
 by_cases h1:c1=0
 .subst h1
  rw [if_neg Si0]
  by_cases G:l.length=480
  .rw [if_neg (by simp [G])]
   have d0:((480:Int) != 480)=B:=De0
   have Hl:=ae G
   go_in
   go_wp2_with fail
   (apply hr.mono)
   rintro e f ⟨i,dv,t,rfl,q,j⟩;have d:=q.uY;obtain ⟨va,vc,rfl⟩:=aC d;rw [Hl.o] at d ⊢
   go_wp2_with fail
   (apply (kJ f).mono)
   rintro e w2 ⟨rfl,rfl⟩
   go_wp2_with fail
   go_ret
   exact ⟨i,_,t,j,rfl,by unfold cG dG gX;exact d.to (by unfold dG;ac_rfl)⟩
  .rw [if_pos G]
   have d0:((l.length:Int) != 480)=E:=by rw [bne_iff_ne];omega
   have Hl:=ae G
   go_in
   go_wp2_with fail
   (apply hr.mono)
   rintro e f ⟨i,dv,t,rfl,q,j⟩;have d:=q.uY;obtain ⟨va,vc,rfl⟩:=aC d
   go_wp2_with fail
   (apply (kJ f).mono)
   rintro e w2 ⟨rfl,rfl⟩
   go_wp2_with fail
   (apply (fL f 4 De0).mono)
   rintro e w2 ⟨rfl,rfl⟩
   go_wp2_with fail
   exact ⟨rfl,i,t,j,rfl,by unfold cG;exact d.right.u00⟩
 .rw [if_pos h1]
  have H1:=ae h1
  go_in
  go_wp2_with fail
  (apply hr.mono)
  rintro e f ⟨i,dv,t,rfl,q,j⟩;obtain ⟨rfl,d⟩:=q.Cv H1.o
  go_wp2_with fail
  (apply (fL f c1 H1.o).mono)
  rintro e w2 ⟨rfl,rfl⟩
  go_wp2_with fail
  exact ⟨rfl,i,t,j,rfl,by unfold cG;exact d.u00⟩
end Go.Proofs.Fs
namespace Go.SL
open RowKit
section
variable {σ:Type}
def kg (err id:Int) (l:List UInt8):Int:=if err≠0 then err else if id<0\/l.length≠480 then 1 else 0
def cS (id:Int) (l:List UInt8):WM σ Unit:=fun st=>
 if kg st.b.err id l=0 then (.ok (),{ st with b:={ st.b with W:=SL.fC st.b.W id l } }) else (.bad (kg st.b.err id l),st)
def jq (ask:cL σ):WM σ (List UInt8):=fun st=>match st.bits with
 | some l=>(.ok l,st)
 | none=>match cZ ask 0 st with
  | (.ok l,st')=>(.ok l,{ st' with bits:=U l })
  | (.bad c,st')=>(.bad c,st')
def y8 (id:Nat) (t:Bool) (l:List UInt8):WM σ Unit:=fun st=>(.ok (),{ st with bits:=U (dZ l id t),dt:=E })
def cI (ask:cL σ) (id:Nat) (t:Bool):WM σ Unit:=WM.bind (jq ask) (y8 id t)
def TG (l:List UInt8) (st:eG σ):Option Nat->Rs Nat × eG σ
 | some k=>(.ok k,{ st with bits:=U (dZ l k E),dt:=E })
 | none=>(.bad 7,st)
def s5 (n:Nat) (l:List UInt8):WM σ Nat:=fun st=>TG l st (fw l n)
def iN (ask:cL σ) (n:Nat):WM σ Nat:=WM.bind (jq ask) (s5 n)
def xk (ask:cL σ) (id:Int) (st:eG σ):(cZ ask id st).2.bits=st.bits:=by
 unfold cZ;split
 .rfl
 .split <;> rfl
def iW {ask:cL σ} {id:Int} {st st':eG σ} {l:List UInt8} (h:cZ ask id st=(.ok l,st')):l.length=480:=by
 unfold cZ at h
 split at h
 .cases h
 .split at h
  .cases h
  .rename_i d;simp only [Prod.mk.injEq,Rs.ok.injEq] at h;rw [<- h.1];exact Decidable.of_not_not d
def AX (id:Int) (l:List UInt8) (st:eG σ):(cS id l st).2.bits=st.bits:=by
 unfold cS;split <;> rfl
def BX {ask:cL σ} {st st':eG σ} {l:List UInt8} (h:jq ask st=(.ok l,st')) (f:∀ l,st.bits=U l->l.length=480):st'.bits=U l/\l.length=480:=by
 unfold jq at h
 split at h
 .rename_i j d
  obtain ⟨rfl,rfl⟩:=h;exact ⟨d,f _ d⟩
 .split at h
  .rename_i q i e
   obtain ⟨rfl,rfl⟩:=h;exact ⟨rfl,iW e⟩
  .cases h
end
end Go.SL
namespace Go.Proofs.Fs
open RowKit SL Proofs.Ba
variable {S:Hp}
section
variable {σ α:Type}
def ag.iI {w:L} {x:Wk σ} {st:eG σ} {F:ai} (h:ag w (aG x S st*F)):∃ v,ag w (cG x v S st*(fA st.bits v*F)):=by
 obtain ⟨v,h⟩:=ag.aw.1 h;exact ⟨v,h.to Ac0⟩
def ag.iv {w:L} {x:Wk σ} {st:eG σ} {F:ai} (v:K) (h:ag w (cG x v S st*(fA st.bits v*F))):ag w (aG x S st*F):=
 ag.aw.2 ⟨v,h.to Ac0⟩
def ag.FT {w:L} {F:ai} (h:ag w F):ag w (fA O (H O 0 0)*F):=
 (h.to (cl _).symm).gZ fun k d=>.inl ⟨rfl,rfl,d⟩
def ag.og {w:L} {F:ai} {v:K} {l:List UInt8} (e:l.length=480) (h:ag w (bs 5 v l*F)):ag w (fA (U l) v*F):=
 h.gZ fun k d=>.inr ⟨l,rfl,e,d⟩
def ag.oA {w:L} {o:Option (List UInt8)} {v:K} {F:ai} (h:ag w (fA o v*F)) :
  (o=O/\v = H O 0 0/\ag w F)\/∃ l,o=U l/\l.length=480/\ag w (bs 5 v l*F):=by
 obtain ⟨k,a,f,e,p,q,d,rfl⟩:=h;rcases p with ⟨rfl,rfl,rfl⟩|⟨l,rfl,j,i⟩
 .refine .inl ⟨rfl,rfl,_,a,?_⟩
  have:join (fun _=>O) e=e:=by funext c;simp [join]
  rw [this];exact q
 .exact .inr ⟨l,rfl,j,_,a,f,e,i,q,d,rfl⟩
def T9.lift {x:Wk σ} {d:K} {R:α->K->ai} {F:ai} {w:L} {st:eG σ}:∀ {p:Rs α × eG σ} {e:Ending} {w':L},
  T9 x d R S (fA st.bits d*F) w p e w'->p.2.bits=st.bits->WQ x R S F w p e w'
 | (.ok a,st'),e,w',⟨f,v,j,l,q,h4⟩,i=>by
  refine ⟨f,v,j,l,q,?_⟩;dsimp only at i;rw [<- i] at h4;exact (ag.iv d (h4.u00:ag w' (cG x d f st'*(fA st'.bits d*(R a v*(al f*F)))))).u00
 | (.bad c,st'),e,w',⟨f,j,l,q,h4⟩,i=>by
  refine ⟨f,j,l,q,?_⟩;dsimp only at i;rw [<- i] at h4;exact (ag.iv d (h4.u00:ag w' (cG x d f st'*(fA st'.bits d*(al f*F)))))
def lT (x:Wk σ) (i:x.c.Ok) (w:L) (S:Hp) (st:eG σ) (id:Int) (F:ai) (h:ag w (aG x S st*(al S*F))) :
  Calls N 144 #[X (U ⟨x.k,0,O⟩),Z Y id] w (WQ x gX S F w (cZ x.c.ask id st)):=by
 obtain ⟨v,d⟩:=ag.iI h;refine (yD x i w v S st id (fA st.bits v*F) (d.u00)).mono fun e w' f=>T9.lift f (xk _ _ _)
def LG (err id:Int) (l:List UInt8):fX err id l=kg err id l:=rfl
def vD (x:Wk σ) (w:L) (i:K) (S:Hp) (st:eG σ) (id:Int) (G:K) (l:List UInt8) (F:ai) (h:ag w (cG x i S st*(al S*F))) (hr:Rd w G l) :
  Calls N 96 #[X (U ⟨x.k,0,O⟩),Z Y id,G] w (T9 x i jo S F w (cS id l st)):=by
 have h0:ag w (aU 177 5 S x.b x.c.rd st.b.err st.b.W st.b.D*(al S*(x.c.RI st.b.s*(pt x.k (V (x.cells i st.dt) 139 (0,0))*F)))):=h.to (by unfold cG dG;ac_rfl);have c0:w.cell? ⟨x.k,0,O⟩=U (X (U ⟨x.b,0,O⟩)):=(h.to (by unfold cG;ac_rfl:_=pt x.k (V (x.cells i st.dt) 139 (0,0))*(dG x.c S x.b st.b*(al S*F)))).cell 0;have f:=pk w S x.b x.c.rd st.b.err st.b.W st.b.D id G l _ h0 hr;unfold gE at f;rw [LG] at f;unfold cS
 by_cases d:kg st.b.err id l=0
 .rw [if_pos d]
  have hW:vG st.b.err id l st.b.W=SL.fC st.b.W id l:=vC (by
   unfold kg at d
   split at d
   .rename_i M;exact absurd d M
   .rename_i M
    split at d
    .cases d
    .rename_i h8
     exact ⟨Decidable.of_not_not M,Om0,Om0⟩)
  rw [d,hW] at f;have Hz:=ae d
  go_in
  go_wp2_with fail
  (apply f.mono)
  rintro e w1 ⟨q,hS,rfl,j,t⟩
  go_wp2_with fail
  (apply (kJ w1).mono)
  rintro e w2 ⟨rfl,rfl⟩
  go_wp2_with fail
  go_end0
  exact ⟨q,_,hS,t,rfl,ag.aq.2 ⟨rfl,by unfold cG dG;exact j.u00⟩⟩
 .rw [if_neg d]
  have hW:vG st.b.err id l st.b.W=st.b.W:=oO (by
   rintro ⟨h1,j,h3⟩;apply d;unfold kg;rw [if_neg (by simp [h1]),if_neg Om0])
  rw [hW] at f;have Hz:=ae d;generalize kg st.b.err id l=c at *
  go_in
  go_wp2_with fail
  (apply f.mono)
  rintro e w1 ⟨q,hS,rfl,j,t⟩
  go_wp2_with fail
  (apply (fL w1 c Hz.o).mono)
  rintro e w2 ⟨rfl,rfl⟩
  go_wp2_with fail
  exact ⟨rfl,q,hS,t,rfl,by unfold cG dG;exact j.u00⟩
def mh (x:Wk σ) (w:L) (S:Hp) (st:eG σ) (id:Int) (d:K) (l:List UInt8) (F:ai) (h:ag w (aG x S st*(al S*F))) (j:Rd w d l) :
  Calls N 96 #[X (U ⟨x.k,0,O⟩),Z Y id,d] w (WQ x jo S F w (cS id l st)):=by
 obtain ⟨v,f⟩:=ag.iI h;refine (vD x w v S st id d l (fA st.bits v*F) (f.u00) j).mono fun e w' i=>T9.lift i (AX _ _ _)
def UK (x:Wk σ) (S:Hp) (F:ai) (w:L):Rs (List UInt8) × eG σ->Ending->L->Prop
 | (.ok l,st'),e,w'=>∃ d v,Ext S d/\aj w w'/\e = I v/\l.length=480/\ag w' (cG x v d st'*(bs 5 v l*(al d*F)))
 | (.bad c,st'),e,w'=>∃ d,Ext S d/\aj w w'/\e = .panicked (JW c)/\ag w' (aG x d st'*(al d*F))
def qt (x:Wk σ) (hc:x.c.Ok) (w:L) (S:Hp) (st:eG σ) (F:ai) (h:ag w (aG x S st*(al S*F))) :
  Calls N 87 #[X (U ⟨x.k,0,O⟩)] w (UK x S F w (jq x.c.ask st)):=by
 obtain ⟨v,h1⟩:=ag.iI h;obtain ⟨b,o,dt⟩:=st;have c2:w.cell? ⟨x.k,2,O⟩=U v:=(h1.to (by unfold cG;ac_rfl:_=pt x.k (V (x.cells v dt) 139 (0,0))*(dG x.c S x.b b*(fA o v*(al S*F))))).cell 2;rcases ag.oA (h1.t00 (fA o v*(cG x v S ⟨b,o,dt⟩*(al S*F)))) with ⟨rfl,rfl,d⟩|⟨l,rfl,j,d⟩
 .have hr:=yD x hc w (H O 0 0) S ⟨b,O,dt⟩ 0 F d
  have hq:=fun w=>Lib.run_eql_slice_nil (P:=N) w 23 5 O 0 0 0 0 underlying23;have j:=fun l st'=>iW (ask:=x.c.ask) (id:=0) (st:=⟨b,O,dt⟩) (st':=st') (l:=l);have M:jq x.c.ask ⟨b,O,dt⟩=match cZ x.c.ask 0 ⟨b,O,dt⟩ with|(.ok l,st')=>(.ok l,{ st' with bits:=U l })|(.bad c,st')=>(.bad c,st'):=rfl
  have hb:=xk x.c.ask 0 ⟨b,O,dt⟩;rw [M];generalize cZ x.c.ask 0 ⟨b,O,dt⟩=p at *;obtain ⟨d0,st'⟩:=p
  cases d0 with
  | ok l=>
   have c0:=j l st' rfl;have i:=ae c0
   go_in
   go_wp2_with fail
   (apply hr.mono)
   rintro b0 w1 ⟨f,v,hS,G,rfl,e⟩;unfold gX at e;obtain ⟨q,t,rfl⟩:=aC e;rw [i.o] at e ⊢;have h4:ag w1 (pt x.k (V (x.cells (H O 0 0) st'.dt) 139 (0,0))*(bs 5 (H q 480 t) l*(dG x.c f x.b st'.b*(al f*F)))):=e.to (by unfold cG;ac_rfl);have f2:=h4.frozen 2;have h5:=h4.setCell 2 (H q 480 t);have g2:=h4.cell 2
   go_wp2_with fail
   go_ret
   exact ⟨f,_,hS,G.setCell _ _,rfl,i.o,by unfold cG;exact h5.to (by unfold Wk.cells;ac_rfl)⟩
  | bad c=>
   go_in
   go_wp2_with fail
   (apply hr.mono)
   rintro b0 w1 ⟨f,hS,G,rfl,e⟩
   go_wp2_with fail
   refine ⟨rfl,f,hS,G,rfl,ag.iv (H O 0 0) ?_⟩;rw [hb];exact (ag.FT e).u00
 .have M:jq x.c.ask ⟨b,U l,dt⟩=(.ok l,⟨b,U l,dt⟩):=rfl
  rw [M];obtain ⟨q,t,rfl⟩:=aC d
  obtain ⟨g,rfl⟩:∃ g,q=U g:=by
   rcases d.dq with ⟨_,h0,_⟩|⟨g,e0,f0,he,_⟩
   .omega
   .cases he;exact ⟨_,rfl⟩
  have i:=ae j;rw [j] at d c2;have hq:=fun w=>Lib.run_eql_slice_nil (P:=N) w 23 5 (U g) 480 t 0 0 underlying23
  go_in
  go_wp2_with fail
  go_ret
  exact ⟨S,_,Ext.refl S,aj.refl w,rfl,i.o,d.u00⟩
def vH (x:Wk σ) (hc:x.c.Ok) (w:L) (S:Hp) (st:eG σ) (id:Nat) (t:Bool) (F:ai) (c0:id<3840) (h:ag w (aG x S st*(al S*F))) :
  Calls N 105 #[X (U ⟨x.k,0,O⟩),Z Y (id:Int),r t] w (WQ x jo S F w (cI x.c.ask id t st)):=by
 have q:=qt x hc w S st F h;obtain ⟨⟨e0,st'⟩,M⟩:∃ p,jq x.c.ask st=p:=⟨_,rfl⟩
 rw [M] at q
 cases e0 with
 | ok l=>
  have i:cI x.c.ask id t st=y8 id t l st':=WM.aW M;rw [i]
  go_in
  go_wp2_with fail
  (apply q.mono)
  rintro b0 w1 ⟨d,v,j,f,rfl,G,e⟩;have hs:=uu w1 v l (cG x v d st'*(al d*F)) (e.u00) G id c0 t;have d0:=aC (e.ah);obtain ⟨va,vc,rfl⟩:=d0;have Hl:=ae G;rw [G] at hs e ⊢
  go_wp2_with fail
  (apply hs.mono)
  rintro b0 w2 ⟨rfl,h3,d2⟩;have h4:ag w2 (pt x.k (V (x.cells (H va 480 vc) st'.dt) 139 (0,0))*(dG x.c d x.b st'.b*(bs 5 (H va 480 vc) (dZ l id t)*(al d*F)))):=h3.to (by unfold cG;ac_rfl);have f3:=h4.frozen 3;have g3:=h4.cell 3;have h5:=h4.setCell 3 (r E)
  go_wp2_with fail
  go_end0
  refine ⟨d,_,j,(f.trans d2).setCell _ _,rfl,ag.aq.2 ⟨rfl,ag.iv (H va 480 vc) ?_⟩⟩;have h6:=ag.og (l:=dZ l id t) (by rw [fu];exact Hl.o) h5.au;exact h6.to (by unfold cG Wk.cells;simp only [K2,K6,L8];ac_rfl)
 | bad c=>
  have i:cI x.c.ask id t st=(.bad c,st'):=WM.bd M;rw [i]
  go_in
  go_wp2_with fail
  (apply q.mono)
  rintro b0 w1 ⟨d,j,f,rfl,e⟩
  go_wp2_with fail
  exact ⟨rfl,d,j,f,rfl,e⟩
def bitsLen {w:L} {x:Wk σ} {st:eG σ} {F:ai} (h:ag w (aG x S st*F)):∀ l,st.bits=U l->l.length=480:=by
 intro l e;obtain ⟨v,f⟩:=ag.iI h;rcases ag.oA (f.t00 (fA st.bits v*(cG x v S st*F))) with ⟨d,_⟩|⟨j,d,i,_⟩
 .rw [e] at d;cases d
 .rw [e] at d;cases d;exact i
def Vh (v:K) (l:List UInt8) (F:ai) (w:L):Option Nat->Ending->L->Prop
 | none,e,w'=>e = I (A #[Z Y 0,r B])/\ag w' (bs 5 v l*F)/\aj w w'
 | some n,e,w'=>e = I (A #[Z Y (n:Int),r E])/\ag w' (bs 5 v (dZ l n E)*F)/\aj w w'
def Iv (w:L) (v:K) (l:List UInt8) (F:ai) (h:ag w (bs 5 v l*F)) (q:l.length=480) (e:Nat) (j:e<=3840) :
  Calls N 199 #[v,Z Y (e:Int)] w (Vh v l F w (fw l e)):=by
 refine KC w v l F h q e j _ (fun d w' f i=>?_) (fun n d w' f i=>?_)
 .rw [d];exact ⟨rfl,f,i⟩
 .rw [d];exact ⟨rfl,f,i⟩
def CG (a:Nat) (v:K):ai:=fact (v = Z Y (a:Int))
def oU (x:Wk σ) (hc:x.c.Ok) (hn:x.n<=3840) (w:L) (S:Hp) (st:eG σ) (F:ai) (h:ag w (aG x S st*(al S*F))) :
  Calls N 150 #[X (U ⟨x.k,0,O⟩)] w (WQ x CG S F w (iN x.c.ask x.n st)):=by
 have hb:=fun (w:L) h=>qt x hc w S st F h;obtain ⟨v0,h1⟩:=ag.iI h;have c1:=(h1.to (by unfold cG;ac_rfl:_=pt x.k (V (x.cells v0 st.dt) 139 (0,0))*(dG x.c S x.b st.b*(fA st.bits v0*(al S*F))))).cell 1;obtain ⟨⟨c0,st'⟩,hp⟩:∃ p,jq x.c.ask st=p:=⟨_,rfl⟩
 rw [hp] at hb
 cases c0 with
 | ok l=>
  have hE:iN x.c.ask x.n st=s5 x.n l st':=WM.aW hp;have b0:=BX hp (bitsLen h);rw [hE];unfold s5;have ht:=fun w v F h i=>Iv w v l F h i x.n hn;obtain ⟨o,ho⟩:=Nm (fw l x.n)
  rw [ho];rw [ho] at ht
  cases o with
  | some n=>
   go_in
   go_wp2_with fail
   go_region_held3 (fun w'=>w'.cell? ⟨x.k,1,O⟩=U (Z Y (x.n:Int)))
    (first|exact c1|exact k1|exact k2|go_keep)
    (first
     | (go_at_call 87;apply (hb w.drew h.drew).mono;rintro e j ⟨d,v,G,q,rfl,i,f⟩;have k1:j.cell? ⟨x.k,1,O⟩=U (Z Y (x.n:Int)):=(f.to (by unfold cG;ac_rfl:_=pt x.k (V (x.cells v st'.dt) 139 (0,0))*(dG x.c d x.b st'.b*(bs 5 v l*(al d*F))))).cell 1)
     | (go_at_call 199;apply (ht j v (cG x v d st'*(al d*F)) (f.u00) i).mono;rintro e M ⟨rfl,t,d2⟩;have k2:M.cell? ⟨x.k,1,O⟩=U (Z Y (x.n:Int)):=(t.to (by unfold cG;ac_rfl:_=pt x.k (V (x.cells v st'.dt) 139 (0,0))*(dG x.c d x.b st'.b*(bs 5 v (dZ l n E)*(al d*F))))).cell 1))
   have h4:ag M (pt x.k (V (x.cells v st'.dt) 139 (0,0))*(dG x.c d x.b st'.b*(bs 5 v (dZ l n E)*(al d*F)))):=t.to (by unfold cG;ac_rfl);have f3:=h4.frozen 3;have g3:=h4.cell 3;have h5:=h4.setCell 3 (r E);have Hl:=ae i
   go_wp2_with fail
   go_ret
   refine ⟨d,_,G,(((aj.refl w).drew.trans q).trans d2).setCell _ _,rfl,ag.aq.2 ⟨rfl,ag.iv v ?_⟩⟩;have h6:=ag.og (l:=dZ l n E) (by rw [fu];exact Hl.o) h5.au;exact h6.to (by unfold cG Wk.cells;simp only [K2,K6,L8];ac_rfl)
  | none=>
   go_in
   go_wp2_with fail
   go_region_held3 (fun w'=>w'.cell? ⟨x.k,1,O⟩=U (Z Y (x.n:Int)))
    (first|exact c1|exact k1|exact k2|go_keep)
    (first
     | (go_at_call 87;apply (hb w.drew h.drew).mono;rintro e j ⟨d,v,G,q,rfl,i,f⟩;have k1:j.cell? ⟨x.k,1,O⟩=U (Z Y (x.n:Int)):=(f.to (by unfold cG;ac_rfl:_=pt x.k (V (x.cells v st'.dt) 139 (0,0))*(dG x.c d x.b st'.b*(bs 5 v l*(al d*F))))).cell 1)
     | (go_at_call 199;apply (ht j v (cG x v d st'*(al d*F)) (f.u00) i).mono;rintro e M ⟨rfl,t,d2⟩;have k2:M.cell? ⟨x.k,1,O⟩=U (Z Y (x.n:Int)):=(t.to (by unfold cG;ac_rfl:_=pt x.k (V (x.cells v st'.dt) 139 (0,0))*(dG x.c d x.b st'.b*(bs 5 v (l)*(al d*F))))).cell 1))
   have Hl:=ae i
   go_wp2_with fail
   (apply (fL M 7 De0).mono)
   rintro e w3 ⟨rfl,rfl⟩
   go_wp2_with fail
   refine ⟨rfl,d,G,((aj.refl w).drew.trans q).trans d2,rfl,ag.iv v ?_⟩;obtain ⟨h8,_⟩:=b0;rw [h8];exact (ag.og Hl.o t).u00
 | bad c=>
  have hE:iN x.c.ask x.n st=(.bad c,st'):=WM.bd hp;rw [hE]
  go_in
  go_wp2_with fail
  refine wp_region_held_drew (S:=(fun w'=>w'.cell? ⟨x.k,1,O⟩=U (Z Y (x.n:Int)))) Kr0 ?_ (fun e0=>?_)
  ·(first|exact c1|go_keep)
  refine tk 0 ?_;refine tk 2 ?_;refine tk 3 ?_;refine tk 4 ?_;refine tk 5 ?_;refine tr 1 fun d0 hK=>?_
  go_simp
  go_wp2_with (go_at_call 87;apply (hb w.drew h.drew).mono;rintro e j ⟨d,G,q,rfl,f⟩)
  exact ⟨rfl,d,G,(aj.refl w).drew.trans q,rfl,f⟩
end
end Go.Proofs.Fs
namespace Go.SL
open RowKit
structure Hd where
 id:Nat
 n:Nd
 row:List Int
def Hd.l (h:Hd):List Int:=(h.id:Int) :: (h.n.l++h.row)
def Hd.fit (h:Hd):Prop:=h.n.dr.length=16/\h.row.length=240
def Hd.aN (h:Hd) (i:Nat):Int:=if i<16 then h.n.dr.getD i 0 else h.row.getD (i-16) 0
def Hd.put (h:Hd) (i:Nat) (b:Int):Hd:=if i<16 then { h with n:={ h.n with dr:=h.n.dr.set i b } } else { h with row:=h.row.set (i-16) b }
def Hd.ux {h:Hd} (d:h.fit) (i:Nat) (b:Int):(h.put i b).fit:=by
 unfold Hd.put;split
 .exact ⟨by simpa using d.1,d.2⟩
 .exact ⟨d.1,by simpa using d.2⟩
def Hd.uZ {h:Hd} (d:h.fit):h.l.length=261:=by
 simp [Hd.l,Nd.cells d.1,d.2]
def Hd.Wl {h:Hd} (f:h.fit) {i:Nat} (d:i<16):h.l.getD (4+i) 0=h.aN i:=by
 have e:h.l=(h.id:Int) :: h.n.kd :: h.n.lk :: h.n.sz :: (h.n.dr++([h.n.rw]++h.row)):=by simp [Hd.l,Nd.l]
 unfold Hd.aN;rw [if_pos d,e,L6 4 i];simp only [B2,J2];rw [K9 (by rw [f.1];exact d)]
def Hd.Ue {h:Hd} (d:h.fit) {i:Nat} (f:16<=i):h.l.getD (21+(i-16)) 0=h.aN i:=by
 have e:h.l=((h.id:Int) :: h.n.l)++h.row:=rfl;unfold Hd.aN;rw [if_neg Om0,e,B2,B2,K5 (by simp [Nd.cells d.1])];simp [Nd.cells d.1]
def Hd.Um {h:Hd} (d:h.fit) {i:Nat} (b:Int):(h.put i b).l=h.l.set (if i<16 then 4+i else 21+(i-16)) b:=by
 unfold Hd.put
 split
 .rename_i f
  have e:h.l=(h.id:Int) :: h.n.kd :: h.n.lk :: h.n.sz :: (h.n.dr++([h.n.rw]++h.row)):=by simp [Hd.l,Nd.l]
  rw [e,L6 4 i];simp only [K6];rw [List.set_append,if_pos (by rw [d.1];exact f)];simp [Hd.l,Nd.l]
 .rename_i f
  have e:h.l=((h.id:Int) :: h.n.l)++h.row:=rfl;have j:((h.id:Int) :: h.n.l).length=21:=by simp [Nd.cells d.1]
  rw [e,List.set_append,j,if_neg Om0,show 21+(i-16)-21=i-16 by omega]
  rfl
section
variable {σ:Type}
def eP (n:Nat) (l:List Int):WM σ Unit:=fun st=>(if l.all (fun x=>decide (x<n))=E then .ok () else .bad 4,st)
end
end Go.SL
namespace Go.Proofs.Fs
open RowKit SL Proofs.Ba
def aP (d:Nat) (h:Hd):ai:=fact h.fit*pt d (V (ints h.l) 153 (0,0))
def ag.held {w:L} {e:Nat} {h:Hd} {F:ai}:ag w (aP e h*F)↔h.fit/\ag w (pt e (V (ints h.l) 153 (0,0))*F):=by
 constructor
 .intro d;exact ag.aq.1 (d.to (ay _ _ _))
 .intro d;exact (ag.aq.2 d).to (ay _ _ _).symm
def QD (n:Nat) (l:List Int) (w:L) (u:K) (wr:L):Prop:=
 ∃ k:Nat,k<=l.length/\u = Z Y (k:Int)/\(∀ j,j<k->l.getD j 0<n)/\w=wr
def jv (w:L) (k n:Nat) (v:K) (l:List Int) (hl:l.length<=1000) (hr:pP w v l) (h1:w.cell? ⟨k,1,O⟩=U (Z Y (n:Int)))
  (Q:Ending->L->Prop) (hY:l.all (fun x=>decide (x<n))=E->Q (I (A #[])) w) (hN:l.all (fun x=>decide (x<n))=B->Q (.panicked (JW 4)) w) :
  Calls N 155 #[X (U ⟨k,0,O⟩),v] w Q:=by
 have HY:=ae hY;have HN:=ae hN;have e0:(l.length:Int)<=1000:=Om0
 have b0:=fun j (d:j<l.length)=>hr.WE d;obtain ⟨va,vc,rfl⟩:=hr.De;obtain ⟨m,hm⟩:=Nm l.length
 rw [hm] at e0 b0 ⊢;have f:=ae hm;clear hm hl
 go_in
 go_wp2_with fail
 go_loopw [8] (fun u wr=>QD n l w u wr) (fun u _=>m-(intOf u).toNat)
 case atStart=>exact ⟨0,Nat.zero_le _,rfl,fun j d=>absurd d (K8 _),rfl⟩
 case round=>
  obtain ⟨j,d,rfl,S,rfl⟩:=hrel;rw [f.o] at d
  by_cases c0:j<m
  .have j0:(j:Int)<(m:Int):=Om0
   obtain ⟨g,o,c,e,hc⟩:=b0 j c0;obtain ⟨rfl,-,rfl⟩:=e;have k0:l.getD j 0 ∈ l:=by rw [B2,K4 (by rw [f.o];exact c0)];exact List.getElem_mem _
   by_cases M:l.getD j 0<n
   .have g0:∀ i,i<j+1->l.getD i 0<n:=fun i q=>by
     rcases Nat.lt_or_eq_of_le (Nat.le_of_lt_succ q) with G|G
     .exact S i G
     .rw [G];exact M
    have d0:=ae g0;have h0:¬ ((n:Int)<=l.getD j 0):=Om0
    go_wp2_with fail
    go_roundw
    case rel=>exact ⟨j+1,by rw [f.o];omega,by go_num,d0.o,rfl⟩
    case measure=>simp [intOf];omega
   .have h0:(n:Int)<=l.getD j 0:=Om0
    have f0:l.all (fun x=>decide (x<n))=B:=Gr0
    have t:=ae (HN.o f0)
    go_wp2_with fail
    (apply (fL _ 4 De0).mono)
    rintro e w2 ⟨rfl,rfl⟩
    go_wp2_with fail
    exact ⟨rfl,t.o⟩
  .obtain rfl:j=m:=Om0
   have i0:l.all (fun x=>decide (x<n))=E:=by
    rw [List.all_eq_true];intro x M;obtain ⟨i,q,rfl⟩:=List.getElem_of_mem M;have:=S i (by rw [<- f.o];exact q);rw [B2,K4 q] at this;simpa using this
   have t:=ae (HY.o i0)
   exact Zy t.o
def MP (z:Int) (w:L) (e:Ending) (w':L):Prop:=e = I (Z Y z)/\w=w'
def nT (w:L) (d:Nat) (h:Hd) (F:ai) (hs:ag w (aP d h*F)) (i:Nat) (G:i<256) :
  Calls N 104 #[X (U ⟨d,0,O⟩),Z Y (i:Int)] w (MP (h.aN i) w):=by
 obtain ⟨f,t⟩:=ag.held.1 hs
 have l:∀ j,j<261->w.cell? ⟨d,j,O⟩=U (Z Y (h.l.getD j 0)):=fun j x=>by
  rw [t.cell,bK (by rw [Hd.uZ f];exact x)]
 by_cases q:i<16
 .have e:=l (4+i) Om0
  rw [Hd.Wl f q] at e
  go_in
  go_wp2_with fail
  go_ret
  exact ⟨rfl,rfl⟩
 .have e:=l (21+(i-16)) Om0
  rw [Hd.Ue f Om0] at e
  go_in
  go_wp2_with fail
  go_ret
  exact ⟨rfl,rfl⟩
def VJ (d:Nat) (h:Hd) (F:ai) (w:L) (e:Ending) (w':L):Prop:=e = I (A #[])/\ag w' (aP d h*F)/\aj w w'
def ri (w:L) (d:Nat) (h:Hd) (F:ai) (hs:ag w (aP d h*F)) (i:Nat) (hi:i<256) (b:Int) :
  Calls N 124 #[X (U ⟨d,0,O⟩),Z Y (i:Int),Z Y b] w (VJ d (h.put i b) F w):=by
 obtain ⟨q,e⟩:=ag.held.1 hs
 have G:∀ j,j<261->w.cell? ⟨d,j,O⟩=U (Z Y (h.l.getD j 0)):=fun j hj=>by
  rw [e.cell,bK (by rw [Hd.uZ q];exact hj)]
 have S:∀ j,ag (w.setCell ⟨d,j,O⟩ (Z Y b)) (pt d (V (ints (h.l.set j b)) 153 (0,0))*F):=fun j=>by
  have:=e.setCell j (Z Y b)
  rwa [gM] at this
 have f:=Hd.Um q (i:=i) b;have M:=Hd.ux q i b
 by_cases x:i<16
 .have hc:=G (4+i) Om0
  have hz:=e.frozen (4+i);rw [if_pos x] at f;have t:=ag.held.2 ⟨M,by rw [f];exact S (4+i)⟩;have l:=ae t
  go_in
  go_wp2_with fail
  go_end0
  exact ⟨rfl,l.o,(aj.refl w).setCell _ _⟩
 .have hc:=G (21+(i-16)) Om0
  have hz:=e.frozen (21+(i-16));rw [if_neg x] at f;have t:=ag.held.2 ⟨M,by rw [f];exact S _⟩;have l:=ae t
  go_in
  go_wp2_with fail
  go_end0
  exact ⟨rfl,l.o,(aj.refl w).setCell _ _⟩
end Go.Proofs.Fs
namespace Go.SL
open RowKit
def kN (d:List UInt8):Nd × Int:=if ((iF d).ok && (d.drop 41).all (· == 0))=E then (iF d,0) else (⟨0,0,0,A2 16 0,0⟩,4)
def l7 (d:List UInt8):List Int × Int:=if (bS d 0 240).all dh=E then (bS d 0 240,0) else (A2 240 0,4)
def Gm (d:List UInt8):(kN d).1.dr.length=16:=by
 unfold kN;split
 .exact bL _ _ _
 .rfl
def CD (d:List UInt8):(l7 d).1.length=240:=by
 unfold l7;split
 .exact bL _ _ _
 .rfl
def RJ (d:List UInt8):(kN d).2=0\/(kN d).2=4:=by unfold kN;split;exact .inl rfl;exact .inr rfl
def TX (d:List UInt8):(l7 d).2=0\/(l7 d).2=4:=by unfold l7;split;exact .inl rfl;exact .inr rfl
section
variable {σ:Type}
def iT (n:Nat) (id:Nat) (d:Nd) (row:List Int):WM σ Hd:=WM.bind (eP n d.dr) fun _=>WM.bind (eP n row) fun _=>WM.pure ⟨id,d,row⟩
def TV (p:Nd × Int) (k:Nd->WM σ Hd):WM σ Hd:=fun st=>if p.2=0 then k p.1 st else (.bad p.2,st)
def NB (p:List Int × Int) (k:List Int->WM σ Hd):WM σ Hd:=fun st=>if p.2=0 then k p.1 st else (.bad p.2,st)
def lj (ask:cL σ) (n:Nat) (id:Nat) (d:Nd):WM σ Hd:=fun st=>
 if d.rw=0 then iT n id d (A2 240 0) st
 else (WM.bind (eP n [d.rw]) fun _=>WM.bind (cZ ask d.rw) fun e=>NB (l7 e) (iT n id d)) st
def fZ (ask:cL σ) (n:Nat) (id:Int):WM σ Hd:=fun st=>
 if 1<=id/\id<n then (WM.bind (cZ ask id) fun d=>TV (kN d) (lj ask n id.toNat)) st else (.bad 1,st)
end
end Go.SL
namespace Go.Proofs.Fs
open RowKit SL Proofs.Ba
def Bn (d e f x2 x3 x4 x5 x6 x7 x8 x9 i j l q t x G M S b0:Int):prog.built 153 [(0,Z Y d),(1,.agg #[Z Y e,Z Y f,Z Y x2,Z Y x3,Z Y x4,Z Y x5,Z Y x6,Z Y x7,Z Y x8,Z Y x9,Z Y i,Z Y j,Z Y l,Z Y q,Z Y t,Z Y x,Z Y G,Z Y M,Z Y S,Z Y b0])]=U (ints ([d,e,f,x2,x3,x4,x5,x6,x7,x8,x9,i,j,l,q,t,x,G,M,S,b0]++A2 240 0)):=Kr0
def TO {l:List Int} (h:l.length=16):∃ a0 d x a3 a4 a5 G M S a9 e f i j q t,l=[a0,d,x,a3,a4,a5,G,M,S,a9,e,f,i,j,q,t]:=by
 match l,h with
 | [a0,d,x,a3,a4,a5,G,M,S,a9,e,f,i,j,q,t],_=>exact ⟨a0,d,x,a3,a4,a5,G,M,S,a9,e,f,i,j,q,t,rfl⟩
def qy (d:Int) (n:Nd) (h:n.dr.length=16):prog.built 153 [(0,Z Y d),(1,.agg (n.l.map (A3 Y)).toArray)]=U (ints (d :: (n.l++A2 240 0))):=by
 obtain ⟨kd,lk,sz,dr,rw⟩:=n;obtain ⟨a0,e,x,a3,a4,a5,G,M,S,a9,f,i,j,l,q,t,rfl⟩:=TO h;exact Bn d kd lk sz a0 e x a3 a4 a5 G M S a9 f i j l q t rw
def gR {P:Program} {ops:Array Oper} {rest:List Oper} {o:Oper} {a:Act} {w:L} {Q:Exit->Act->L->Prop} (f:o.guard=O) (t:TypeId) (parts:Array (Nat × Operand)) (q:o.op = .build t parts)
  (l:List (Nat × K)) (j:parts.toList.map (fun p=>(p.1,a.eval p.2))=l) (C:Array K) (d:P.built t l=U C) (h:wpList P ops Q rest (a.put o.dst (.agg C)) w):wpList P ops Q (o :: rest) a w:=by
 have e:P.built t (parts.map fun (i,x)=>(i,a.eval x)).toList=U C:=by rw [Array.toList_map];exact j▸d
 exact wpList_build f t parts q (by rw [e];rfl) (by rw [e];exact h)
def Vq (d:List UInt8) (w:L) (e:Ending) (w':L):Prop:=e = I (A #[(kN d).1.v,Z Y (kN d).2])/\ag w' (whole w)/\aj w w'
def QY (d:List UInt8) (w:L) (e:Ending) (w':L):Prop:=e = I (A #[.agg (ints (l7 d).1),Z Y (l7 d).2])/\ag w' (whole w)/\aj w w'
def O9 (w:L) (v:K) (d:List UInt8) (q:Rd w v d) (l:d.length=480):Calls N 153 #[v] w (Vq d w):=by
 refine qx w v d q l _ (fun f j w' i h4=>?_) (fun f w' i h4=>?_)
 .have e:kN d=(iF d,0):=if_pos (by rw [f,j];rfl)
  exact ⟨by rw [e],i,h4⟩
 .have e:kN d=(⟨0,0,0,A2 16 0,0⟩,4):=if_neg (by rcases f with h|h <;> rw [h] <;> simp)
  exact ⟨by rw [e];rfl,i,h4⟩
def Mg (w:L) (v:K) (d:List UInt8) (l:Rd w v d) (j:d.length=480):Calls N 156 #[v] w (QY d w):=by
 refine xF w v d l j _ (fun f w' i h4=>?_) (fun f w' i h4=>?_)
 .have e:l7 d=(bS d 0 240,0):=if_pos f
  exact ⟨by rw [e],i,h4⟩
 .have e:l7 d=(A2 240 0,4):=if_neg (by rw [f];simp)
  exact ⟨by rw [e];rfl,i,h4⟩
section
variable {σ α:Type}
def vX {w:L} {x:Wk σ} {S:Hp} {st:eG σ} {F:ai} (h:ag w (aG x S st*F)):w.cell? ⟨x.k,1,O⟩=U (Z Y (x.n:Int)):=by
 obtain ⟨v,d⟩:=ag.iI h;exact (d.to (by unfold cG;ac_rfl:_=pt x.k (V (x.cells v st.dt) 139 (0,0))*(dG x.c S x.b st.b*(fA st.bits v*F)))).cell 1
def pK (h:Hd) (v:K):ai:=ex fun d=>fact (v=az d)*aP d h
def ME {ask:cL σ} {n:Nat} {id:Int} {st:eG σ} (h:¬ (1<=id/\id<n)):fZ ask n id st=(.bad 1,st):=if_neg h
def GR {ask:cL σ} {n:Nat} {id:Int} {st d:eG σ} {c:Int} (h:1<=id/\id<n) (e:cZ ask id st=(.bad c,d)):fZ ask n id st=(.bad c,d):=
 (if_pos h).trans (WM.bd e)
def JL {ask:cL σ} {n:Nat} {id:Int} {st e:eG σ} {d:List UInt8} {nd:Nd} (h:1<=id/\id<n) (i:cZ ask id st=(.ok d,e)) (f:kN d=(nd,4)):fZ ask n id st=(.bad 4,e):=by
 refine ((if_pos h).trans (WM.aW i)).trans ?_;rw [f];exact if_neg (show ¬ (4:Int)=0 by decide)
def Mk {ask:cL σ} {n:Nat} {id:Int} {st e:eG σ} {d:List UInt8} {nd:Nd} (h:1<=id/\id<n) (i:cZ ask id st=(.ok d,e)) (f:kN d=(nd,0)):fZ ask n id st=lj ask n id.toNat nd e:=by
 refine ((if_pos h).trans (WM.aW i)).trans ?_;rw [f];exact if_pos rfl
def ib {n:Nat} {l:List Int} {st:eG σ} (h:l.all (fun x=>decide (x<n))=E):eP n l st=(.ok (),st):=by unfold eP;rw [if_pos h]
def qo {n:Nat} {l:List Int} {st:eG σ} (h:l.all (fun x=>decide (x<n))=B):eP n l st=(.bad 4,st):=by unfold eP;rw [if_neg (by rw [h];simp)]
def yP {n id:Nat} {nd:Nd} {row:List Int} {st:eG σ} (d:nd.dr.all (fun x=>decide (x<n))=E) (e:row.all (fun x=>decide (x<n))=E):iT n id nd row st=(.ok ⟨id,nd,row⟩,st):=
 (WM.aW (ib d)).trans (WM.aW (ib e))
def uJ {n id:Nat} {nd:Nd} {row:List Int} {st:eG σ} (d:nd.dr.all (fun x=>decide (x<n))=E) (e:row.all (fun x=>decide (x<n))=B):iT n id nd row st=(.bad 4,st):=
 (WM.aW (ib d)).trans (WM.bd (qo e))
def wV {n id:Nat} {nd:Nd} {row:List Int} {st:eG σ} (d:nd.dr.all (fun x=>decide (x<n))=B):iT n id nd row st=(.bad 4,st):=
 WM.bd (qo d)
def M5 {ask:cL σ} {n id:Nat} {nd:Nd} {st:eG σ} (h:nd.rw=0):lj ask n id nd st=iT n id nd (A2 240 0) st:=if_pos h
def KF {ask:cL σ} {n id:Nat} {nd:Nd} {st:eG σ} (h:nd.rw≠0) (d:[nd.rw].all (fun x=>decide (x<n))=B):lj ask n id nd st=(.bad 4,st):=
 (if_neg h).trans (WM.bd (qo d))
def LS {ask:cL σ} {n id:Nat} {nd:Nd} {st d:eG σ} {c:Int} (h:nd.rw≠0) (e:[nd.rw].all (fun x=>decide (x<n))=E) (f:cZ ask nd.rw st=(.bad c,d)):lj ask n id nd st=(.bad c,d):=
 (if_neg h).trans ((WM.aW (ib e)).trans (WM.bd f))
def Lv {ask:cL σ} {n id:Nat} {nd:Nd} {st e:eG σ} {d:List UInt8} {row:List Int} (h:nd.rw≠0) (f:[nd.rw].all (fun x=>decide (x<n))=E) (i:cZ ask nd.rw st=(.ok d,e)) (j:l7 d=(row,4)):lj ask n id nd st=(.bad 4,e):=by
 refine (if_neg h).trans ((WM.aW (ib f)).trans ((WM.aW i).trans ?_));rw [j];exact if_neg (show ¬ (4:Int)=0 by decide)
def Lu {ask:cL σ} {n id:Nat} {nd:Nd} {st e:eG σ} {d:List UInt8} {row:List Int} (h:nd.rw≠0) (f:[nd.rw].all (fun x=>decide (x<n))=E) (i:cZ ask nd.rw st=(.ok d,e)) (j:l7 d=(row,0)):lj ask n id nd st=iT n id nd row e:=by
 refine (if_neg h).trans ((WM.aW (ib f)).trans ((WM.aW i).trans ?_));rw [j];exact if_pos rfl
def BD (id:Int) (e z i:List Int) (d:e.length=20) (q:z.length=240) (f:i.length=240):fT (ints (id :: (e++z))) 21 (i.map (A3 Y))=ints (id :: (e++i)):=by
 have x:(ints (id :: (e++z))).size=261:=by rw [er];simp [d,q]
 apply Array.ext_getElem?;intro k;rw [iS _ _ _ _ (by rw [J3,f,x];decide),J3,f,dP,dP]
 by_cases l:21<=k/\k<21+240
 .rw [if_pos l,K3]
  obtain ⟨j,rfl⟩:∃ j,k=j+1:=⟨k-1,Om0⟩
  rw [J2,K5 Om0,d];congr 2
 .rw [if_neg l]
  rcases Nat.lt_or_ge k 21 with t|t
  .cases k with
   | zero=>rfl
   | succ j=>rw [J2,J2,K9 Om0,K9 Om0]
  .rw [N4 (by simp [d,q];omega),N4 (by simp [d,f];omega)]
def uG (x:Wk σ) (hc:x.c.Ok) (w:L) (e0:Hp) (st:eG σ) (id:Int) (F:ai) (h:ag w (aG x e0 st*(al e0*F))) (Q:Ending->L->Prop)
  (hQ:∀ e w',WQ x pK e0 F w (fZ x.c.ask x.n id st) e w'->Q e w') :
  Calls N 93 #[X (U ⟨x.k,0,O⟩),Z Y id] w Q:=by
 have c1:=vX h
 by_cases m0:1<=id/\id<x.n
 .have hr:=lT x hc w e0 st id F h
  have Hid:=ae m0;obtain ⟨i1,i2⟩:=m0;clear h;obtain ⟨⟨Y1,bH⟩,hp⟩:∃ p,cZ x.c.ask id st=p:=⟨_,rfl⟩
  rw [hp] at hr
  cases Y1 with
  | bad c=>
   have t:=ae hQ;have Hp:=ae (GR Hid.o hp);clear hp hQ
   go_in
   go_wp2_with fail
   (with_reducible apply (gH w).mono)
   rintro e w2 ⟨rfl,rfl⟩
   go_wp2_with fail
   (with_reducible apply hr.mono)
   rintro e w1 ⟨S',hS,d1,rfl,h2⟩
   go_wp2_with fail
   exact ⟨rfl,t.o _ _ (by rw [Hp.o];exact ⟨S',hS,d1,rfl,h2⟩)⟩
  | ok H0=>
   have hL:=iW hp;have f:=ae (Gm H0);have B1:=RJ H0;have hd:=fun w1 v1 hr=>O9 w1 v1 H0 hr hL;unfold Vq at hd;have t:=ae hQ;have o1:=fun d=>Mk (nd:=d) Hid.o hp;have k0:=fun d=>JL (nd:=d) Hid.o hp;generalize kN H0=p at *;obtain ⟨d,c⟩:=p;dsimp only at B1 f hd;have T0:=ae (o1 d);have h0:=ae (k0 d);have N1:d.v = .agg (d.l.map (A3 Y)).toArray:=rfl;rw [N1] at hd;clear hp hQ o1 k0 hL N1
   go_in
   go_wp2_with fail
   (with_reducible apply (gH w).mono)
   rintro e w2 ⟨rfl,rfl⟩
   go_wp2_with fail
   (with_reducible apply hr.mono)
   rintro e w1 ⟨M,v1,c0,d1,rfl,h1⟩;have AD:=hd w1 v1 h1.oa;have Hk:=ae (fun w' (h:ag w' (whole w1))=>ag.cM h h1);clear hr c1 hd
   go_wp2_with fail
   (with_reducible apply AD.mono)
   rintro e w2 ⟨rfl,h2,d2⟩;have H2:=(Hk.o w2 h2).right;have D2:=d1.trans d2;clear AD Hk h1 h2 d1 d2;have hZ:=H2.alloc (V #[Z Y 0,Z Y 0,Z Y 0,Z Y 0,Z Y 0,Z Y 0,Z Y 0,Z Y 0,Z Y 0,Z Y 0,Z Y 0,Z Y 0,Z Y 0,Z Y 0,Z Y 0,Z Y 0,Z Y 0,Z Y 0,Z Y 0,Z Y 0] 66 (0,0));have DZ:=D2.alloc (V #[Z Y 0,Z Y 0,Z Y 0,Z Y 0,Z Y 0,Z Y 0,Z Y 0,Z Y 0,Z Y 0,Z Y 0,Z Y 0,Z Y 0,Z Y 0,Z Y 0,Z Y 0,Z Y 0,Z Y 0,Z Y 0,Z Y 0,Z Y 0] 66 (0,0));have k1:(d.l.map (A3 Y)).toArray.size=20:=by simp [Nd.cells f.o]
   have z1:(d.l.map (A3 Y)).toArray.all (·.oneCell')=E:=by simp [K7]
   have L1:(prog.info? 66).map (·.size)=U (d.l.map (A3 Y)).toArray.size:=by rw [k1];exact bC
   have S1:=ae k1;have T1:=ae z1;have W1:=ae L1;have b0:=hZ.setRow (cs':=(d.l.map (A3 Y)).toArray);have m1:=ae (DZ.setRow w2.heap.size (d.l.map (A3 Y)).toArray);have Hz:=ae hZ.heap;clear k1 z1 L1 H2 D2 DZ hZ
   go_wp2_with (refine wpList_store_row (by exact rfl) 66 (.tmp 5) (.tmp 24) (by exact rfl) w2.heap.size (d.l.map (A3 Y)).toArray (by exact rfl) (by exact rfl) 66 _ (by with_reducible exact Hz.o) W1.o (by rw [S1.o];rfl) T1.o ?_)
   generalize w2.heap.size=j at *;generalize World.setRow _ _ _=q at *;clear Hz;rcases B1 with rfl|rfl
   .have HE:=ae (T0.o rfl)
    clear T0 h0;have j1:=qy id d f.o;obtain ⟨i,R0⟩:=Mn0 (A2 240 (0:Int))
    rw [<- R0] at j1;have G:RowKit.Hid (i.length=240):=by show i.length=240;rw [R0];rfl
    have O1:=ae R0;clear R0;have x0:=ae j1
    have K1:q.rangeAt j 0 (d.l.map (A3 Y)):=fun a2 v hv=>by
     rw [Nat.zero_add,b0.cell,List.getElem?_toArray];exact hv
    have t1:(prog.info? 66).map (·.size)=U (d.l.map (A3 Y)).length:=by rw [J3,Nd.cells f.o];exact bC
    have G0:=ae K1;have F0:=ae t1;clear j1 K1 t1;have c4:q.cell? ⟨j,19,O⟩=U (Z Y d.rw):=(b0.cell 19).trans (Nd.Ir f.o);have V1:=ae b0;have x1:j<q.heap.size:=b0.lt;clear b0;have N0:ag (q.alloc (V (ints (id :: (d.l++i))) 153 (0,0))) (pt q.heap.size (V (ints (id :: (d.l++i))) 153 (0,0))*(pt j (V (d.l.map (A3 Y)).toArray 66 (0,0))*(aG x M bH*(al M*F)))):=V1.o.alloc _;have D0:=ae (m1.o.alloc (V (ints (id :: (d.l++i))) 153 (0,0)));have W0:=ae N0;have y1:q.heap.size<(q.alloc (V (ints (id :: (d.l++i))) 153 (0,0))).heap.size:=N0.lt;have f1:(q.alloc (V (ints (id :: (d.l++i))) 153 (0,0))).cell? ⟨j,19,O⟩=U (Z Y d.rw):=(N0.ah.cell 19).trans (Nd.Ir f.o);clear N0
    (with_reducible apply (kJ _).mono)
    rintro e w4 ⟨rfl,rfl⟩
    by_cases f0:d.rw=0
    .have g0:=ae ((M5 (ask:=x.c.ask) (n:=x.n) (id:=id.toNat) (st:=bH) f0).trans (by rw [<- O1.o]))
     rw [f0] at c4 f1
     go_wp2_with (first
      | (refine wpList_load_mid (by exact rfl) 66 (.tmp 5) (by exact rfl) j 0 (by exact rfl) (d.l.map (A3 Y)) _ (by with_reducible exact G0.o) underlying66 rfl (by with_reducible exact F0.o) ?_)
      | (refine gR (by exact rfl) 153 #[(0,.tmp 28),(1,.tmp 29)] (by exact rfl) _ (by exact rfl) _ (by exact x0.o) ?_))
     have hT:=W0.o;generalize q.alloc (V (ints (id :: (d.l++i))) 153 (0,0))=w5 at *;generalize q.heap.size=l at *;clear c4 f1 G0 F0 x1 y1 x0
     have p0:pP w5 (H (U ⟨j,3,O⟩) 16 16) d.dr:=by
      have h9:ag w5 (pt j (V (ints d.l) 66 (0,0))*_):=hT.ah;have:=pP.row h9 3 16 (by rw [Nd.cells f.o];decide) De0
      rwa [Nd.lS f.o] at this
     have q0:pP w5 (H (U ⟨l,21,O⟩) 240 240) i:=by
      have:=pP.row hT 21 240 (by rw [B3,L5,Nd.cells f.o,G.o];decide) De0
      rwa [show ((id :: (d.l++i)).drop 21).take 240=i from by rw [N2,List.drop_left' (Nd.cells f.o),O4 (by rw [G.o];decide)]] at this
     have c1:w5.cell? ⟨x.k,1,O⟩=U (Z Y (x.n:Int)):=vX hT.right.right;have hA:∀ Q,_->_->Calls N 155 #[X (U ⟨x.k,0,O⟩),H (U ⟨j,3,O⟩) 16 16] w5 Q:=jv w5 x.k x.n _ d.dr (by rw [f.o];decide) p0 c1;have hB:∀ Q,_->_->Calls N 155 #[X (U ⟨x.k,0,O⟩),H (U ⟨l,21,O⟩) 240 240] w5 Q:=jv w5 x.k x.n _ i (by rw [G.o];decide) q0 c1;have HT:=ae hT;clear p0 q0 c1 hT
     go_wp2_with fail
     refine hA _ (fun r0=>?_) (fun n0=>?_)
     .have j0:=ae r0
      clear r0 hA
      go_wp2_with fail
      refine hB _ (fun s0=>?_) (fun o0=>?_)
      .have e1:=ae s0
       clear s0 hB
       go_wp2_with fail
       refine t.o _ _ ?_;rw [HE.o.trans (g0.o.trans (yP j0.o e1.o))];refine ⟨M,_,c0,D0.o,rfl,?_⟩;refine ag.aw.2 ⟨l,(ag.aq.2 ⟨rfl,ag.held.2 ⟨⟨f.o,G.o⟩,?_⟩⟩:ag _ (fact _*_)).to (ay _ _ _).symm⟩;have e:(Hd.l ⟨id.toNat,d,i⟩)=id :: (d.l++i):=by show ((id.toNat:Int) :: _)=_;rw [L4 Om0]
       rw [e];exact (HT.o.t00 (pt j (V (d.l.map (A3 Y)).toArray 66 (0,0))*(pt l (V (ints (id :: (d.l++i))) 153 (0,0))*(aG x M bH*(al M*F))))).right
      .have Z0:=ae o0
       clear o0 hB
       go_wp2_with fail
       exact ⟨rfl,t.o _ _ (by rw [HE.o.trans (g0.o.trans (uJ j0.o Z0.o))];exact ⟨M,c0,D0.o,rfl,HT.o.right.right⟩)⟩
     .have Y0:=ae n0
      clear n0 hA hB
      go_wp2_with fail
      exact ⟨rfl,t.o _ _ (by rw [HE.o.trans (g0.o.trans (wV Y0.o))];exact ⟨M,c0,D0.o,rfl,HT.o.right.right⟩)⟩
    .have Z1:(d.rw != 0)=E:=by simpa using f0
     have a1:=ae f0;have g0:=ae (KF (ask:=x.c.ask) (n:=x.n) (id:=id.toNat) (st:=bH) f0);have l0:=W0.o.alloc (V #[Z Y d.rw] 3 (0,0));have D1:=ae (D0.o.alloc (V #[Z Y d.rw] 3 (0,0)));have X0:=ae l0
     have E1:pP ((q.alloc (V (ints (id :: (d.l++i))) 153 (0,0))).alloc (V #[Z Y d.rw] 3 (0,0))) (H (U ⟨q.heap.size+1,0,O⟩) 1 1) [d.rw]:=by
      have h8:=l0;rw [L3] at h8;exact pP.row (xs:=[d.rw]) h8 0 1 (Nat.le_refl _) De0
     have c1:=vX l0.right.right.right;have hC:∀ Q,_->_->Calls N 155 #[X (U ⟨x.k,0,O⟩),H (U ⟨q.heap.size+1,0,O⟩) 1 1] _ Q:=jv _ x.k x.n _ [d.rw] (by show 1<=1000;decide) E1 c1;have X1:=(l0.au.cell 19).trans (Nd.Ir f.o);clear l0 E1 c1 f0
     go_wp2_with (first
      | (refine wpList_load_mid (by exact rfl) 66 (.tmp 5) (by exact rfl) j 0 (by exact rfl) (d.l.map (A3 Y)) _ (by with_reducible exact G0.o) underlying66 rfl (by with_reducible exact F0.o) ?_)
      | (refine gR (by exact rfl) 153 #[(0,.tmp 28),(1,.tmp 29)] (by exact rfl) _ (by exact rfl) _ (by exact x0.o) ?_))
     refine hC _ (fun hy=>?_) (fun hn=>?_)
     .have Hy:=ae hy
      have S0:=lT x hc _ M bH d.rw _ (X0.o.right.t00 (aG x M bH*(al M*(pt q.heap.size (V (ints (id :: (d.l++i))) 153 (0,0))*(pt j (V (d.l.map (A3 Y)).toArray 66 (0,0))*F)))));clear hy hC;generalize q.alloc (V (ints (id :: (d.l++i))) 153 (0,0))=w4 at *;generalize q.heap.size=l at *;clear c4 f1 G0 F0 x1 y1 x0 W0;obtain ⟨⟨r2,l1⟩,d0⟩:∃ p,cZ x.c.ask d.rw bH=p:=⟨_,rfl⟩
      rw [d0] at S0
      cases r2 with
      | bad c=>
       have V0:=ae (LS (id:=id.toNat) a1.o Hy.o d0);clear d0
       go_wp2_with fail
       (with_reducible apply S0.mono)
       rintro e w6 ⟨S,K0,d6,rfl,h6⟩
       go_wp2_with fail
       exact ⟨rfl,t.o _ _ (by rw [HE.o.trans V0.o];exact ⟨S,c0.trans K0,D1.o.trans d6,rfl,h6.t00 ((aG x S l1*(al S*F))*(pt l (V (ints (id :: (d.l++i))) 153 (0,0))*pt j (V (d.l.map (A3 Y)).toArray 66 (0,0)))) |>.left⟩)⟩
      | ok L2=>
       have q1:=iW d0;have p1:=fun row=>Lv (row:=row) (id:=id.toNat) a1.o Hy.o d0;have k0:=fun row=>Lu (row:=row) (id:=id.toNat) a1.o Hy.o d0;have hd:=fun w1 v1 hr=>Mg w1 v1 L2 hr q1;have g1:=CD L2;have H1:=TX L2;unfold QY at hd;generalize l7 L2=p at *;obtain ⟨row,c⟩:=p;dsimp only at hd g1 H1;have V0:=ae (p1 row);have h0:=ae (k0 row);have u0:=ae g1;clear p1 k0 d0 q1 g1
       go_wp2_with fail
       (with_reducible apply S0.mono)
       rintro e w6 ⟨S,v2,K0,d6,rfl,h6⟩;have r1:=hd w6 v2 h6.oa;have Hk:=ae (fun w' (h:ag w' (whole w6))=>ag.cM h h6);clear S0 hd
       go_wp2_with fail
       (with_reducible apply r1.mono)
       rintro e w7 ⟨rfl,h7,d7⟩;have h8:ag w7 (pt l (V (ints (id :: (d.l++i))) 153 (0,0))*(pt j (V (d.l.map (A3 Y)).toArray 66 (0,0))*(aG x S l1*(al S*F)))):=(Hk.o w7 h7).right.u00;have D8:=ae (aj.setCells (row.map (A3 Y)) 21 l ((D1.o.trans d6).trans d7));have L0:=c0.trans K0;have b0:=ag.setCells (row.map (A3 Y)) 21 h8;rw [BD id d.l i row (Nd.cells f.o) G.o u0.o] at b0
       have M1:w7.there l 21 (row.map (A3 Y)).toArray.size:=by
        have hz:(row.map (A3 Y)).toArray.size=240:=by simp [u0.o]
        rw [hz];exact ag.there h8 (by rw [er,B3,L5,Nd.cells f.o,G.o];decide)
       have s1:(prog.info? 151).map (·.size)=U (row.map (A3 Y)).toArray.size:=by
        have hz:(row.map (A3 Y)).toArray.size=240:=by simp [u0.o]
        rw [hz];exact ki
       have A1:(row.map (A3 Y)).toArray.all (·.oneCell')=E:=by simp [K7]
       have u1:Value.agg (ints row) = .agg (row.map (A3 Y)).toArray:=rfl;have n1:=ae M1;have R1:=ae s1;have U1:=ae A1;have b1:=ae b0;rw [u1];clear r1 Hk h6 h7 d6 d7 h8 M1 s1 A1 u1 b0 X0 D1 c0 K0 X1
       go_wp2_with (refine wpList_store_mid (by exact rfl) 151 (.tmp 50) (.tmp 47) (by exact rfl) l 21 (row.map (A3 Y)).toArray (by exact rfl) (by exact rfl) (by with_reducible exact n1.o) R1.o U1.o ?_)
       rcases H1 with rfl|rfl
       .have i0:=ae (HE.o.trans (h0.o rfl))
        (with_reducible apply (kJ _).mono)
        rintro e w9 ⟨rfl,rfl⟩;have hT:ag (w7.setCells l 21 (row.map (A3 Y)).toArray.toList) _:=b1.o;clear G;have G:=u0;have DD:RowKit.Hid (aj w (w7.setCells l 21 (row.map (A3 Y)).toArray.toList)):=D8;clear n1 b1 D8;generalize w7.setCells l 21 (row.map (A3 Y)).toArray.toList=w8 at *
        have p0:pP w8 (H (U ⟨j,3,O⟩) 16 16) d.dr:=by
         have h9:ag w8 (pt j (V (ints d.l) 66 (0,0))*_):=hT.ah;have:=pP.row h9 3 16 (by rw [Nd.cells f.o];decide) De0
         rwa [Nd.lS f.o] at this
        have q0:pP w8 (H (U ⟨l,21,O⟩) 240 240) row:=by
         have:=pP.row hT 21 240 (by rw [B3,L5,Nd.cells f.o,G.o];decide) De0
         rwa [show ((id :: (d.l++row)).drop 21).take 240=row from by rw [N2,List.drop_left' (Nd.cells f.o),O4 (by rw [G.o];decide)]] at this
        have c1:w8.cell? ⟨x.k,1,O⟩=U (Z Y (x.n:Int)):=vX hT.right.right;have hA:∀ Q,_->_->Calls N 155 #[X (U ⟨x.k,0,O⟩),H (U ⟨j,3,O⟩) 16 16] w8 Q:=jv w8 x.k x.n _ d.dr (by rw [f.o];decide) p0 c1;have hB:∀ Q,_->_->Calls N 155 #[X (U ⟨x.k,0,O⟩),H (U ⟨l,21,O⟩) 240 240] w8 Q:=jv w8 x.k x.n _ row (by rw [G.o];decide) q0 c1;have HT:=ae hT;clear p0 q0 c1 hT
        go_wp2_with fail
        refine hA _ (fun r0=>?_) (fun n0=>?_)
        .have j0:=ae r0
         clear r0 hA
         go_wp2_with fail
         refine hB _ (fun s0=>?_) (fun o0=>?_)
         .have e1:=ae s0
          clear s0 hB
          go_wp2_with fail
          refine t.o _ _ ?_;rw [i0.o.trans (yP j0.o e1.o)];refine ⟨S,_,L0,DD.o,rfl,?_⟩;refine ag.aw.2 ⟨l,(ag.aq.2 ⟨rfl,ag.held.2 ⟨⟨f.o,G.o⟩,?_⟩⟩:ag _ (fact _*_)).to (ay _ _ _).symm⟩;have e:(Hd.l ⟨id.toNat,d,row⟩)=id :: (d.l++row):=by show ((id.toNat:Int) :: _)=_;rw [L4 Om0]
          rw [e];exact (HT.o.t00 (pt j (V (d.l.map (A3 Y)).toArray 66 (0,0))*(pt l (V (ints (id :: (d.l++row))) 153 (0,0))*(aG x S l1*(al S*F))))).right
         .have Z0:=ae o0
          clear o0 hB
          go_wp2_with fail
          exact ⟨rfl,t.o _ _ (by rw [i0.o.trans (uJ j0.o Z0.o)];exact ⟨S,L0,DD.o,rfl,HT.o.right.right⟩)⟩
        .have Y0:=ae n0
         clear n0 hA hB
         go_wp2_with fail
         exact ⟨rfl,t.o _ _ (by rw [i0.o.trans (wV Y0.o)];exact ⟨S,L0,DD.o,rfl,HT.o.right.right⟩)⟩
       .have i0:=ae (HE.o.trans (V0.o rfl))
        (with_reducible apply (fL _ 4 De0).mono)
        rintro e w9 ⟨rfl,rfl⟩
        go_wp2_with fail
        exact ⟨rfl,t.o _ _ (by rw [i0.o];exact ⟨S,L0,D8.o,rfl,b1.o.right.right⟩)⟩
     .have Hn:=ae hn
      clear hn hC
      go_wp2_with fail
      exact ⟨rfl,t.o _ _ (by rw [HE.o.trans (g0.o Hn.o)];exact ⟨M,c0,D1.o,rfl,X0.o.right.right.right⟩)⟩
   .have HE:=ae (h0.o rfl)
    clear T0 h0
    (with_reducible apply (fL _ 4 De0).mono)
    rintro e w4 ⟨rfl,rfl⟩
    go_wp2_with fail
    exact ⟨rfl,t.o _ _ (by rw [HE.o];exact ⟨M,c0,m1.o,rfl,b0.right⟩)⟩
 .have Hp:=ae (ME (ask:=x.c.ask) (st:=st) m0)
  have t:=ae hQ;have HL:=ae (show Q (.panicked (JW 1)) w from hQ _ _ (by rw [Hp.o];exact ⟨e0,Ext.refl e0,aj.refl w,rfl,h⟩));clear hQ
  by_cases h1:1<=id
  .have h2:decide (id<(x.n:Int))=B:=decide_eq_false Om0
   clear m0
   go_in
   go_wp2_with fail
   (with_reducible apply (gQ w).mono)
   rintro e w2 ⟨rfl,rfl⟩
   go_wp2_with fail
   exact ⟨rfl,HL.o⟩
  .have h2:id<1:=Om0
   clear m0
   go_in
   go_wp2_with fail
   (with_reducible apply (gQ w).mono)
   rintro e w2 ⟨rfl,rfl⟩
   go_wp2_with fail
   exact ⟨rfl,HL.o⟩
end
end Go.Proofs.Fs
namespace Go.SL
open RowKit
section
variable {σ:Type}
def Kn (h:Hd):WM σ Unit:=fun st=>
 if h.n.rw=0 then (.ok (),st) else if h.row.all dh=E then cS h.n.rw (jR h.row) st else (.bad 1,st)
def dR (h:Hd):WM σ Unit:=fun st=>
 if h.n.ok=E then (WM.bind (cS (h.id:Int) (iO h.n)) fun _=>Kn h) st else (.bad 1,st)
def Nk {h:Hd} {st:eG σ} (d:h.n.ok=B):dR h st=(.bad 1,st):=if_neg (by rw [d];decide)
def Ji {h:Hd} {st bH:eG σ} {c:Int} (d:h.n.ok=E) (e:cS (h.id:Int) (iO h.n) st=(.bad c,bH)):dR h st=(.bad c,bH):=(if_pos d).trans (WM.bd e)
def QN {h:Hd} {st bH:eG σ} (d:h.n.ok=E) (e:cS (h.id:Int) (iO h.n) st=(.ok (),bH)) (f:h.n.rw=0):dR h st=(.ok (),bH):=(if_pos d).trans ((WM.aW e).trans (if_pos f))
def Kx {h:Hd} {st bH:eG σ} (d:h.n.ok=E) (e:cS (h.id:Int) (iO h.n) st=(.ok (),bH)) (f:h.n.rw≠0) (h4:h.row.all dh=B):dR h st=(.bad 1,bH):=
 (if_pos d).trans ((WM.aW e).trans ((if_neg f).trans (if_neg (by rw [h4];decide))))
def MT {h:Hd} {st bH:eG σ} (d:h.n.ok=E) (e:cS (h.id:Int) (iO h.n) st=(.ok (),bH)) (f:h.n.rw≠0) (h4:h.row.all dh=E):dR h st=cS h.n.rw (jR h.row) bH:=
 (if_pos d).trans ((WM.aW e).trans ((if_neg f).trans (if_pos h4)))
end
end Go.SL
namespace Go.Proofs.Fs
open RowKit SL Proofs.Ba
section
variable {σ α:Type}
def sf {w:L} {d:Nat} {h:Hd} {F:ai} (e:h.fit) (hs:ag w (pt d (V (ints h.l) 153 (0,0))*F)):w.rangeAt d 1 (h.n.l.map (A3 Y)):=fun j v hv=>by
 rw [hs.cell,dP,<- K3,L6];show (List.map (A3 Y) ((h.id:Int) :: (h.n.l++h.row)))[j+1]?=U v
 rw [M2,J2,List.map_append,K9 (List.getElem?_eq_some_iff.1 hv).1];exact hv
def Bs {w:L} {d:Nat} {h:Hd} {F:ai} (e:h.fit) (hs:ag w (pt d (V (ints h.l) 153 (0,0))*F)):w.rangeAt d 21 (h.row.map (A3 Y)):=fun j v hv=>by
 rw [hs.cell,dP,<- K3,show 21+j=(20+j)+1 by omega];show (List.map (A3 Y) ((h.id:Int) :: (h.n.l++h.row)))[20+j+1]?=U v
 rw [M2,J2,List.map_append,K5 (by rw [J3,Nd.cells e.1];omega),J3,Nd.cells e.1,Nat.add_sub_cancel_left];exact hv
def qM {w:L} {d:Nat} {h:Hd} {F:ai} (e:h.fit) (hs:ag w (pt d (V (ints h.l) 153 (0,0))*F)):w.cell? ⟨d,20,O⟩=U (Z Y h.n.rw):=by
 have:=sf e hs 19 (Z Y h.n.rw) (by
  have:=Nd.Ir e.1
  rwa [dP,<- K3] at this)
 exact this
def zp {w:L} {d:Nat} {h:Hd} {F:ai} (hs:ag w (pt d (V (ints h.l) 153 (0,0))*F)):w.cell? ⟨d,0,O⟩=U (Z Y (h.id:Int)):=hs.cell 0
def Bo (x:Wk σ) (w:L) (S:Hp) (st:eG σ) (j:Nat) (h:Hd) (F:ai) (hs:ag w (aP j h*(aG x S st*(al S*F)))) (Q:Ending->L->Prop)
  (hQ:∀ e w',WQ x jo S (aP j h*F) w (dR h st) e w'->Q e w') :
  Calls N 97 #[X (U ⟨x.k,0,O⟩),X (U ⟨j,0,O⟩)] w Q:=by
 obtain ⟨i,h0⟩:=ag.held.1 hs;have HQ:=ae hQ;have Hf:=ae i;have b0:=ae (sf i h0);have s0:(prog.info? 66).map (·.size)=U (h.n.l.map (A3 Y)).length:=by rw [J3,Nd.cells i.1];exact bC
 have m0:=ae s0;have p0:h.n.v = .agg (h.n.l.map (A3 Y)).toArray:=rfl;have Hs:=ae hs
 cases G:h.n.ok with
 | false=>
  have f:=sm w h.n i.1 G;rw [p0] at f;have l:=ae (Nk (st:=st) G)
  go_in
  go_wp2_with (refine wpList_load_mid (by exact rfl) 66 (.tmp 9) (by exact rfl) j 1 (by exact rfl) (h.n.l.map (A3 Y)) _ (by with_reducible exact b0.o) underlying66 rfl (by with_reducible exact m0.o) ?_)
  (apply f.mono)
  rintro e w2 ⟨rfl,h2,d2⟩;have H2:=h2.cM Hs.o
  go_wp2_with fail
  (apply (fL _ 1 De0).mono)
  rintro e w3 ⟨rfl,rfl⟩
  go_wp2_with fail
  exact ⟨rfl,HQ.o _ _ (by rw [l.o];exact ⟨S,Ext.refl S,d2,rfl,H2.u00⟩)⟩
 | true=>
  have f:=mI w h.n i.1 G;have F0:=fun d c=>Ji (h:=h) (st:=st) (bH:=d) (c:=c) G;have G0:=fun d=>QN (h:=h) (st:=st) (bH:=d) G;have H0:=fun d=>Kx (h:=h) (st:=st) (bH:=d) G;have K0:=fun d=>MT (h:=h) (st:=st) (bH:=d) G;rw [p0] at f;have q0:=ae F0;have f0:=ae G0;have g0:=ae H0;have i0:=ae K0
  go_in
  go_wp2_with (refine wpList_load_mid (by exact rfl) 66 (.tmp 9) (by exact rfl) j 1 (by exact rfl) (h.n.l.map (A3 Y)) _ (by with_reducible exact b0.o) underlying66 rfl (by with_reducible exact m0.o) ?_)
  (apply f.mono)
  rintro e w2 ⟨v2,rfl,h2,d2⟩;have H2:=h2.under Hs.o;have x0:=H2.oa;have H3:=H2.right.t00 (aG x S st*(al S*(aP j h*F)));have c0:=zp (ag.held.1 H2.right).2;have M:=mh x w2 S st (h.id:Int) _ (iO h.n) _ H3 x0;obtain ⟨⟨k0,d⟩,t⟩:∃ p,cS (h.id:Int) (iO h.n) st=p:=⟨_,rfl⟩
  rw [t] at M
  go_wp2_with fail
  (apply (kJ _).mono)
  rintro e w3 ⟨rfl,rfl⟩
  cases k0 with
  | bad c=>
   have l:=ae (q0.o _ _ t)
   go_wp2_with fail
   (apply M.mono)
   rintro e w3 ⟨q,hS,d3,rfl,h3⟩
   go_wp2_with fail
   exact ⟨rfl,HQ.o _ _ (by rw [l.o];exact ⟨q,hS,d2.trans d3,rfl,h3⟩)⟩
  | ok u=>
   have f0:=ae (f0.o _ t);have g0:=ae (g0.o _ t);have i0:=ae (i0.o _ t)
   go_wp2_with fail
   (with_reducible apply M.mono)
   rintro e w3 ⟨q,v3,hS,d3,rfl,h3⟩;obtain ⟨rfl,h4⟩:=ag.aq.1 h3;have h5:ag w3 (aP j h*(aG x q d*(al q*F))):=h4.u00;obtain ⟨i,h6⟩:=ag.held.1 h5;have r0:=qM i h6;have D3:=ae (d2.trans d3);have HS:=ae hS
   by_cases d0:h.n.rw=0
   .have l:=ae (f0.o d0)
    have H4:=ae h4;rw [d0] at r0
    go_wp2_with fail
    go_end0
    refine HQ.o _ _ ?_;rw [l.o];exact ⟨q,_,HS.o,D3.o,rfl,ag.aq.2 ⟨rfl,H4.o⟩⟩
   .have N0:(h.n.rw != 0)=E:=by simpa using d0
    have b0:=ae (Bs i h6);have u0:(prog.info? 151).map (·.size)=U (h.row.map (A3 Y)).length:=by rw [J3,i.2];exact ki
    have n0:=ae u0;have o0:Value.agg (ints h.row) = .agg (h.row.map (A3 Y)).toArray:=rfl;have H5:=ae h5
    cases e0:h.row.all dh with
    | false=>
     have l:=ae (g0.o d0 e0);have f:=zn w3 h.row i.2 e0;rw [o0] at f
     go_wp2_with (refine wpList_load_mid (by exact rfl) 151 (.tmp 32) (by exact rfl) j 21 (by exact rfl) (h.row.map (A3 Y)) _ (by with_reducible exact b0.o) underlying151 rfl (by with_reducible exact n0.o) ?_)
     (with_reducible apply f.mono)
     rintro e w4 ⟨rfl,h7,d7⟩;have H7:=h7.cM H5.o
     go_wp2_with fail
     (with_reducible apply (fL _ 1 De0).mono)
     rintro e w5 ⟨rfl,rfl⟩
     go_wp2_with fail
     exact ⟨rfl,HQ.o _ _ (by rw [l.o];exact ⟨q,HS.o,D3.o.trans d7,rfl,H7.u00⟩)⟩
    | true=>
     have l:=ae (i0.o d0 e0);have f:=xB w3 h.row i.2 e0;rw [o0] at f
     go_wp2_with (refine wpList_load_mid (by exact rfl) 151 (.tmp 32) (by exact rfl) j 21 (by exact rfl) (h.row.map (A3 Y)) _ (by with_reducible exact b0.o) underlying151 rfl (by with_reducible exact n0.o) ?_)
     (with_reducible apply f.mono)
     rintro e w4 ⟨v4,rfl,h7,d7⟩;have H7:=h7.under H5.o;have D0:=H7.oa;have L0:=qM Hf.o (ag.held.1 H7.right).2;have M:=mh x w4 q d h.n.rw _ (jR h.row) _ (H7.right.t00 (aG x q d*(al q*(aP j h*F)))) D0;obtain ⟨⟨k0,R0⟩,t⟩:∃ p,cS h.n.rw (jR h.row) d=p:=⟨_,rfl⟩
     rw [t] at M;have l0:=ae (l.o.trans t)
     go_wp2_with fail
     (with_reducible apply (kJ _).mono)
     rintro e w5 ⟨rfl,rfl⟩
     cases k0 with
     | bad c=>
      go_wp2_with fail
      (with_reducible apply M.mono)
      rintro e w5 ⟨S2,j0,d5,rfl,h8⟩
      go_wp2_with fail
      exact ⟨rfl,HQ.o _ _ (by rw [l0.o];exact ⟨S2,HS.o.trans j0,(D3.o.trans d7).trans d5,rfl,h8⟩)⟩
     | ok u=>
      go_wp2_with fail
      (with_reducible apply M.mono)
      rintro e w5 ⟨S2,v5,j0,d5,rfl,h8⟩;obtain ⟨rfl,h9⟩:=ag.aq.1 h8
      go_wp2_with fail
      go_end0
      refine HQ.o _ _ ?_;rw [l0.o];exact ⟨S2,_,HS.o.trans j0,(D3.o.trans d7).trans d5,rfl,ag.aq.2 ⟨rfl,h9⟩⟩
end
end Go.Proofs.Fs
namespace Go.SL
open RowKit
section
variable {σ α:Type}
def oq:WM σ Unit:=fun st=>if st.dt=E then cS 0 (st.bits.getD []) st else (.ok (),st)
def Vd (M:gD σ):Rs α × eG σ->Rs α × gD σ
 | (.ok a,st)=>(.ok a,st.b)
 | (.bad c,st)=>(.bad c,{ M with s:=st.b.s })
def dM (m:WM σ α) (M:gD σ):Rs α × gD σ:=Vd M ((WM.bind m fun a=>WM.bind oq fun _=>WM.pure a) ⟨M,O,B⟩)
def wU {m:WM σ α} {M:gD σ} {st:eG σ} {c:Int} (h:m ⟨M,O,B⟩=(.bad c,st)):dM m M=(.bad c,{ M with s:=st.b.s }):=by
 unfold dM;rw [WM.bd h];rfl
def zw {m:WM σ α} {M:gD σ} {st:eG σ} {a:α} (h:m ⟨M,O,B⟩=(.ok a,st)) (d:st.dt=B):dM m M=(.ok a,st.b):=by
 have e:(WM.bind oq fun _=>WM.pure a) st=(.ok a,st):=WM.aW (if_neg (by rw [d];decide));unfold dM;rw [WM.aW h,e];rfl
def FD {m:WM σ α} {M:gD σ} {st st':eG σ} {a:α} (h:m ⟨M,O,B⟩=(.ok a,st)) (d:st.dt=E) (f:cS 0 (st.bits.getD []) st=(.ok (),st')):dM m M=(.ok a,st'.b):=by
 have e:(WM.bind oq fun _=>WM.pure a) st=(.ok a,st'):=WM.aW ((if_pos d).trans f);unfold dM;rw [WM.aW h,e];rfl
def PA {m:WM σ α} {M:gD σ} {st st':eG σ} {a:α} {c:Int} (h:m ⟨M,O,B⟩=(.ok a,st)) (d:st.dt=E) (f:cS 0 (st.bits.getD []) st=(.bad c,st')):dM m M=(.bad c,{ M with s:=st'.b.s }):=by
 have e:(WM.bind oq fun _=>WM.pure a) st=(.bad c,st'):=WM.bd ((if_pos d).trans f);unfold dM;rw [WM.aW h,e];rfl
end
end Go.SL
namespace Go.Proofs.Fs
open RowKit SL Proofs.Ba
variable {S:Hp}
def jO (v:K) (w:L):(Instr.typeAssert (.iface 208 v) 20 208 E).run N w = .ok (A #[v,r E]) w:=by
 simp [Instr.typeAssert,run_underlying underlying208,go_sem,Result.andThen]
section
variable {σ α:Type}
def KU (w:L) (i j:Addr) :
    CallsD N 145 #[X (U i),X (U j)] .returning w fun e u w'=>e = I (A #[])/\u = .returning/\w=w':=by
  refine callsD_of_wpS func145 rfl fun d l f=>?_;apply wpS_seq;refine wpS_of_wp ?_
  simp only [ntmps145,D7,B3,D6,E5,E2,G3,
     H9,H8,H6,J7,J4]
  go_wp2
  apply wpS_seq;apply wpS_region;simp [wpOpsS,go_sem,recoverD,f,Exit.thenS];refine wpS_of_wp ?_
  go_wp2
  cases d
  simp_all [bodyPostS,results,Tryz.results145]
def Mt (w:L) (d f:Addr) (c x y:Int) (i:List PanicEntry) (M:w.cell? d=U (Z Y x)) (S:w.cell? f=U (Z Y y)) (t:w.frozen? d=B) (G:w.frozen? f=B) (b0:d≠f) :
    CallsD N 145 #[X (U d),X (U f)] (.panicking ({ v:=.iface 208 (Z Y c),recovered:=B } :: i)) w fun e u w'=>
      e = I (A #[])/\u = .panicking ({ v:=.iface 208 (Z Y c),recovered:=E } :: i)/\w'=(w.setCell d (Z Y 0)).setCell f (Z Y c):=by
  refine callsD_of_wpS func145 rfl fun q l j=>?_;apply wpS_seq;refine wpS_of_wp ?_
  simp only [ntmps145,D7,B3,D6,E5,E2,G3,
     H9,H8,H6,J7,J4]
  go_wp2
  apply wpS_seq;apply wpS_region;simp [wpOpsS,go_sem,recoverD,j,Exit.thenS];refine wpS_of_wp ?_;have c0:=jO (Z Y c)
  go_wp2
  exact ⟨rfl,_,rfl,_,results_none rfl _ _ _,rfl,rfl,rfl⟩
def Ay (c:Cx σ) (i:Nat) (zero:K) (R:α->K->ai) (S:Hp) (F:ai) (w:L):Rs α × gD σ->Ending->L->Prop
 | (.ok a,f),e,w'=>∃ d v,Ext S d/\aj w w'/\e = I (A #[v,Z Y 0])/\ag w' (R a v*(dG c d i f*(al d*F)))
 | (.bad n,f),e,w'=>∃ d,Ext S d/\aj w w'/\e = I (A #[zero,Z Y n])/\ag w' (dG c d i f*(al d*F))
def Cu (c:Cx σ) (n:Nat) (e:FuncId) (d:Array K) (R:α->K->ai) (G:ai) (m:WM σ α):Prop:=
 ∀ (x:Wk σ) (w:L) (S:Hp) (st:eG σ) (F:ai),x.c=c->x.n=n->ag w (aG x S st*(al S*(G*F)))->Calls N e (#[X (U ⟨x.k,0,O⟩)]++d) w (WQ x R S (G*F) w (m st))
def fI (d n:Nat):K:=.agg #[X (U ⟨d,0,O⟩),Z Y (n:Int)]
def rj {w:L} {tmps:Array K} {a b:Nat} {v e:K} (h4:tmps[4]?=U (az a)) (h5:tmps[5]?=U (az b)) (d:w.cell? ⟨a,0,O⟩=U v) (f:w.cell? ⟨b,0,O⟩=U e) :
  (results Tryz.f84 tmps).run N w = .ok (A #[v,e]) w:=by
 simp [results,Tryz.results84,h4,h5,go_sem,d,f]
def Pd {w:L} {x:Wk σ} {st:eG σ} {F:ai} (h:ag w (aG x S st*F)):ag w (x.c.RI st.b.s*F):=by
 obtain ⟨v,d⟩:=ag.iI h;have e:ag w ((pt x.k (V (x.cells v st.dt) 139 (0,0))*(aU 177 5 S x.b x.c.rd st.b.err st.b.W st.b.D*fA st.bits v))*(x.c.RI st.b.s*F)):=d.to (by unfold cG dG;ac_rfl);exact e.right
def Ow {w:L} {c:Cx σ} {S d:Hp} {e:Nat} {M:gD σ} {s:σ} {F:ai} (f:Ext S d) (h:ag w (c.RI s*(aU 177 5 S e c.rd M.err M.W M.D*F))):ag w (dG c d e { M with s:=s }*F):=
 ((h.ah).gZ (kY f)).to (by unfold dG;ac_rfl)
def O3 {w:L} {c:Cx σ} {n k f:Nat} {M:gD σ} {F:ai} (h:ag w (pt k (V #[X (U ⟨f,0,O⟩),Z Y (n:Int),H O 0 0,r B] 139 (0,0))*(aU 177 5 S f c.rd M.err M.W M.D*(c.RI M.s*F)))) :
  ag w (aG (⟨c,n,k,f⟩:Wk σ) S ⟨M,O,B⟩*F):=
 ag.iv (H O 0 0) ((ag.FT h).to (by unfold cG dG Wk.cells;ac_rfl))
def Jz {w:L} {tmps:Array K} {ab eb:Nat} {y z c:Int} {P:ai} {R:Ending->L->Prop} (h4:tmps[4]?=U (az ab)) (h5:tmps[5]?=U (az eb))
  (h:ag w (pt ab (V #[Z Y y] 3 (0,0))*(pt eb (V #[Z Y z] 31 (0,0))*P))) (hR:∀ w',ag w' P->aj w w'->R (I (A #[Z Y 0,Z Y c])) w') :
  bodyPostD N Tryz.f84 R (Exit.panic (JW c)) { tmps:=tmps,defers:=[{ target:=.fn (.func 145) #[X (U ⟨ab,0,O⟩),X (U ⟨eb,0,O⟩)],args:=#[] }] } w:=by
 have f:=ag.ne h;refine leaves_cons (f:=145) (args:=#[X (U ⟨ab,0,O⟩),X (U ⟨eb,0,O⟩)]) Si0 (by simp [go_sem]) ?_;refine (Mt w ⟨ab,0,O⟩ ⟨eb,0,O⟩ c y z [] (h.cell 0) (h.ah.cell 0) (h.frozen 0) (h.ah.frozen 0) (by intro h;injection h with h;exact f h)).mono ?_;rintro e u i ⟨rfl,rfl,rfl⟩;have d:=((h.setCell 0 (Z Y 0)).ah.setCell 0 (Z Y c))
 exact ⟨_,rj h4 h5 (d.ah.cell 0) (d.cell 0),hR _ d.right.right (((aj.refl w).setCell _ _).setCell _ _)⟩
def GQ {w:L} {tmps:Array K} {ab eb:Nat} {v z:K} {R:Ending->L->Prop} (h4:tmps[4]?=U (az ab)) (h5:tmps[5]?=U (az eb))
  (d:w.cell? ⟨ab,0,O⟩=U v) (f:w.cell? ⟨eb,0,O⟩=U z) (hR:R (I (A #[v,z])) w) :
  bodyPostD N Tryz.f84 R Exit.ret { tmps:=tmps,defers:=[{ target:=.fn (.func 145) #[X (U ⟨ab,0,O⟩),X (U ⟨eb,0,O⟩)],args:=#[] }] } w:=by
 refine leaves_cons (f:=145) (args:=#[X (U ⟨ab,0,O⟩),X (U ⟨eb,0,O⟩)]) Si0 (by simp [go_sem]) ?_;apply (KU w ⟨ab,0,O⟩ ⟨eb,0,O⟩).mono;rintro e u i ⟨rfl,rfl,rfl⟩;exact ⟨_,rj h4 h5 d f,hR⟩
def Sf {w:L} {o:Option (List UInt8)} {v:K} {F:ai} (h:ag w (fA o v*F)):Rd w v (o.getD []):=by
 rcases ag.oA h with ⟨rfl,rfl,_⟩|⟨l,rfl,_,d⟩
 .exact ⟨rfl,.inl ⟨rfl,rfl⟩⟩
 .exact d.oa
end
section
variable {P:Program} {ops:Array Oper} {rest:List Oper} {o:Oper} {a:Act} {w w':L} {Q:Exit->Act->L->Prop} {T:TypeId} {v:K} {g:Nat}
def DX (i:(Instr.alloc T E (A #[])).run P w = .ok v w') (e:o.guard=O) (f:o.op = .alloc T) (h:wpList P ops Q rest (a.put o.dst v) w'):wpList P ops Q (o :: rest) a w:=
 wpList_plain e fun _ d=>by
  unfold Oper.wp execOp;simp only [f,i,Sem.run_bind,Sem.run_pure,Result.andThen_ok];exact d _ _ h
def IV (x:Operand) (i:(loadVar T ⟨g,0,O⟩).run P w = .ok v w) (e:o.guard=O) (f:o.op = .load T x) (j:a.eval x = X (U ⟨g,0,O⟩)) (h:wpList P ops Q rest (a.put o.dst v) w):wpList P ops Q (o :: rest) a w:=
 wpList_plain e fun _ d=>by
  unfold Oper.wp execOp;simp only [f,j,Instr.loadAt,Instr.sureAddr,i,Sem.run_bind,Sem.run_pure,Result.andThen_ok];exact d _ _ h
def uM (x y:Operand) (i:(storeVar T ⟨g,0,O⟩ v).run P w = .ok () w') (e:o.guard=O) (f:o.op = .store T x y) (j:a.eval x = X (U ⟨g,0,O⟩)) (hy:a.eval y=v) (h:wpList P ops Q rest (a.put o.dst undef) w'):wpList P ops Q (o :: rest) a w:=
 wpList_plain e fun _ d=>by
  unfold Oper.wp execOp;simp only [f,j,hy,Instr.storeAt,Instr.sureAddr,i,Sem.run_bind,Sem.run_pure,Result.andThen_ok];exact d _ _ h
end
def WN (T D J:Nat) (o:Oper):Oper:={ o with type:=if o.type=214 then T else if o.type=217 then J else o.type,op:=match o.op with | .alloc t=>.alloc (if t=214 then T else t) | .load t x=>.load (if t=214 then T else t) x | .store t x y=>.store (if t=214 then T else t) x y | .makeFunc (.func d) a b=>.makeFunc (.func (if d=200 then D else d)) a b|x=>x }
def wC (T D J:Nat):Code->Code
 | .region i ops d=>.region i (ops.map (WN T D J)) d
 | .seq a b=>.seq (wC T D J a) (wC T D J b)
 | .cond c a b=>.cond c (wC T D J a) (wC T D J b)
 | .block i a=>.block i (wC T D J a)
 | c=>c
noncomputable def runU:Code:=match Tryz.f151.body with|some c=>c|none=>.skip
def Q1 (D ab eb:Nat):List Deferred:=[{ target:=.fn (.func D) #[X (U ⟨ab,0,O⟩),X (U ⟨eb,0,O⟩)],args:=#[] }]
structure Vg {α:Type} (fid T D J:Nat) (fn:Func) (zv:Value) (R:α->Value->ai) (C:Value->Array Value) (Ok:Value->Prop):Prop where
 func:prog.funcs[fid]?=some fn
 body:fn.body=some (wC T D J runU)
 ntmps:fn.ntmps=50
 new:∀ w,(Instr.alloc T true (.tuple #[])).run prog w = .ok (az w.heap.size) (w.alloc (.cells (C zv) T (0,0)))
 TY:Ok zv
 ok:∀ {w a v F},ag w (R a v*F)->Ok v
 st:∀ {w g u v},Ok u->Ok v->w.heap[g]?=some (.cells (C u) T (0,0))->(storeVar T ⟨g,0,none⟩ v).run prog w = .ok () (w.setRow g (C v))
 ld:∀ {w g v},Ok v->w.heap[g]?=some (.cells (C v) T (0,0))->(loadVar T ⟨g,0,none⟩).run prog w = .ok v w
 T6:∀ {w tmps ab eb y z c P R'},tmps[4]?=some (az ab)->tmps[5]?=some (az eb)->Ok y->ag w (pt ab (.cells (C y) T (0,0))*(pt eb (.cells #[.int .i64 z] 31 (0,0))*P))->(∀ w',ag w' P->aj w w'->R' (.returned (.tuple #[zv,.int .i64 c])) w')->bodyPostD prog fn R' (Exit.panic (JW c)) { tmps:=tmps,defers:=Q1 D ab eb } w
 ret:∀ {w tmps ab eb v z P R'},tmps[4]?=some (az ab)->tmps[5]?=some (az eb)->Ok v->ag w (pt ab (.cells (C v) T (0,0))*(pt eb (.cells #[.int .i64 z] 31 (0,0))*P))->(∀ w',ag w' P->aj w w'->R' (.returned (.tuple #[v,.int .i64 z])) w')->bodyPostD prog fn R' Exit.ret { tmps:=tmps,defers:=Q1 D ab eb } w
section
variable {σ α:Type} {fid T D J:Nat} {fn:Func} {zv:K} {R:α->K->ai} {C:K->Array K} {Ok:K->Prop}
def Wc (T x ab eb k f l n:Nat) (c:Cx σ) (i:Hp) (m:WM σ α) (M:gD σ) (a:α) (R:α->K->ai) (C:K->Array K) (q:K) (dt:Bool) (o:Option (List UInt8)) (G:ai) (w t:L):Prop:=
 ∃ (e:Hp) (d:eG σ) (j:K),Ext i e/\dM m M=(.ok a,d.b)/\aj w t/\ag t (aU 177 5 i l c.rd M.err M.W M.D*(aU 177 5 e f c.rd d.b.err d.b.W d.b.D*(al e*(c.RI d.b.s*(pt ab (V (C q) T (0,0))*(pt eb (V #[Z Y 0] 31 (0,0))*(pt x (V #[X (U ⟨l,0,O⟩),Z Y (n:Int)] 76 (0,0))*(pt k (V #[X (U ⟨f,0,O⟩),Z Y (n:Int),j,r dt] 139 (0,0))*(fA o j*(R a q*G))))))))))
def uD (g0:Vg fid T D J fn zv R C Ok) (c:Cx σ) (hc:c.Ok) (n:Nat) (j1:4<=n) (k1:n<=3840) (jf:FuncId) (V0:Array K) (G:ai) (m:WM σ α)
    (jD:∀ (args:Array K) (w:L),(callFunc jf args).run N w = .ok (.enter jf args) w) (hj:Cu c n jf V0 R G m)
    (d:Nat) (M:gD σ) (w:L) (f0:Hp) (F:ai) (h:ag w (dG c f0 d M*(al f0*(G*F)))) (Q:Ending->L->Prop)
    (hQ:∀ b0 w',Ay c d zv R f0 (G*F) w (dM m M) b0 w'->Q b0 w') :
    Calls N fid #[fI d n,.func (.func jf) #[] V0] w Q:=by
  have HQ:=ae hQ;have n1:=nH N;have o1:¬ ((n:Int)<4):=Om0
  have p1:¬ ((n:Int) > 3840):=Om0
  have Hj:=ae hj;have S:=ae g0;have H3:=((h.alloc (V #[X (U ⟨d,0,O⟩),Z Y (n:Int)] 76 (0,0))).alloc (V (C zv) T (0,0))).alloc (V #[Z Y 0] 31 (0,0));have D3:=ae ((((aj.refl w).alloc (V #[X (U ⟨d,0,O⟩),Z Y (n:Int)] 76 (0,0))).alloc (V (C zv) T (0,0))).alloc (V #[Z Y 0] 31 (0,0)));simp only [L3] at H3;unfold fI;refine calls_of_wp_defers g0.func g0.body ?_;rw [g0.ntmps]
  simp only [runU,Tryz.f151,wC,WN,List.map_toArray,M2,List.map_nil,if_true,if_false,Nat.reduceEqDiff,reduceIte,D7,B3,D6,E5,E2,G3,
     H9,H8,H6,J7,J4]
  clear hQ hj g0 h j1 k1
  go_wp2_with (refine DX (S.o.new _) rfl rfl ?_)
  generalize ((w.alloc (V #[X (U ⟨d,0,O⟩),Z Y (n:Int)] 76 (0,0))).alloc (V (C zv) T (0,0))).alloc (V #[Z Y 0] 31 (0,0))=w3 at H3 D3 ⊢;generalize w.heap.size+1+1=eb at *;generalize w.heap.size+1=ab at *;generalize w.heap.size=j at *;have s0:=H3.au.cell 0;have s1:=H3.au.cell 1;have Z0:=ae (BS w3.drew f0 d c.rd M.err M.W M.D _ (H3.to (by unfold dG;ac_rfl:_=aU 177 5 f0 d c.rd M.err M.W M.D*(al f0*(c.RI M.s*(pt eb (V #[Z Y 0] 31 (0,0))*(pt ab (V (C zv) T (0,0))*(pt j (V #[X (U ⟨d,0,O⟩),Z Y (n:Int)] 76 (0,0))*(G*F)))))))).drew ⟨_,_,rfl⟩);clear H3
  go_region_held3 (fun w'=>w'.cell? ⟨j,0,O⟩=U (X (U ⟨d,0,O⟩))/\w'.cell? ⟨j,1,O⟩=U (Z Y (n:Int)))
    (first|exact ⟨s0,s1⟩|exact l0|go_keep)
    (first|(go_at_call 146;apply (Z0.o).mono;rintro b0 w4 ⟨S1,f,N0,rfl,h4,d4⟩;have l0:w4.cell? ⟨j,0,O⟩=U (X (U ⟨d,0,O⟩))/\w4.cell? ⟨j,1,O⟩=U (Z Y (n:Int)):=⟨h4.fh.cell 0,h4.fh.cell 1⟩))
  have D5:=ae ((D3.o.drew.trans d4).alloc (V #[X (U ⟨f,0,O⟩),Z Y (n:Int),H O 0 0,r B] 139 (0,0)));have q0:=Hj.o ⟨c,n,w4.heap.size,f⟩ _ S1 ⟨M,O,B⟩ _ rfl rfl (O3 ((h4.alloc (V #[X (U ⟨f,0,O⟩),Z Y (n:Int),H O 0 0,r B] 139 (0,0))).u00):ag _ (aG (⟨c,n,w4.heap.size,f⟩:Wk σ) S1 ⟨M,O,B⟩*(al S1*(G*(aU 177 5 S1 d c.rd M.err M.W M.D*(pt eb (V #[Z Y 0] 31 (0,0))*(pt ab (V (C zv) T (0,0))*(pt j (V #[X (U ⟨d,0,O⟩),Z Y (n:Int)] 76 (0,0))*F))))))));rename_i l1;generalize w4.heap.size=k at *;obtain ⟨⟨D0,e⟩,hp⟩:∃ p,m ⟨M,O,B⟩=p:=⟨_,rfl⟩
  rw [hp] at q0;clear Z0 h4 d4 D3 Hj s0 s1 l0
  cases D0 with
  | bad cN=>
    have HE:=ae (wU hp);clear hp
    go_wp2_with fail
    (with_reducible apply q0.mono)
    rintro b0 w6 ⟨t,j0,d6,rfl,h6⟩;have h9:=Ow j0 ((Pd h6).t00 (pt j (V #[X (U ⟨d,0,O⟩),Z Y (n:Int)] 76 (0,0))*(c.RI e.b.s*(aU 177 5 S1 d c.rd M.err M.W M.D*(pt eb (V #[Z Y 0] 31 (0,0))*(pt ab (V (C zv) T (0,0))*(al t*(G*F)))))))).right
    go_wp2_with fail
    exact S.o.T6 rfl rfl S.o.TY (h9.t00 (pt ab (V (C zv) T (0,0))*(pt eb (V #[Z Y 0] 31 (0,0))*(dG c t d { M with s:=e.b.s }*(al t*(G*F)))))) fun w' K0 H0=>HQ.o _ _ (by rw [HE.o];exact ⟨t,N0.trans j0,(D5.o.trans d6).trans H0,rfl,K0⟩)
  | ok a=>
    go_wp2_with fail
    (with_reducible apply q0.mono)
    rintro b0 w6 ⟨t,i,j0,d6,rfl,h6⟩;have S0:=S.o.ok h6;obtain ⟨bv,h8⟩:=ag.iI (h6.t00 (aG (⟨c,n,k,f⟩:Wk σ) t e*(R a i*(al t*(G*(aU 177 5 S1 d c.rd M.err M.W M.D*(pt eb (V #[Z Y 0] 31 (0,0))*(pt ab (V (C zv) T (0,0))*(pt j (V #[X (U ⟨d,0,O⟩),Z Y (n:Int)] 76 (0,0))*F)))))))));obtain ⟨dt,R0⟩:=Nm e.dt
    have h9:ag w6 (pt ab (V (C zv) T (0,0))*(pt eb (V #[Z Y 0] 31 (0,0))*(pt j (V #[X (U ⟨d,0,O⟩),Z Y (n:Int)] 76 (0,0))*(pt k (V #[X (U ⟨f,0,O⟩),Z Y (n:Int),bv,r dt] 139 (0,0))*(dG c t f e.b*(fA e.bits bv*(al t*(aU 177 5 S1 d c.rd M.err M.W M.D*(R a i*(G*F)))))))))):=h8.to (by unfold cG Wk.cells;rw [R0];ac_rfl);have u0:=S.o.st S.o.TY S0 h9.heap;have x:=h9.setRow (cs':=(C i));have m0:=ae ((D5.o.trans d6).setRow ab (C i));have k3:=x.aA.cell 3;have h0:=ae S0;have HP:=ae hp;have d0:=ae x;have i0:=ae j0;clear h8 h9 D5 d6 q0 h6 S0 hp x j0
    go_upto_if 35 with (refine uM (.tmp 4) (.tmp 31) u0 rfl rfl rfl rfl ?_)
    clear u0;generalize w6.setRow ab (C i)=w7 at *
    go_cut [] from 36 to 41 (fun wx=>Wc T j ab eb k f d n c S1 m M a R C i dt e.bits (G*F) w wx)
    case first=>
      have T0:=Sf d0.o.eu;have k2:=d0.o.aA.cell 2;have e0:=ae R0;clear R0
      cases dt with
      | false=>
        go_wp2_with fail
        go_meet
        exact ⟨t,e,bv,i0.o,zw HP.o e0.o,m0.o,d0.o.to (by unfold dG;ac_rfl)⟩
      | true=>
        have F0:=ae fun st'=>FD (st':=st') HP.o e0.o;have G0:=ae fun st' c=>PA (st':=st') (c:=c) HP.o e0.o;have x0:=vD (⟨c,n,k,f⟩:Wk σ) _ bv t e 0 bv (e.bits.getD []) _ (d0.o.to (by unfold cG Wk.cells;rw [e0.o];ac_rfl:_=cG (⟨c,n,k,f⟩:Wk σ) bv t e*(al t*(fA e.bits bv*(pt ab (V (C i) T (0,0))*(pt eb (V #[Z Y 0] 31 (0,0))*(pt j (V #[X (U ⟨d,0,O⟩),Z Y (n:Int)] 76 (0,0))*(aU 177 5 S1 d c.rd M.err M.W M.D*(R a i*(G*F)))))))))) T0;obtain ⟨va,vl,vc,rfl⟩:∃ a l c,bv = H a l c:=by obtain ⟨a,c,b0⟩:=T0.shape;exact ⟨_,_,_,b0⟩
        have Y0:∀ st' D0,cS 0 (e.bits.getD []) e=(D0,st')->st'.dt=E:=fun st' D0 h=>by
          unfold cS at h
          split at h
          · simp only [Prod.mk.injEq] at h;rw [<- h.2];exact e0.o
          · simp only [Prod.mk.injEq] at h;rw [<- h.2];exact e0.o
        obtain ⟨⟨r2,q⟩,r0⟩:∃ p,cS 0 (e.bits.getD []) e=p:=⟨_,rfl⟩
        rw [r0] at x0;have f1:=ae (Y0 _ _ r0);have n0:=ae r0;clear T0 Y0 r0 d0
        cases r2 with
        | bad cN=>
          have HE:=ae (G0.o _ _ n0.o);clear F0 G0 n0
          go_wp2_with fail
          (with_reducible apply x0.mono)
          rintro b0 w8 ⟨S3,c0,d8,rfl,o0⟩;have L0:=Ow (i0.o.trans c0) (o0.to (by unfold cG dG;ac_rfl:_=(pt k (V ((⟨c,n,k,f⟩:Wk σ).cells (H va vl vc) q.dt) 139 (0,0))*(aU 177 5 S3 f c.rd q.b.err q.b.W q.b.D*(pt j (V #[X (U ⟨d,0,O⟩),Z Y (n:Int)] 76 (0,0))*(fA e.bits (H va vl vc)*R a i))))*(c.RI q.b.s*(aU 177 5 S1 d c.rd M.err M.W M.D*(pt ab (V (C i) T (0,0))*(pt eb (V #[Z Y 0] 31 (0,0))*(al S3*(G*F)))))))).right
          go_wp2_with fail
          exact S.o.T6 rfl rfl h0.o (L0.t00 (pt ab (V (C i) T (0,0))*(pt eb (V #[Z Y 0] 31 (0,0))*(dG c S3 d { M with s:=q.b.s }*(al S3*(G*F)))))) fun w' K0 H0=>HQ.o _ _ (by rw [HE.o];exact ⟨S3,N0.trans (i0.o.trans c0),(m0.o.trans d8).trans H0,rfl,K0⟩)
        | ok u=>
          have HE:=ae (F0.o _ n0.o);clear F0 G0 n0
          go_wp2_with fail
          (with_reducible apply x0.mono)
          rintro b0 w8 ⟨S3,v8,c0,d8,rfl,o0⟩;obtain ⟨rfl,W0⟩:=ag.aq.1 o0;have L0:=ae W0;have D8:=ae (m0.o.trans d8);have h1:=ae (i0.o.trans c0);clear x0 o0 W0 d8 c0
          go_wp2_with fail
          go_meet
          exact ⟨S3,q,_,h1.o,HE.o,D8.o,L0.o.to (by unfold cG Wk.cells dG;rw [f1.o];ac_rfl)⟩
    case rest=>
      obtain ⟨S3,q,bw,c0,HE,hD,x⟩:=hcut;have p0:=x.gZ (kY c0);have s0:=p0.fh.cell 0;have k0:=p0.mX.cell 0;have a1:=ae (Ce wc.drew S3 d f c.rd c.rd q.b.err M.err q.b.W q.b.D M.W M.D _ p0.drew ⟨_,_,rfl⟩);have HE:=ae HE;have HD:=ae hD;have d1:=ae c0;clear x p0 hD c0 d0 m0 k3 HP i0
      go_wp2_with fail
      go_region_held3 (fun w'=>w'.cell? ⟨j,0,O⟩=U (X (U ⟨d,0,O⟩))/\w'.cell? ⟨k,0,O⟩=U (X (U ⟨f,0,O⟩)))
        (first|exact ⟨s0,k0⟩|exact l0|go_keep)
        (first|(go_at_call 147;apply (a1.o).mono;rintro b0 w8 ⟨S5,X0,rfl,h8,d8⟩;have l0:w8.cell? ⟨j,0,O⟩=U (X (U ⟨d,0,O⟩))/\w8.cell? ⟨k,0,O⟩=U (X (U ⟨f,0,O⟩)):=⟨h8.fh.cell 0,h8.mX.cell 0⟩))
      all_goals
        rename_i m1;have h9:ag w8 (pt ab (V (C i) T (0,0))*(pt eb (V #[Z Y 0] 31 (0,0))*((dG c S5 d q.b*(al S5*(R a i*(G*F))))*(pt j (V #[X (U ⟨d,0,O⟩),Z Y (n:Int)] 76 (0,0))*(pt k (V #[X (U ⟨f,0,O⟩),Z Y (n:Int),bw,r dt] 139 (0,0))*(aU 177 5 S5 f c.rd q.b.err q.b.W q.b.D*fA e.bits bw)))))):=h8.to (by unfold dG;ac_rfl);have i1:=S.o.ld h0.o h9.heap;have u0:=S.o.st h0.o h0.o h9.heap;have x:=(h9.setRow (cs':=C i)).ah;have e9:=x.cell 0;have g9:=x.frozen 0;have b1:=ae (x.setCell 0 (Z Y 0)).ah;have c1:=ae (((HD.o.drew.trans d8).setRow ab (C i)).setCell ⟨eb,0,O⟩ (Z Y 0));have e1:=ae (N0.trans (d1.o.trans X0));clear h8 h9 x d8 X0 a1 l0 s0 k0
        go_wp2_with (first|refine IV (.tmp 4) i1 rfl rfl rfl ?_|refine uM (.tmp 4) (.tmp 49) u0 rfl rfl rfl rfl ?_)
        exact S.o.ret rfl rfl h0.o b1.o fun w' h g1=>HQ.o _ _ (by rw [HE.o];exact ⟨S5,i,e1.o,c1.o.trans g1,rfl,h.left.u00⟩)
end
section
variable {σ α:Type}
def MO (w:L) (i j:Addr) :
    CallsD N 194 #[X (U i),X (U j)] .returning w fun e u w'=>e = I (A #[])/\u = .returning/\w=w':=by
  refine callsD_of_wpS func194 rfl fun d l f=>?_;apply wpS_seq;refine wpS_of_wp ?_
  simp only [ntmps194,D7,B3,D6,E5,E2,G3,
     H9,H8,H6,J7,J4]
  go_wp2
  apply wpS_seq;apply wpS_region;simp [wpOpsS,go_sem,recoverD,f,Exit.thenS];refine wpS_of_wp ?_
  go_wp2
  cases d
  simp_all [bodyPostS,results,Tryz.results194]
def LC (w:L) (d f:Addr) (c y:Int) (x:K) (i:List PanicEntry) (M:w.cell? d=U x) (hx:x = H O 0 0\/∃ a n c,x = H a n c) (S:w.cell? f=U (Z Y y)) (t:w.frozen? d=B) (G:w.frozen? f=B) (b0:d≠f) :
    CallsD N 194 #[X (U d),X (U f)] (.panicking ({ v:=.iface 208 (Z Y c),recovered:=B } :: i)) w fun e u w'=>
      e = I (A #[])/\u = .panicking ({ v:=.iface 208 (Z Y c),recovered:=E } :: i)/\w'=(w.setCell d (H O 0 0)).setCell f (Z Y c):=by
  refine callsD_of_wpS func194 rfl fun q l j=>?_;apply wpS_seq;refine wpS_of_wp ?_
  simp only [ntmps194,D7,B3,D6,E5,E2,G3,
     H9,H8,H6,J7,J4]
  go_wp2
  apply wpS_seq;apply wpS_region;simp [wpOpsS,go_sem,recoverD,j,Exit.thenS];refine wpS_of_wp ?_;have c0:=jO (Z Y c)
  go_wp2
  exact ⟨rfl,_,rfl,_,results_none rfl _ _ _,rfl,rfl,rfl⟩
def rf {w:L} {tmps:Array K} {a b:Nat} {v e:K} (h4:tmps[4]?=U (az a)) (h5:tmps[5]?=U (az b)) (d:w.cell? ⟨a,0,O⟩=U v) (f:w.cell? ⟨b,0,O⟩=U e) :
  (results Tryz.f142 tmps).run N w = .ok (A #[v,e]) w:=by
 simp [results,Tryz.results142,h4,h5,go_sem,d,f]
def Ka {w:L} {tmps:Array K} {ab eb:Nat} {y:K} {z c:Int} {P:ai} {R:Ending->L->Prop} (h4:tmps[4]?=U (az ab)) (h5:tmps[5]?=U (az eb))
  (h:ag w (pt ab (V #[y] 23 (0,0))*(pt eb (V #[Z Y z] 31 (0,0))*P))) (hy:y = H O 0 0\/∃ a n c,y = H a n c) (hR:∀ w',ag w' P->aj w w'->R (I (A #[H O 0 0,Z Y c])) w') :
  bodyPostD N Tryz.f142 R (Exit.panic (JW c)) { tmps:=tmps,defers:=[{ target:=.fn (.func 194) #[X (U ⟨ab,0,O⟩),X (U ⟨eb,0,O⟩)],args:=#[] }] } w:=by
 have f:=ag.ne h;refine leaves_cons (f:=194) (args:=#[X (U ⟨ab,0,O⟩),X (U ⟨eb,0,O⟩)]) Si0 (by simp [go_sem]) ?_;refine (LC w ⟨ab,0,O⟩ ⟨eb,0,O⟩ c z y [] (h.cell 0) hy (h.ah.cell 0) (h.frozen 0) (h.ah.frozen 0) (by intro h;injection h with h;exact f h)).mono ?_;rintro e u i ⟨rfl,rfl,rfl⟩;have d:=((h.setCell 0 (H O 0 0)).ah.setCell 0 (Z Y c))
 exact ⟨_,rf h4 h5 (d.ah.cell 0) (d.cell 0),hR _ d.right.right (((aj.refl w).setCell _ _).setCell _ _)⟩
def G7 {w:L} {tmps:Array K} {ab eb:Nat} {v z:K} {R:Ending->L->Prop} (h4:tmps[4]?=U (az ab)) (h5:tmps[5]?=U (az eb))
  (d:w.cell? ⟨ab,0,O⟩=U v) (f:w.cell? ⟨eb,0,O⟩=U z) (hR:R (I (A #[v,z])) w) :
  bodyPostD N Tryz.f142 R Exit.ret { tmps:=tmps,defers:=[{ target:=.fn (.func 194) #[X (U ⟨ab,0,O⟩),X (U ⟨eb,0,O⟩)],args:=#[] }] } w:=by
 refine leaves_cons (f:=194) (args:=#[X (U ⟨ab,0,O⟩),X (U ⟨eb,0,O⟩)]) Si0 (by simp [go_sem]) ?_;apply (MO w ⟨ab,0,O⟩ ⟨eb,0,O⟩).mono;rintro e u i ⟨rfl,rfl,rfl⟩;exact ⟨_,rf h4 h5 d f,hR⟩
def gz:(prog.info? 214).map (·.size)=U 0:=Kr0
def Lg (w:L) (i:Nat) (j:Addr) :
    CallsD N 200 #[X (U ⟨i,0,O⟩),X (U j)] .returning w fun e u w'=>e = I (A #[])/\u = .returning/\w'=w.alloc (V #[] 214 (0,0)):=by
  refine callsD_of_wpS func200 rfl fun d l f=>?_;apply wpS_seq;refine wpS_of_wp ?_
  simp only [ntmps200,D7,B3,D6,E5,E2,G3,
     H9,H8,H6,J7,J4]
  go_wp2
  apply wpS_seq;apply wpS_region;simp [wpOpsS,go_sem,recoverD,f,Exit.thenS];refine wpS_of_wp ?_
  go_wp2
  cases d
  simp_all [bodyPostS,results,Tryz.results200]
def Lp (w:L) (f eb:Nat) (c y:Int) (d:List PanicEntry) (x:w.cell? ⟨eb,0,O⟩=U (Z Y y)) (t:w.frozen? ⟨eb,0,O⟩=B) (G:eb<w.heap.size) :
    CallsD N 200 #[X (U ⟨f,0,O⟩),X (U ⟨eb,0,O⟩)] (.panicking ({ v:=.iface 208 (Z Y c),recovered:=B } :: d)) w fun e u w'=>
      e = I (A #[])/\u = .panicking ({ v:=.iface 208 (Z Y c),recovered:=E } :: d)/\w'=(w.setCell ⟨eb,0,O⟩ (Z Y c)).alloc (V #[] 214 (0,0)):=by
  refine callsD_of_wpS func200 rfl fun q l i=>?_;apply wpS_seq;refine wpS_of_wp ?_
  simp only [ntmps200,D7,B3,D6,E5,E2,G3,
     H9,H8,H6,J7,J4]
  go_wp2
  apply wpS_seq;apply wpS_region;simp [wpOpsS,go_sem,recoverD,i,Exit.thenS];refine wpS_of_wp ?_;have M:=jO (Z Y c)
  go_wp2_with (first|(refine wpList_load_mid (by exact rfl) 214 (.tmp 2) (by exact rfl) w.heap.size 0 (by exact rfl) [] _ (by exact fun j v h=>by cases h) underlying214 rfl (by exact gz) ?_)|(refine wpList_store_mid (by exact rfl) 214 (.tmp 0) (.tmp 12) (by exact rfl) f 0 #[] (by exact rfl) (by exact rfl) (by exact fun j h=>absurd h (K8 _)) (by exact gz) (by exact rfl) ?_))
  exact ⟨rfl,_,rfl,_,results_none rfl _ _ _,rfl,rfl,rfl⟩
def q9 {w:L} {tmps:Array K} {a b:Nat} {e:K} {F:ai} (h4:tmps[4]?=U (az a)) (h5:tmps[5]?=U (az b)) (d:ag w (pt a (V #[] 214 (0,0))*F)) (f:w.cell? ⟨b,0,O⟩=U e) :
  (results Tryz.f151 tmps).run N w = .ok (A #[.agg #[],e]) w:=by
 have i:=run_loadVar_row (P:=N) w a 214 214 #[] (0,0) _ d.heap underlying214 rfl gz;simp [results,Tryz.results151,h4,h5,go_sem,asAddr,i,f]
def Jh {w:L} {tmps:Array K} {ab eb:Nat} {z c:Int} {P:ai} {R:Ending->L->Prop} (h4:tmps[4]?=U (az ab)) (h5:tmps[5]?=U (az eb))
  (h:ag w (pt ab (V #[] 214 (0,0))*(pt eb (V #[Z Y z] 31 (0,0))*P))) (hR:∀ w',ag w' P->aj w w'->R (I (A #[.agg #[],Z Y c])) w') :
  bodyPostD N Tryz.f151 R (Exit.panic (JW c)) { tmps:=tmps,defers:=[{ target:=.fn (.func 200) #[X (U ⟨ab,0,O⟩),X (U ⟨eb,0,O⟩)],args:=#[] }] } w:=by
 refine leaves_cons (f:=200) (args:=#[X (U ⟨ab,0,O⟩),X (U ⟨eb,0,O⟩)]) Si0 (by simp [go_sem]) ?_;apply (Lp w ab eb c z [] (h.ah.cell 0) (h.ah.frozen 0) h.ah.lt).mono;rintro e u f ⟨rfl,rfl,rfl⟩;have d:=((h.ah.setCell 0 (Z Y c)).alloc (V #[] 214 (0,0))).right;exact ⟨_,q9 h4 h5 d.ah (d.cell 0),hR _ d.right.right (((aj.refl w).setCell _ _).alloc _)⟩
def IA {w:L} {tmps:Array K} {ab eb:Nat} {z:Int} {P:ai} {R:Ending->L->Prop} (h4:tmps[4]?=U (az ab)) (h5:tmps[5]?=U (az eb))
  (h:ag w (pt ab (V #[] 214 (0,0))*(pt eb (V #[Z Y z] 31 (0,0))*P))) (hR:∀ w',ag w' P->aj w w'->R (I (A #[.agg #[],Z Y z])) w') :
  bodyPostD N Tryz.f151 R Exit.ret { tmps:=tmps,defers:=[{ target:=.fn (.func 200) #[X (U ⟨ab,0,O⟩),X (U ⟨eb,0,O⟩)],args:=#[] }] } w:=by
 refine leaves_cons (f:=200) (args:=#[X (U ⟨ab,0,O⟩),X (U ⟨eb,0,O⟩)]) Si0 (by simp [go_sem]) ?_;apply (Lg w ab ⟨eb,0,O⟩).mono;rintro e u f ⟨rfl,rfl,rfl⟩;have d:=(h.alloc (V #[] 214 (0,0))).right;exact ⟨_,q9 h4 h5 d (d.ah.cell 0),hR _ d.right.right ((aj.refl w).alloc _)⟩
def FQ (a:Unit) (v:K):ai:=fact (v = .agg #[])
def MS (w:L) (i:Nat) (j:Addr) :
    CallsD N 186 #[X (U ⟨i,0,O⟩),X (U j)] .returning w fun e u w'=>e = I (A #[])/\u = .returning/\w'=w.alloc (V #[Z Y 0,Z Y 0,Z Y 0,Z Y 0,Z Y 0,Z Y 0,Z Y 0,Z Y 0,Z Y 0,Z Y 0,Z Y 0,Z Y 0,Z Y 0,Z Y 0,Z Y 0,Z Y 0,Z Y 0,Z Y 0,Z Y 0,Z Y 0] 66 (0,0)):=by
  refine callsD_of_wpS func186 rfl fun d l f=>?_;apply wpS_seq;refine wpS_of_wp ?_
  simp only [ntmps186,D7,B3,D6,E5,E2,G3,
     H9,H8,H6,J7,J4]
  go_wp2
  simp only [Exit.thenS];apply wpS_seq;apply wpS_region;simp [wpOpsS,go_sem,recoverD,f,Exit.thenS];refine wpS_of_wp ?_
  go_wp2
  cases d
  simp_all [bodyPostS,results,Tryz.results186]
  try rfl
def KB (w:L) (ab eb:Nat) (f:Array K) (hY:f.size=20) (c y:Int) (x:List PanicEntry) (P:ai) (h:ag w (pt ab (V f 66 (0,0))*(pt eb (V #[Z Y y] 31 (0,0))*P))) :
    CallsD N 186 #[X (U ⟨ab,0,O⟩),X (U ⟨eb,0,O⟩)] (.panicking ({ v:=.iface 208 (Z Y c),recovered:=B } :: x)) w fun c0 u w'=>
      c0 = I (A #[])/\u = .panicking ({ v:=.iface 208 (Z Y c),recovered:=E } :: x)/\ag w' (pt ab (V #[Z Y 0,Z Y 0,Z Y 0,Z Y 0,Z Y 0,Z Y 0,Z Y 0,Z Y 0,Z Y 0,Z Y 0,Z Y 0,Z Y 0,Z Y 0,Z Y 0,Z Y 0,Z Y 0,Z Y 0,Z Y 0,Z Y 0,Z Y 0] 66 (0,0))*(pt eb (V #[Z Y c] 31 (0,0))*P))/\aj w w':=by
  refine callsD_of_wpS func186 rfl fun d0 cs hu=>?_;apply wpS_seq;refine wpS_of_wp ?_
  simp only [ntmps186,D7,B3,D6,E5,E2,G3,
     H9,H8,H6,J7,J4]
  go_wp2
  simp only [Exit.thenS];apply wpS_seq;apply wpS_region;simp [wpOpsS,go_sem,recoverD,hu,Exit.thenS];refine wpS_of_wp ?_;have e0:=jO (Z Y c);have d:=h.alloc (V #[Z Y 0,Z Y 0,Z Y 0,Z Y 0,Z Y 0,Z Y 0,Z Y 0,Z Y 0,Z Y 0,Z Y 0,Z Y 0,Z Y 0,Z Y 0,Z Y 0,Z Y 0,Z Y 0,Z Y 0,Z Y 0,Z Y 0,Z Y 0] 66 (0,0));have i:=(aj.refl w).alloc (V #[Z Y 0,Z Y 0,Z Y 0,Z Y 0,Z Y 0,Z Y 0,Z Y 0,Z Y 0,Z Y 0,Z Y 0,Z Y 0,Z Y 0,Z Y 0,Z Y 0,Z Y 0,Z Y 0,Z Y 0,Z Y 0,Z Y 0,Z Y 0] 66 (0,0));have l:=d.heap;have q:=d.ah.heap;have e:=d.ah.setRow (cs':=#[Z Y 0,Z Y 0,Z Y 0,Z Y 0,Z Y 0,Z Y 0,Z Y 0,Z Y 0,Z Y 0,Z Y 0,Z Y 0,Z Y 0,Z Y 0,Z Y 0,Z Y 0,Z Y 0,Z Y 0,Z Y 0,Z Y 0,Z Y 0]);have G:=ae (((i.setRow ab #[Z Y 0,Z Y 0,Z Y 0,Z Y 0,Z Y 0,Z Y 0,Z Y 0,Z Y 0,Z Y 0,Z Y 0,Z Y 0,Z Y 0,Z Y 0,Z Y 0,Z Y 0,Z Y 0,Z Y 0,Z Y 0,Z Y 0,Z Y 0])).setCell ⟨eb,0,O⟩ (Z Y c));have j:=(e.au.setCell 0 (Z Y c))
  generalize w.alloc (V #[Z Y 0,Z Y 0,Z Y 0,Z Y 0,Z Y 0,Z Y 0,Z Y 0,Z Y 0,Z Y 0,Z Y 0,Z Y 0,Z Y 0,Z Y 0,Z Y 0,Z Y 0,Z Y 0,Z Y 0,Z Y 0,Z Y 0,Z Y 0] 66 (0,0))=w1 at *;generalize w.heap.size=t at *;have e1:=e.au.cell 0;have f1:=e.au.frozen 0;have S:=ae l;have b0:=ae q;have M:=ae j;clear h d e j i l q
  go_wp2_with (first|(refine wpList_load_row (by exact rfl) 66 (.tmp 2) (by exact rfl) t (by exact rfl) 66 #[Z Y 0,Z Y 0,Z Y 0,Z Y 0,Z Y 0,Z Y 0,Z Y 0,Z Y 0,Z Y 0,Z Y 0,Z Y 0,Z Y 0,Z Y 0,Z Y 0,Z Y 0,Z Y 0,Z Y 0,Z Y 0,Z Y 0,Z Y 0] (0,0) _ (by with_reducible exact S.o) underlying66 rfl bC ?_)|(refine wpList_store_row (by exact rfl) 66 (.tmp 0) (.tmp 12) (by exact rfl) ab #[Z Y 0,Z Y 0,Z Y 0,Z Y 0,Z Y 0,Z Y 0,Z Y 0,Z Y 0,Z Y 0,Z Y 0,Z Y 0,Z Y 0,Z Y 0,Z Y 0,Z Y 0,Z Y 0,Z Y 0,Z Y 0,Z Y 0,Z Y 0] (by exact rfl) (by exact rfl) 66 f (by with_reducible exact b0.o) bC hY Gy ?_))
  exact ⟨rfl,_,rfl,_,results_none rfl _ _ _,rfl,rfl,(M.o.t00 (pt t (V #[Z Y 0,Z Y 0,Z Y 0,Z Y 0,Z Y 0,Z Y 0,Z Y 0,Z Y 0,Z Y 0,Z Y 0,Z Y 0,Z Y 0,Z Y 0,Z Y 0,Z Y 0,Z Y 0,Z Y 0,Z Y 0,Z Y 0,Z Y 0] 66 (0,0))*(pt ab (V #[Z Y 0,Z Y 0,Z Y 0,Z Y 0,Z Y 0,Z Y 0,Z Y 0,Z Y 0,Z Y 0,Z Y 0,Z Y 0,Z Y 0,Z Y 0,Z Y 0,Z Y 0,Z Y 0,Z Y 0,Z Y 0,Z Y 0,Z Y 0] 66 (0,0))*(pt eb (V #[Z Y c] 31 (0,0))*P)))).right,G.o⟩
def rn {w:L} {tmps:Array K} {a b:Nat} {e:K} {d:Array K} {F:ai} (h4:tmps[4]?=U (az a)) (h5:tmps[5]?=U (az b)) (i:ag w (pt a (V d 66 (0,0))*F)) (f:d.size=20) (j:w.cell? ⟨b,0,O⟩=U e) :
  (results Tryz.f135 tmps).run N w = .ok (A #[.agg d,e]) w:=by
 have l:=run_loadVar_row (P:=N) w a 66 66 d (0,0) _ i.heap underlying66 rfl (by rw [f];exact bC);have t:tmps.getD 4 undef = X (U ⟨a,0,O⟩):=by simp [h4]
 have x:tmps.getD 5 undef = X (U ⟨b,0,O⟩):=by simp [h5]
 have q:(loadVar 31 ⟨b,0,O⟩).run N w = .ok e w:=by simp [go_sem,j]
 simp [results,Tryz.results135,h4,h5,asAddr,l,q]
def G6 {w:L} {tmps:Array K} {ab eb:Nat} {d:Array K} {z c:Int} {P:ai} {R:Ending->L->Prop} (h4:tmps[4]?=U (az ab)) (h5:tmps[5]?=U (az eb))
  (h:ag w (pt ab (V d 66 (0,0))*(pt eb (V #[Z Y z] 31 (0,0))*P))) (j:d.size=20) (hR:∀ w',ag w' P->aj w w'->R (I (A #[.agg #[Z Y 0,Z Y 0,Z Y 0,Z Y 0,Z Y 0,Z Y 0,Z Y 0,Z Y 0,Z Y 0,Z Y 0,Z Y 0,Z Y 0,Z Y 0,Z Y 0,Z Y 0,Z Y 0,Z Y 0,Z Y 0,Z Y 0,Z Y 0],Z Y c])) w') :
  bodyPostD N Tryz.f135 R (Exit.panic (JW c)) { tmps:=tmps,defers:=[{ target:=.fn (.func 186) #[X (U ⟨ab,0,O⟩),X (U ⟨eb,0,O⟩)],args:=#[] }] } w:=by
 refine leaves_cons (f:=186) (args:=#[X (U ⟨ab,0,O⟩),X (U ⟨eb,0,O⟩)]) Si0 (by simp [go_sem]) ?_;apply (KB w ab eb d j c z [] P h).mono;rintro e u l ⟨rfl,rfl,f,i⟩;exact ⟨_,rn h4 h5 f rfl (f.ah.cell 0),hR _ f.right.right i⟩
def Ix {w:L} {tmps:Array K} {ab eb:Nat} {d:Array K} {z:Int} {P:ai} {R:Ending->L->Prop} (h4:tmps[4]?=U (az ab)) (h5:tmps[5]?=U (az eb))
  (h:ag w (pt ab (V d 66 (0,0))*(pt eb (V #[Z Y z] 31 (0,0))*P))) (i:d.size=20) (hR:∀ w',ag w' P->aj w w'->R (I (A #[.agg d,Z Y z])) w') :
  bodyPostD N Tryz.f135 R Exit.ret { tmps:=tmps,defers:=[{ target:=.fn (.func 186) #[X (U ⟨ab,0,O⟩),X (U ⟨eb,0,O⟩)],args:=#[] }] } w:=by
 refine leaves_cons (f:=186) (args:=#[X (U ⟨ab,0,O⟩),X (U ⟨eb,0,O⟩)]) Si0 (by simp [go_sem]) ?_;apply (MS w ab ⟨eb,0,O⟩).mono;rintro e u j ⟨rfl,rfl,rfl⟩;have f:=(h.alloc (V #[Z Y 0,Z Y 0,Z Y 0,Z Y 0,Z Y 0,Z Y 0,Z Y 0,Z Y 0,Z Y 0,Z Y 0,Z Y 0,Z Y 0,Z Y 0,Z Y 0,Z Y 0,Z Y 0,Z Y 0,Z Y 0,Z Y 0,Z Y 0] 66 (0,0))).right;exact ⟨_,rn h4 h5 f i (f.ah.cell 0),hR _ f.right.right ((aj.refl w).alloc _)⟩
def A0 (a:Nd) (v:K):ai:=fact (v=a.v/\a.dr.length=16)
def Gu {P:Program} {w:L} {g:Nat} {T:TypeId} {u v:K} (e:(P.info? T).map (·.size)=U 1) (hv:v.cells=#[v]) (f:v.oneCell'=E) (h:w.heap[g]?=U (V #[u] T (0,0))):(storeVar T ⟨g,0,O⟩ v).run P w = .ok () (w.setRow g #[v]):=by
 have:=run_storeCells_from (P:=P) g T [v] 0 #[u] w h rfl (by simpa using f)
 cases d:P.info? T with
 | none=>simp [d] at e
 | some i=>
  have hs:i.size=1:=by simpa [d] using e
  simp [storeVar,sizeOf,typeInfo,d,hv,hs,this]
def WI:Vg 84 3 145 142 Tryz.f84 (Z Y 0) CG D9 (fun v=>∃ z,v = Z Y z) where
 func:=func84
 body:=Kr0
 ntmps:=rfl
 new w:=by simp [go_sem,D9,az]
 TY:=⟨0,rfl⟩
 ok h:=⟨_,(ag.aq.1 h).1⟩
 st:=by rintro w g _ _ ⟨a,rfl⟩ ⟨b,rfl⟩ h;exact Gu Kr0 rfl rfl h
 ld:=by
  rintro w g _ ⟨a,rfl⟩ h;have d:w.cell? ⟨g,0,O⟩=U (Z Y a):=by simp [World.cell?,h,D9]
  simp [go_sem,d]
 T6 h4 h5 hy h hR:=by obtain ⟨z,rfl⟩:=hy;exact Jz h4 h5 h hR
 ret h4 h5 hv h hR:=by obtain ⟨z,rfl⟩:=hv;exact GQ h4 h5 (h.cell 0) (h.ah.cell 0) (hR _ h.right.right (aj.refl _))
def Wx:Vg 142 23 194 207 Tryz.f142 (H O 0 0) gX D9 (fun v=>∃ a n c,v = H a n c) where
 func:=func142
 body:=Kr0
 ntmps:=rfl
 new w:=by simp [go_sem,D9,az]
 TY:=⟨_,_,_,rfl⟩
 ok h:=by obtain ⟨a,c,e⟩:=(ag.pA h).shape;exact ⟨_,_,_,e⟩
 st:=by rintro w g _ _ ⟨a,n,c,rfl⟩ ⟨b,m,d,rfl⟩ h;exact Gu Kr0 rfl rfl h
 ld:=by
  rintro w g _ ⟨a,n,c,rfl⟩ h;have f:w.cell? ⟨g,0,O⟩=U (H a n c):=by simp [World.cell?,h,D9]
  simp [go_sem,f]
 T6 h4 h5 hy h hR:=by obtain ⟨a,n,c,rfl⟩:=hy;exact Ka h4 h5 h (.inr ⟨_,_,_,rfl⟩) hR
 ret h4 h5 hv h hR:=by obtain ⟨a,n,c,rfl⟩:=hv;exact G7 h4 h5 (h.cell 0) (h.ah.cell 0) (hR _ h.right.right (aj.refl _))
def Wh:Vg 151 214 200 217 Tryz.f151 (.agg #[]) FQ D9 (fun v=>v = .agg #[]) where
 func:=func151
 body:=Kr0
 ntmps:=rfl
 new w:=by simp [go_sem,D9,az]
 TY:=rfl
 ok h:=(ag.aq.1 h).1
 st:=by rintro w g _ _ rfl rfl h;exact run_storeVar_row w g _ _ _ _ h gz rfl Si0
 ld:=by rintro w g _ rfl h;exact run_loadVar_row w g _ _ _ _ _ h underlying214 rfl gz
 T6 h4 h5 hy h hR:=by subst hy;exact Jh h4 h5 h hR
 ret h4 h5 hv h hR:=by subst hv;exact IA h4 h5 h hR
def Ww:Vg 135 66 186 196 Tryz.f135 (.agg #[Z Y 0,Z Y 0,Z Y 0,Z Y 0,Z Y 0,Z Y 0,Z Y 0,Z Y 0,Z Y 0,Z Y 0,Z Y 0,Z Y 0,Z Y 0,Z Y 0,Z Y 0,Z Y 0,Z Y 0,Z Y 0,Z Y 0,Z Y 0]) A0 D9 (fun v=>∃ d,v = .agg d/\d.size=20/\d.all (·.oneCell')=E) where
 func:=func135
 body:=Kr0
 ntmps:=rfl
 new w:=by simp [go_sem,D9,az]
 TY:=⟨_,rfl,rfl,by simp [K7]⟩
 ok h:=by
  obtain ⟨e,l⟩:=(ag.aq.1 h).1;exact ⟨_,e,by simp [ints,Nd.l,l],by simp [ints,K7]⟩
 st:=by rintro w g _ _ ⟨d,rfl,f,-⟩ ⟨q,rfl,i,j⟩ h;exact run_storeVar_row w g _ _ _ _ h (by rw [i];exact bC) (f.trans i.symm) j
 ld:=by rintro w g _ ⟨d,rfl,f,-⟩ h;exact run_loadVar_row w g _ _ _ _ _ h underlying66 rfl (by rw [f];exact bC)
 T6 h4 h5 hy h hR:=by obtain ⟨d,rfl,f,-⟩:=hy;exact G6 h4 h5 h f hR
 ret h4 h5 hv h hR:=by obtain ⟨d,rfl,f,-⟩:=hv;exact Ix h4 h5 h f hR
def Bj (c:Cx σ) (l:c.Ok) (n:Nat) (t:4<=n) (x:n<=3840) (d:FuncId) (i:Array K) (G:ai) (m:WM σ Nat)
  (jD:∀ (args:Array K) (w:L),(callFunc d args).run N w = .ok (.enter d args) w) (q:Cu c n d i CG G m)
  (f:Nat) (M:gD σ) (w:L) (S:Hp) (F:ai) (h:ag w (dG c S f M*(al S*(G*F)))) (Q:Ending->L->Prop)
  (j:∀ e w',Ay c f (Z Y 0) CG S (G*F) w (dM m M) e w'->Q e w') :
  Calls N 84 #[fI f n,.func (.func d) #[] i] w Q:=uD WI c l n t x d i G m jD q f M w S F h Q j
def vf (c:Cx σ) (l:c.Ok) (n:Nat) (t:4<=n) (x:n<=3840) (d:FuncId) (i:Array K) (G:ai) (m:WM σ (List UInt8))
  (jD:∀ (args:Array K) (w:L),(callFunc d args).run N w = .ok (.enter d args) w) (q:Cu c n d i gX G m)
  (f:Nat) (M:gD σ) (w:L) (S:Hp) (F:ai) (h:ag w (dG c S f M*(al S*(G*F)))) (Q:Ending->L->Prop)
  (j:∀ e w',Ay c f (H O 0 0) gX S (G*F) w (dM m M) e w'->Q e w') :
  Calls N 142 #[fI f n,.func (.func d) #[] i] w Q:=uD Wx c l n t x d i G m jD q f M w S F h Q j
theorem Nw (c:Cx σ) (hc:c.Ok) (n:Nat) (hn1:4<=n) (hn2:n<=3840) (jf:FuncId) (caps:Array Value) (G:ai) (m:WM σ Unit)
  (jD:∀ (args:Array Value) (w:World),(callFunc jf args).run prog w = .ok (.enter jf args) w) (hj:Cu c n jf caps FQ G m)
  (mb:Nat) (M:gD σ) (w:World) (S:Hp) (F:ai) (h:ag w (dG c S mb M*(al S*(G*F)))) (Q:Ending->World->Prop)
  (hQ:∀ e w',Ay c mb (.agg #[]) FQ S (G*F) w (dM m M) e w'->Q e w') :
  Calls prog 151 #[fI mb n,.func (.func jf) #[] caps] w Q:=uD Wh c hc n hn1 hn2 jf caps G m jD hj mb M w S F h Q hQ
def KR (c:Cx σ) (l:c.Ok) (n:Nat) (t:4<=n) (x:n<=3840) (d:FuncId) (i:Array K) (G:ai) (m:WM σ Nd)
  (jD:∀ (args:Array K) (w:L),(callFunc d args).run N w = .ok (.enter d args) w) (q:Cu c n d i A0 G m)
  (f:Nat) (M:gD σ) (w:L) (S:Hp) (F:ai) (h:ag w (dG c S f M*(al S*(G*F)))) (Q:Ending->L->Prop)
  (j:∀ e w',Ay c f (.agg #[Z Y 0,Z Y 0,Z Y 0,Z Y 0,Z Y 0,Z Y 0,Z Y 0,Z Y 0,Z Y 0,Z Y 0,Z Y 0,Z Y 0,Z Y 0,Z Y 0,Z Y 0,Z Y 0,Z Y 0,Z Y 0,Z Y 0,Z Y 0]) A0 S (G*F) w (dM m M) e w'->Q e w') :
  Calls N 135 #[fI f n,.func (.func d) #[] i] w Q:=uD Ww c l n t x d i G m jD q f M w S F h Q j
end
end Go.Proofs.Fs
namespace Go.SL
open RowKit
def Rs.code {α:Type}:Rs α->Int
 | .ok _=>0
 | .bad c=>c
end Go.SL
namespace Go.Proofs.Fs
open RowKit SL Proofs.Ba
section
variable {σ α:Type}
def xG {w:L} {tmps:Array K} {a:Nat} {F:ai} (d:tmps[3]?=U (az a)) (e:ag w (pt a (V #[] 214 (0,0))*F)) :
  (results Tryz.f152 tmps).run N w = .ok (.agg #[]) w:=by
 have f:=run_loadVar_row (P:=N) w a 214 214 #[] (0,0) _ e.heap underlying214 rfl gz;simp [results,Tryz.results152,d,asAddr,f]
def OQ (e:Nat) (f:FuncId) (d:Array K):ai:=pt e (V #[.func (.func f) #[] d] 155 (0,0))
def Ig {c:Cx σ} {n:Nat} {d:FuncId} {i:Array K} {G:ai} {m:WM σ Unit} (jD:∀ (args:Array K) (w:L),(callFunc d args).run N w = .ok (.enter d args) w)
  (hj:Cu c n d i jo G m) (e:Nat):Cu c n 152 #[X (U ⟨e,0,O⟩)] FQ (OQ e d i*G) m:=by
 intro x w S st F c0 d0 h;have j:=fun w F h=>hj x w S st F c0 d0 h;have b0:=ae j;have hA:=h.alloc (V #[] 214 (0,0));have dA:=(aj.refl w).alloc (V #[] 214 (0,0));clear hj h j c0 d0;show Calls N 152 #[X (U ⟨x.k,0,O⟩),X (U ⟨e,0,O⟩)] w _
 go_in
 have M:ag (w.alloc (V #[] 214 (0,0))) (OQ e d i*(pt w.heap.size (V #[] 214 (0,0))*(aG x S st*(al S*(G*F))))):=hA.u00;have cj:(w.alloc (V #[] 214 (0,0))).cell? ⟨e,0,O⟩=U (.func (.func d) #[] i):=M.cell 0;have hC:ag (w.alloc (V #[] 214 (0,0))) (aG x S st*(al S*(G*(OQ e d i*(pt w.heap.size (V #[] 214 (0,0))*F))))):=M.u00;have j:=b0.o _ _ hC;clear b0 hA M hC;obtain ⟨⟨f0,bH⟩,hp⟩:∃ p,m st=p:=⟨_,rfl⟩
 rw [hp] at j ⊢;clear hp
 cases f0 with
 | bad cN=>
  go_wp2_with fail
  generalize w.alloc (V #[] 214 (0,0))=w1 at *;generalize w.heap.size=q at *
  (with_reducible apply j.mono)
  rintro e0 w2 ⟨f,hS,t,rfl,l⟩
  go_wp2_with fail
  exact ⟨rfl,f,hS,dA.trans t,rfl,(l.t00 (pt q (V #[] 214 (0,0))*(aG x f bH*(al f*(OQ e d i*G*F))))).right⟩
 | ok u=>
  go_wp2_with fail
  generalize w.alloc (V #[] 214 (0,0))=w1 at *;generalize w.heap.size=q at *
  (with_reducible apply j.mono)
  rintro e0 w2 ⟨f,v,hS,t,rfl,l⟩;obtain ⟨rfl,h3⟩:=ag.aq.1 l;have h4:ag w2 (pt q (V #[] 214 (0,0))*(aG x f bH*(al f*(OQ e d i*G*F)))):=h3.u00;have H4:=ae h4;clear l h3 h4 j cj
  go_wp2_with (refine wpList_store_mid (by exact rfl) 214 (.tmp 3) (.tmp 7) (by exact rfl) q 0 #[] (by exact rfl) (by exact rfl) (by exact fun g0 h=>absurd h (K8 _)) (by exact gz) (by exact rfl) ?_)
  exact bodyPost_ret (xG rfl H4.o) rfl ⟨f,_,hS,dA.trans t,rfl,ag.aq.2 ⟨rfl,H4.o.right⟩⟩
def Ld (c:Cx σ) (f:Nat) (S:Hp) (F:ai) (w:L) (p:Rs Unit × gD σ) (e:Ending) (w':L):Prop:=
 ∃ d,Ext S d/\aj w w'/\e = I (Z Y p.1.code)/\ag w' (dG c d f p.2*(al d*F))
def vg (c:Cx σ) (hc:c.Ok) (n:Nat) (f0:4<=n) (g0:n<=3840) (f:FuncId) (i:Array K) (G:ai) (m:WM σ Unit)
  (jD:∀ (args:Array K) (w:L),(callFunc f args).run N w = .ok (.enter f args) w) (hj:Cu c n f i jo G m)
  (d:Nat) (M:gD σ) (w:L) (S:Hp) (F:ai) (h:ag w (dG c S d M*(al S*(G*F)))) (Q:Ending->L->Prop)
  (hQ:∀ e w',Ld c d S (G*F) w (dM m M) e w'->Q e w') :
  Calls N 91 #[fI d n,.func (.func f) #[] i] w Q:=by
 have i0:=nH N;have HQ:=ae hQ;have d0:=fun l w F h=>Nw c hc n f0 g0 152 #[X (U ⟨l,0,O⟩)] (OQ l f i*G) m (fun args w=>enters func152 Kr0 rfl args w) (Ig jD hj l) d M w S F h;have c0:=ae d0;have hA:=(h.alloc (V #[X (U ⟨d,0,O⟩),Z Y (n:Int)] 76 (0,0))).alloc (V #[.func (.func f) #[] i] 155 (0,0));have dA:=((aj.refl w).alloc (V #[X (U ⟨d,0,O⟩),Z Y (n:Int)] 76 (0,0))).alloc (V #[.func (.func f) #[] i] 155 (0,0));simp only [L3] at hA;clear hQ d0 hj h jD;unfold fI
 go_in
 go_wp2_with fail
 have hB:ag ((w.alloc (V #[X (U ⟨d,0,O⟩),Z Y (n:Int)] 76 (0,0))).alloc (V #[.func (.func f) #[] i] 155 (0,0)))
   (dG c S d M*(al S*(OQ (w.heap.size+1) f i*G*(pt w.heap.size (V #[X (U ⟨d,0,O⟩),Z Y (n:Int)] 76 (0,0))*F)))):=hA.to (by unfold OQ;ac_rfl)
 refine c0.o (w.heap.size+1) _ _ hB _ ?_;clear hA hB c0;generalize (w.alloc (V #[X (U ⟨d,0,O⟩),Z Y (n:Int)] 76 (0,0))).alloc (V #[.func (.func f) #[] i] 155 (0,0))=w1 at *;generalize w.heap.size+1=l at *;generalize w.heap.size=sp at *;have HP:=ae (fun e w'=>HQ.o e w');clear HQ;obtain ⟨⟨e0,x⟩,hp⟩:∃ p,dM m M=p:=⟨_,rfl⟩
 rw [hp];have b0:RowKit.Hid (∀ e w',Ld c d S (G*F) w (e0,x) e w'->Q e w'):=fun e w' h=>HP.o e w' (by rw [hp];exact h);clear HP hp
 cases e0 with
 | bad cN=>
  rintro e w2 ⟨j,hS,d2,rfl,q⟩;have t:=ae (q.t00 ((dG c j d x*(al j*(G*F)))*(OQ l f i*pt sp (V #[X (U ⟨d,0,O⟩),Z Y (n:Int)] 76 (0,0)))));clear q
  go_wp2_with (refine wpList_store_mid (by exact rfl) 214 (.tmp 5) (.tmp 11) (by exact rfl) w2.heap.size 0 #[] (by exact rfl) (by exact rfl) (by exact fun h0 h=>absurd h (K8 _)) (by exact gz) (by exact rfl) ?_)
  exact b0.o _ _ ⟨j,hS,(dA.trans d2).alloc _,rfl,(t.o.alloc _).right.left⟩
 | ok u=>
  rintro e w2 ⟨j,v,hS,d2,rfl,q⟩;obtain ⟨rfl,h3⟩:=ag.aq.1 q;have t:=ae (h3.t00 ((dG c j d x*(al j*(G*F)))*(OQ l f i*pt sp (V #[X (U ⟨d,0,O⟩),Z Y (n:Int)] 76 (0,0)))));clear q h3
  go_wp2_with (refine wpList_store_mid (by exact rfl) 214 (.tmp 5) (.tmp 11) (by exact rfl) w2.heap.size 0 #[] (by exact rfl) (by exact rfl) (by exact fun h0 h=>absurd h (K8 _)) (by exact gz) (by exact rfl) ?_)
  exact b0.o _ _ ⟨j,hS,(dA.trans d2).alloc _,rfl,(t.o.alloc _).right.left⟩
end
end Go.Proofs.Fs
namespace Go.SL
open RowKit
section
variable {σ:Type}
def du (id:Nat) (d:Int):Hd:=⟨id,⟨d,1,0,A2 16 0,0⟩,A2 240 0⟩
def FE (d:Int) (id:Nat):WM σ Nat:=WM.bind (dR (du id d)) fun _=>WM.pure id
def xO (ask:cL σ) (n:Nat) (d:Int):WM σ Nat:=fun st=>if d=1\/d=2 then (WM.bind (iN ask n) (FE d)) st else (.bad 1,st)
end
end Go.SL
namespace Go.Proofs.Fs
open RowKit SL Proofs.Ba
section
variable {σ α:Type}
def bf (b:Nat) (z:Int):ai:=pt b (V #[Z Y z] 3 (0,0))
def oT (id:Nat) (d:Int):(du id d).fit:=⟨rfl,rfl⟩
def Qp {c:Cx σ} (hc:c.Ok) {n:Nat} (hn:n<=3840) (d:Int) (f:Nat):Cu c n 149 #[X (U ⟨f,0,O⟩)] CG (bf f d) (xO c.ask n d):=by
 intro x w S st F p0 q0 h;subst p0 q0;have ck:w.cell? ⟨f,0,O⟩=U (Z Y d):=(h.t00 (bf f d*(aG x S st*(al S*F)))).cell 0;show Calls N 149 #[X (U ⟨x.k,0,O⟩),X (U ⟨f,0,O⟩)] w _
 by_cases hk:d=1\/d=2
 .have ht:=oU x hc hn w S st _ h
  have hE:xO x.c.ask x.n d st=(WM.bind (iN x.c.ask x.n) (FE d)) st:=if_pos hk;rw [hE];obtain ⟨⟨b0,M⟩,j⟩:∃ p,iN x.c.ask x.n st=p:=⟨_,rfl⟩
  rw [j] at ht;clear hE h
  cases b0 with
  | bad cN=>
   rw [WM.bd j];clear j;rcases hk with rfl|rfl
   all_goals
    go_in
    go_wp2_with fail
    (with_reducible apply (gH w).mono)
    rintro e i ⟨rfl,rfl⟩
    go_wp2_with fail
    (with_reducible apply ht.mono)
    rintro e i ⟨l,hS,d2,rfl,h2⟩
    go_wp2_with fail
    exact ⟨rfl,l,hS,d2,rfl,h2⟩
  | ok id=>
   rw [WM.aW j];clear j;have c0:=qy (id:Int) (du id d).n (oT id d).1;have n0:=ae c0;obtain ⟨G,d0⟩:=Mn0 (ints ((id:Int) :: ((du id d).n.l++A2 240 0)))
   rw [<- d0] at c0;have j0:G=ints (du id d).l:=d0;have m0:=ae j0;clear n0 d0 j0
   have k0:∀ p,dR (du id d) M=p->∀ b0 t,p=(b0,t)->FE d id M=(match b0 with | .ok _=>.ok id | .bad c=>.bad c,t):=by
    intro p j b0 t he;subst he
    cases b0 with
    | ok u=>exact WM.aW j
    | bad c=>exact WM.bd j
   obtain ⟨⟨r2,t⟩,f0⟩:∃ p,dR (du id d) M=p:=⟨_,rfl⟩
   have i0:=k0 _ f0 r2 t rfl;rw [i0];have g0:=fun w S hb F h Q hQ=>Bo x w S M hb (du id d) F h Q hQ;rw [f0] at g0;have h0:=ae g0;have l0:=oT id d;have o0:=ae l0;clear k0 i0 f0 g0 l0;rcases hk with rfl|rfl
   all_goals
    have Hb:=ae c0;clear c0
    go_in
    go_wp2_with fail
    (with_reducible apply (gH w).mono)
    rintro e i ⟨rfl,rfl⟩
    go_wp2_with fail
    (with_reducible apply ht.mono)
    rintro e i ⟨l,v,hS,d2,rfl,h2⟩;obtain ⟨rfl,h3⟩:=ag.aq.1 h2;have r0:i.cell? ⟨f,0,O⟩=U _:=(h3.t00 (bf f _*(aG x l M*(al l*F)))).cell 0;clear ck;have h4:=h3.alloc (V G 153 (0,0));have h5:ag (i.alloc (V G 153 (0,0))) (aP i.heap.size (du id _)*(aG x l M*(al l*(bf f _*F)))):=ag.held.2 ⟨o0.o,by rw [m0.o] at h4 ⊢;exact h4⟩;have D5:=d2.alloc (V G 153 (0,0));have H5:=ae h5;clear h2 h3 h4 h5 ht
    go_wp2_with (refine gR (by exact rfl) 153 #[(0,.tmp 15),(1,.tmp 17)] (by exact rfl) _ (by exact rfl) G (by exact Hb.o) ?_)
    refine h0.o _ l _ _ H5.o _ ?_;clear H5 h0;generalize i.alloc (V G 153 (0,0))=w3 at *
    cases r2 with
    | bad cN=>
     rintro e w4 ⟨q,e0,d4,rfl,h6⟩
     go_wp2_with fail
     exact ⟨rfl,q,hS.trans e0,D5.trans d4,rfl,(h6.t00 (aP i.heap.size (du id _)*(aG x q t*(al q*(bf f _*F))))).right⟩
    | ok u=>
     rintro e w4 ⟨q,v4,e0,d4,rfl,h6⟩;obtain ⟨rfl,h7⟩:=ag.aq.1 h6
     go_wp2_with fail
     go_ret
     exact ⟨q,_,hS.trans e0,D5.trans d4,rfl,ag.aq.2 ⟨rfl,(h7.t00 (aP i.heap.size (du id _)*(aG x q t*(al q*(bf f _*F))))).right⟩⟩
 .have hE:xO x.c.ask x.n d st=(.bad 1,st):=if_neg hk
  rw [hE];have h1:(d == 1)=B:=by simp;omega
  have h2:(d == 2)=B:=by simp;omega
  clear hE hk
  go_in
  go_wp2_with fail
  (with_reducible apply (gQ w).mono)
  rintro e i ⟨rfl,rfl⟩
  go_wp2_with fail
  exact ⟨rfl,S,Ext.refl S,aj.refl w,rfl,h⟩
end
end Go.Proofs.Fs
namespace Go.SL
open RowKit
section
variable {σ α β:Type}
def Hd.pM (h:Hd) (z:Int):Hd:={ h with n:={ h.n with lk:=z } }
def uz (h:Hd) (z:Int):WM σ Unit:=fun st=>if 0<=z/\z<=65535 then dR (h.pM z) st else (.bad 1,st)
def lq (ask:cL σ) (n:Nat) (node d:Int):WM σ Unit:=WM.bind (fZ ask n node) fun h=>uz h (wrap64 (h.n.lk+d))
def rA (ask:cL σ) (n:Nat) (node:Int):WM σ Nd:=WM.bind (fZ ask n node) fun h=>WM.pure h.n
def pO (ask:cL σ) (n:Nat):WM σ Nat:=WM.bind (jq ask) fun l=>WM.pure (n-(dp l n).length)
def Hd.I6 {h:Hd} (d:h.fit) (z:Int):(h.pM z).fit:=d
end
end Go.SL
namespace Go.Proofs.Fs
open RowKit SL Proofs.Ba
section
variable {σ α:Type}
def jV (x:Wk σ) (d:x.c.Ok) (w:L) (S:Hp) (st:eG σ) (id:Int) (F:ai) (h:ag w (aG x S st*(al S*F))) :
  Calls N 93 #[X (U ⟨x.k,0,O⟩),Z Y id] w (WQ x pK S F w (fZ x.c.ask x.n id st)):=
 uG x d w S st id F h _ fun _ _ h=>h
def jW (x:Wk σ) (w:L) (S:Hp) (st:eG σ) (d:Nat) (h:Hd) (F:ai) (hs:ag w (aP d h*(aG x S st*(al S*F)))) :
  Calls N 97 #[X (U ⟨x.k,0,O⟩),X (U ⟨d,0,O⟩)] w (WQ x jo S (aP d h*F) w (dR h st)):=
 Bo x w S st d h F hs _ fun _ _ h=>h
def ag.pK {w:L} {h:Hd} {v:K} {F:ai} (hs:ag w (pK h v*F)):∃ d,v = X (U ⟨d,0,O⟩)/\ag w (aP d h*F):=by
 obtain ⟨d,e⟩:=ag.aw.1 hs;obtain ⟨f,i⟩:=ag.aq.1 (e.to (ay _ _ _));exact ⟨d,f,i⟩
def de {w:L} {d:Nat} {h:Hd} {F:ai} (hs:ag w (aP d h*F)) {j:Nat} (i:j<261):w.cell? ⟨d,j,O⟩=U (Z Y (h.l.getD j 0))/\w.frozen? ⟨d,j,O⟩=B:=by
 obtain ⟨f,e⟩:=ag.held.1 hs;exact ⟨by rw [e.cell,bK (by rw [Hd.uZ f];exact i)],e.frozen j⟩
def kI {w:L} {d:Nat} {h h':Hd} {F:ai} (hs:ag w (aP d h*F)) {j:Nat} {z:Int} (f:h'.fit) (i:h'.l=h.l.set j z):ag (w.setCell ⟨d,j,O⟩ (Z Y z)) (aP d h'*F):=by
 obtain ⟨_,e⟩:=ag.held.1 hs;refine ag.held.2 ⟨f,?_⟩;have:=e.setCell j (Z Y z);rw [gM] at this;rw [i];exact this
def ag.zd {w:L} {d:Nat} {h:Hd} {F:ai} (hs:ag w (aP d h*F)):h.fit:=(ag.held.1 hs).1
def ID {c:Cx σ} (hc:c.Ok) {n:Nat} (node d:Int) (j i:Nat):Cu c n 101 #[X (U ⟨j,0,O⟩),X (U ⟨i,0,O⟩)] jo (bf j node*bf i d) (lq c.ask n node d):=by
 intro x w e0 st F n0 o0 h;subst n0 o0;have cn:w.cell? ⟨j,0,O⟩=U (Z Y node):=(h.t00 (bf j node*(bf i d*(aG x e0 st*(al e0*F))))).cell 0;show Calls N 101 #[X (U ⟨x.k,0,O⟩),X (U ⟨j,0,O⟩),X (U ⟨i,0,O⟩)] w _
 have hl:=jV x hc w e0 st node _ h;obtain ⟨⟨q0,t⟩,hp⟩:∃ p,fZ x.c.ask x.n node st=p:=⟨_,rfl⟩
 rw [hp] at hl
 cases q0 with
 | bad cN=>
  have hE:lq x.c.ask x.n node d st=(.bad cN,t):=WM.bd hp;rw [hE];clear hE hp h
  go_in
  go_wp2_with fail
  (with_reducible apply hl.mono)
  rintro e w2 ⟨l,M,d2,rfl,h2⟩
  go_wp2_with fail
  exact ⟨rfl,l,M,d2,rfl,h2⟩
 | ok f=>
  have hE:lq x.c.ask x.n node d st=uz f (wrap64 (f.n.lk+d)) t:=WM.aW hp;rw [hE];clear hE hp h;obtain ⟨z,hz⟩:=Nm (wrap64 (f.n.lk+d))
  rw [hz];have k0:f.l.getD 2 0=f.n.lk:=rfl;have Hz:=ae hz;obtain ⟨r2,h0⟩:=Nm (uz f z t)
  rw [h0];have c0:=ae h0;clear hz h0
  go_in
  go_wp2_with fail
  (with_reducible apply hl.mono)
  rintro e w2 ⟨l,v,M,d2,rfl,h2⟩;obtain ⟨S,rfl,h3⟩:=ag.pK h2;have g0:=(de h3 (j:=2) De0).1;rw [k0] at g0;have cd:w2.cell? ⟨i,0,O⟩=U (Z Y d):=(h3.t00 (bf i d*(bf j node*(aP S f*(aG x l t*(al l*F)))))).cell 0;clear hl h2 cn k0
  go_wp2_with fail
  go_region_held3 (fun w'=>w'.cell? ⟨S,2,O⟩=U (Z Y f.n.lk)/\w'.cell? ⟨i,0,O⟩=U (Z Y d)) (first|exact ⟨g0,cd⟩|go_keep) (fail)
  rename_i m0;have G:=ae h3.drew;have D2:=ae d2.drew;clear m0 h3 d2 g0 cd;rw [show IntKind.i64.wrap (f.n.lk+d)=z from by rw [<- Hz.o,IntKind.wrap_i64];unfold wrap64;omega];generalize w2.drew=w3 at *
  by_cases b0:0<=z/\z<=65535
  .have d0:dR (f.pM z) t=r2:=by rw [<- c0.o];exact (if_pos b0).symm
   have g2:=(de G.o (j:=2) De0).1;have f2:=(de G.o (j:=2) De0).2;have h4:=kI (h':=f.pM z) G.o (j:=2) (z:=z) (Hd.I6 (ag.zd G.o) z) rfl;have i0:=jW x _ l t S (f.pM z) _ h4;rw [d0] at i0;have j0:=ae i0;have D4:=ae (D2.o.setCell ⟨S,2,O⟩ (Z Y z));obtain ⟨z1,z2⟩:=b0;clear h4 i0 d0 c0;generalize f.l.getD 2 0=y at *;obtain ⟨r3,l0⟩:=r2
   go_wp2_with fail
   (with_reducible apply (gH w3).mono)
   rintro e w4 ⟨rfl,rfl⟩
   cases r3 with
   | bad cN=>
    go_wp2_with fail
    apply j0.o.mono;rintro e w5 ⟨q,f0,d5,rfl,h6⟩
    go_wp2_with fail
    exact ⟨rfl,q,M.trans f0,D4.o.trans d5,rfl,(h6.t00 (aP S (f.pM z)*(aG x q l0*(al q*(bf j node*bf i d*F))))).right⟩
   | ok u=>
    go_wp2_with fail
    apply j0.o.mono;rintro e w5 ⟨q,v5,f0,d5,rfl,h6⟩;obtain ⟨rfl,h7⟩:=ag.aq.1 h6
    go_wp2_with fail
    go_end0
    exact ⟨q,_,M.trans f0,D4.o.trans d5,rfl,ag.aq.2 ⟨rfl,(h7.t00 (aP S (f.pM z)*(aG x q l0*(al q*(bf j node*bf i d*F))))).right⟩⟩
  .have d0:r2=(.bad 1,t):=by rw [<- c0.o];exact if_neg b0
   subst d0;clear c0
   by_cases r0:0<=z
   .have p0:decide (z<=65535)=B:=decide_eq_false Om0
    clear b0
    go_wp2_with fail
    (with_reducible apply (gQ w3).mono)
    rintro e w4 ⟨rfl,rfl⟩
    go_wp2_with fail
    exact ⟨rfl,l,M,D2.o,rfl,G.o.right⟩
   .have p0:z<0:=Om0
    clear b0
    go_wp2_with fail
    (with_reducible apply (gQ w3).mono)
    rintro e w4 ⟨rfl,rfl⟩
    go_wp2_with fail
    exact ⟨rfl,l,M,D2.o,rfl,G.o.right⟩
def ur {w:L} {tmps:Array K} {a:Nat} {d:Array K} {F:ai} (e:tmps[3]?=U (az a)) (i:ag w (pt a (V d 66 (0,0))*F)) (f:d.size=20) :
  (results Tryz.f136 tmps).run N w = .ok (.agg d) w:=by
 have j:=run_loadVar_row (P:=N) w a 66 66 d (0,0) _ i.heap underlying66 rfl (by rw [f];exact bC);simp [results,Tryz.results136,e,asAddr,j]
def KH {c:Cx σ} (hc:c.Ok) {n:Nat} (node:Int) (i:Nat):Cu c n 136 #[X (U ⟨i,0,O⟩)] A0 (bf i node) (rA c.ask n node):=by
 intro x w b0 st F n0 o0 h;subst n0 o0;show Calls N 136 #[X (U ⟨x.k,0,O⟩),X (U ⟨i,0,O⟩)] w _
 have h1:=h.alloc (V #[Z Y 0,Z Y 0,Z Y 0,Z Y 0,Z Y 0,Z Y 0,Z Y 0,Z Y 0,Z Y 0,Z Y 0,Z Y 0,Z Y 0,Z Y 0,Z Y 0,Z Y 0,Z Y 0,Z Y 0,Z Y 0,Z Y 0,Z Y 0] 66 (0,0));have D1:=(aj.refl w).alloc (V #[Z Y 0,Z Y 0,Z Y 0,Z Y 0,Z Y 0,Z Y 0,Z Y 0,Z Y 0,Z Y 0,Z Y 0,Z Y 0,Z Y 0,Z Y 0,Z Y 0,Z Y 0,Z Y 0,Z Y 0,Z Y 0,Z Y 0,Z Y 0] 66 (0,0));have e:=h1.t00 (aG x b0 st*(al b0*(bf i node*(pt w.heap.size (V #[Z Y 0,Z Y 0,Z Y 0,Z Y 0,Z Y 0,Z Y 0,Z Y 0,Z Y 0,Z Y 0,Z Y 0,Z Y 0,Z Y 0,Z Y 0,Z Y 0,Z Y 0,Z Y 0,Z Y 0,Z Y 0,Z Y 0,Z Y 0] 66 (0,0))*F))));have cn:(w.alloc (V #[Z Y 0,Z Y 0,Z Y 0,Z Y 0,Z Y 0,Z Y 0,Z Y 0,Z Y 0,Z Y 0,Z Y 0,Z Y 0,Z Y 0,Z Y 0,Z Y 0,Z Y 0,Z Y 0,Z Y 0,Z Y 0,Z Y 0,Z Y 0] 66 (0,0))).cell? ⟨i,0,O⟩=U (Z Y node):=e.au.cell 0;have S:=jV x hc _ b0 st node _ e;obtain ⟨⟨p0,t⟩,q⟩:∃ p,fZ x.c.ask x.n node st=p:=⟨_,rfl⟩
 rw [q] at S;have hz:=ae h1.heap;clear h1 e h
 cases p0 with
 | bad cN=>
  have j:rA x.c.ask x.n node st=(.bad cN,t):=WM.bd q;rw [j];clear j q
  go_in
  go_wp2_with fail
  (with_reducible apply S.mono)
  rintro l0 w2 ⟨f,hS,G,rfl,e⟩
  go_wp2_with fail
  exact ⟨rfl,f,hS,D1.trans G,rfl,(e.t00 (pt w.heap.size (V #[Z Y 0,Z Y 0,Z Y 0,Z Y 0,Z Y 0,Z Y 0,Z Y 0,Z Y 0,Z Y 0,Z Y 0,Z Y 0,Z Y 0,Z Y 0,Z Y 0,Z Y 0,Z Y 0,Z Y 0,Z Y 0,Z Y 0,Z Y 0] 66 (0,0))*(aG x f t*(al f*(bf i node*F))))).right⟩
 | ok d=>
  have j:rA x.c.ask x.n node st=(.ok d.n,t):=WM.aW q;rw [j];clear j q
  go_in
  go_wp2_with fail
  (with_reducible apply S.mono)
  rintro l0 w2 ⟨f,v,hS,G,rfl,e⟩;obtain ⟨hb,rfl,M⟩:=ag.pK e;have l:=ag.zd M;have m0:=ae (sf l (ag.held.1 M).2);have e0:(prog.info? 66).map (·.size)=U (d.n.l.map (A3 Y)).length:=by rw [J3,Nd.cells l.1];exact bC
  have c0:(d.n.l.map (A3 Y)).toArray.size=20:=by simp [Nd.cells l.1]
  have f0:(prog.info? 66).map (·.size)=U (d.n.l.map (A3 Y)).toArray.size:=by rw [c0];exact bC
  have g0:(d.n.l.map (A3 Y)).toArray.all (·.oneCell')=E:=by simp [K7]
  have h4:ag w2 (pt w.heap.size (V #[Z Y 0,Z Y 0,Z Y 0,Z Y 0,Z Y 0,Z Y 0,Z Y 0,Z Y 0,Z Y 0,Z Y 0,Z Y 0,Z Y 0,Z Y 0,Z Y 0,Z Y 0,Z Y 0,Z Y 0,Z Y 0,Z Y 0,Z Y 0] 66 (0,0))*(aP hb d*(aG x f t*(al f*(bf i node*F))))):=M.u00;have k0:=ae h4.heap;have h5:=h4.setRow (cs':=(d.n.l.map (A3 Y)).toArray);have D5:=ae ((D1.trans G).setRow w.heap.size (d.n.l.map (A3 Y)).toArray);have H5:=ae h5;have h0:=ae e0;have i0:=ae f0;have j0:=ae g0;have d0:=ae c0;have Hf:=ae l;clear e M h4 h5 e0 f0 g0 l S hz cn G c0
  go_wp2_with (first
   | (refine wpList_load_mid (by exact rfl) 66 (.tmp 8) (by exact rfl) hb 1 (by exact rfl) (d.n.l.map (A3 Y)) _ (by with_reducible exact m0.o) underlying66 rfl (by with_reducible exact h0.o) ?_)
   | (refine wpList_store_row (by exact rfl) 66 (.tmp 3) (.tmp 9) (by exact rfl) w.heap.size (d.n.l.map (A3 Y)).toArray (by exact rfl) (by exact rfl) 66 #[Z Y 0,Z Y 0,Z Y 0,Z Y 0,Z Y 0,Z Y 0,Z Y 0,Z Y 0,Z Y 0,Z Y 0,Z Y 0,Z Y 0,Z Y 0,Z Y 0,Z Y 0,Z Y 0,Z Y 0,Z Y 0,Z Y 0,Z Y 0] (by with_reducible exact k0.o) i0.o (by rw [d0.o];rfl) j0.o ?_))
  exact bodyPost_ret (ur rfl H5.o d0.o) rfl ⟨f,_,hS,D5.o,rfl,ag.aq.2 ⟨⟨rfl,Hf.o.1⟩,H5.o.right.right⟩⟩
end
end Go.Proofs.Fs
namespace Go.SL
open RowKit
section
variable {σ:Type}
def ji (ask:cL σ):WM σ Unit:=fun st=>(WM.bind (cI ask 0 E) fun _=>WM.bind (cI ask 1 E) fun _=>dR (du 1 2)) { st with bits:=U (zs 480) }
def Hd.ik (h:Hd):List Int:=h.n.dr++h.row
def Hd.jM {h:Hd} (d:h.fit):h.ik.length=256:=by simp [Hd.ik,d.1,d.2]
def Hd.wm {h:Hd} (d:h.fit) (i:Nat):h.aN i=h.ik.getD i 0:=by
 unfold Hd.aN Hd.ik
 split
 .rename_i e;rw [B2,B2,K9 (by rw [d.1];exact e)]
 .rename_i e;rw [B2,B2,K5 (by rw [d.1];omega),d.1]
end
end Go.SL
namespace Go.Proofs.Fs
open RowKit SL Proofs.Ba
section
variable {σ α:Type}
def NQ {c:Cx σ} (hc:c.Ok) {n:Nat} (hn:n<=3840):Cu c n 85 #[] CG emp (pO c.ask n):=by
 intro x w h0 st F j0 k0 h;subst j0 k0;show Calls N 85 #[X (U ⟨x.k,0,O⟩)] w _
 have c1:w.cell? ⟨x.k,1,O⟩=U (Z Y (x.n:Int)):=vX h;have M:=fun (w:L) h=>qt x hc w h0 st (emp*F) h;obtain ⟨⟨l0,e⟩,f⟩:∃ p,jq x.c.ask st=p:=⟨_,rfl⟩
 rw [f] at M
 cases l0 with
 | bad cN=>
  have i:pO x.c.ask x.n st=(.bad cN,e):=WM.bd f;rw [i];clear i f
  go_in
  go_wp2_with fail
  refine wp_region_held_drew (S:=(fun w'=>w'.cell? ⟨x.k,1,O⟩=U (Z Y (x.n:Int)))) Kr0 ?_ (fun n0=>?_)
  ·(first|exact c1|go_keep)
  refine tk 0 ?_;refine tk 1 ?_;refine tk 2 ?_;refine tk 3 ?_;refine tk 4 ?_;refine tk 6 ?_;refine tk 7 ?_;refine tk 8 ?_;refine tk 9 ?_;refine tr 5 fun m0 hK=>?_
  go_simp
  go_wp2_with (go_at_call 87;apply (M w.drew h.drew).mono;rintro b0 S ⟨d,G,t,rfl,j⟩)
  exact ⟨rfl,d,G,(aj.refl w).drew.trans t,rfl,j⟩
 | ok l=>
  have i:pO x.c.ask x.n st=(.ok (x.n-(dp l x.n).length),e):=WM.aW f;have c0:=(BX f (bitsLen h)).1;have g0:=ae c0;rw [i];have e0:=pR l x.n;have d0:=fun w v F h q=>Ic w v l F h q x.n hn;have hN:(x.n:Int)<=3840:=Om0
  have o0:0<=(x.n:Int):=Om0
  have i0:(x.n:Int)-((dp l x.n).length:Int)=((x.n-(dp l x.n).length:Nat):Int):=Om0
  obtain ⟨f0,ht⟩:=Nm ((dp l x.n).length)
  rw [ht] at e0 d0 i0 ⊢;have p0:0<=(f0:Int):=Om0
  have q0:(f0:Int)<=(x.n:Int):=Om0
  clear i f c0 ht e0
  go_in
  go_wp2_with fail
  go_region_held3 (fun w'=>w'.cell? ⟨x.k,1,O⟩=U (Z Y (x.n:Int)))
   (first|exact c1|exact k1|exact k2|go_keep)
   (first
    | (go_at_call 87;apply (M w.drew h.drew).mono;rintro b0 S ⟨d,v,G,t,rfl,q,j⟩;have k1:S.cell? ⟨x.k,1,O⟩=U (Z Y (x.n:Int)):=(j.to (by unfold cG;ac_rfl:_=pt x.k (V (x.cells v e.dt) 139 (0,0))*(dG x.c d x.b e.b*(bs 5 v l*(al d*(emp*F)))))).cell 1)
    | (go_at_call 86;refine (d0 S v (cG x v d e*(al d*(emp*F))) (j.u00) q).mono ?_;rintro b0 w2 ⟨rfl,h3,d2⟩;have k2:w2.cell? ⟨x.k,1,O⟩=U (Z Y (x.n:Int)):=(h3.to (by unfold cG;ac_rfl:_=pt x.k (V (x.cells v e.dt) 139 (0,0))*(dG x.c d x.b e.b*(bs 5 v l*(al d*(emp*F)))))).cell 1))
  all_goals
   go_wp2_with fail
   go_ret
   refine ⟨d,_,G,((aj.refl w).drew.trans t).trans d2,rfl,ag.aq.2 ⟨?_,ag.iv v ?_⟩⟩
   .show A3 Y _=A3 Y _;congr 1;rw [IntKind.wrap_i64];omega
   .rw [g0.o];exact (ag.og q h3).u00
def aF {P:Program} {f:FuncId} {args:Array K} {w:L} {R:Ending->L->Prop} (h:∀ Q:Ending->L->Prop,RowKit.Hid (∀ e w',R e w'->Q e w')->Calls P f args w Q):Calls P f args w R:=h R (fun _ _ h=>h)
def Di {c:Cx σ} (hc:c.Ok) {n:Nat}:Cu c n 118 #[] jo emp (ji c.ask):=by
 intro x w S st F R0 S0 h;subst R0 S0;show Calls N 118 #[X (U ⟨x.k,0,O⟩)] w _
 refine aF fun Q HQ=>?_;obtain ⟨v0,h1⟩:=ag.iI h;have G0:=KK w;obtain ⟨LZ,hA⟩:=Mn0 (({ st with bits:=U (zs 480) }:eG σ))
 have d:ji x.c.ask st=(WM.bind (cI x.c.ask 0 E) fun _=>WM.bind (cI x.c.ask 1 E) fun _=>dR (du 1 2)) LZ:=by rw [hA];rfl
 have q0:=ae d;have HA:=ae hA;have l0:=qy 1 (du 1 2).n (oT 1 2).1;obtain ⟨HL,j0⟩:=Mn0 (ints ((1:Int) :: ((du 1 2).n.l++A2 240 0)))
 rw [<- j0] at l0;have L0:=ae (show HL=ints (du 1 2).l from j0);have Hb:=ae l0;have F0:(zs 480).length=480:=bg 480;have s0:=ae F0;clear l0 j0 d hA h F0;generalize zs 480=g0 at *;obtain ⟨⟨r1,f⟩,b0⟩:∃ p,cI x.c.ask 0 E LZ=p:=⟨_,rfl⟩
 have m0:∀ (w:L) (S:Hp) (F:ai),ag w (aG x S LZ*(al S*F))->Calls N 105 #[X (U ⟨x.k,0,O⟩),Z Y 0,r E] w (WQ x jo S F w (cI x.c.ask 0 E LZ)):=fun w S F h=>vH x hc w S LZ 0 E F De0 h;rw [b0] at m0
 go_in
 go_wp2_with fail
 (with_reducible apply G0.mono)
 rintro e w2 ⟨v,rfl,h2,d2⟩;have h3:=h2.under h1;obtain ⟨q,t,rfl⟩:=aC h3;rw [s0.o] at h3 ⊢;have h4:ag w2 (pt x.k (V (x.cells v0 st.dt) 139 (0,0))*(dG x.c S x.b st.b*(bs 5 (H q 480 t) g0*(al S*(emp*F))))):=(h3.to (by unfold cG;ac_rfl:_=fA st.bits v0*(pt x.k (V (x.cells v0 st.dt) 139 (0,0))*(dG x.c S x.b st.b*(bs 5 (H q 480 t) g0*(al S*(emp*F))))))).right
 obtain ⟨v1,n1,k1,rfl⟩:∃ a n c,v0 = H a n c:=by
  rcases ag.oA (h3.t00 (fA st.bits v0*(bs 5 (H q 480 t) g0*(cG x v0 S st*(al S*(emp*F)))))) with ⟨_,rfl,_⟩|⟨l,_,_,hx⟩
  .exact ⟨_,_,_,rfl⟩
  .obtain ⟨a,b,e⟩:=aC hx;exact ⟨_,_,_,e⟩
 have g2:w2.cell? ⟨x.k,2,O⟩=U (H v1 n1 k1):=h4.cell 2;have f2:w2.frozen? ⟨x.k,2,O⟩=B:=h4.frozen 2;have h5:=h4.setCell 2 (H q 480 t);have D5:=d2.setCell ⟨x.k,2,O⟩ (H q 480 t)
 have h6:ag (w2.setCell ⟨x.k,2,O⟩ (H q 480 t)) (aG x S LZ*(al S*(emp*F))):=by
  rw [HA.o];refine ag.iv (H q 480 t) ?_;have i:=ag.og s0.o h5.au;exact i.to (by unfold cG Wk.cells;simp only [K2,K6,L8];ac_rfl)
 have hm:=m0 _ S _ h6;clear G0 h1 h2 h3 h4 h5 h6 m0
 cases r1 with
 | bad cN=>
  have d:(WM.bind (cI x.c.ask 0 E) fun _=>WM.bind (cI x.c.ask 1 E) fun _=>dR (du 1 2)) LZ=(.bad cN,f):=WM.bd b0;have G:=ae (q0.o.trans d);clear d b0
  go_wp2_with fail
  (with_reducible apply hm.mono)
  rintro e w3 ⟨S',hS,M,rfl,i⟩
  go_wp2_with fail
  exact ⟨rfl,HQ.o _ _ (by rw [G.o];exact ⟨S',hS,D5.trans M,rfl,i⟩)⟩
 | ok u=>
  have d:(WM.bind (cI x.c.ask 0 E) fun _=>WM.bind (cI x.c.ask 1 E) fun _=>dR (du 1 2)) LZ=(WM.bind (cI x.c.ask 1 E) fun _=>dR (du 1 2)) f:=WM.aW b0;have r0:=ae (q0.o.trans d);clear d b0;obtain ⟨⟨r2,d0⟩,c0⟩:∃ p,cI x.c.ask 1 E f=p:=⟨_,rfl⟩
  have f0:∀ (w:L) (S:Hp) (F:ai),ag w (aG x S f*(al S*F))->Calls N 105 #[X (U ⟨x.k,0,O⟩),Z Y 1,r E] w (WQ x jo S F w (cI x.c.ask 1 E f)):=fun w S F h=>vH x hc w S f 1 E F De0 h;rw [c0] at f0
  cases r2 with
  | bad cN=>
   have d:(WM.bind (cI x.c.ask 1 E) fun _=>dR (du 1 2)) f=(.bad cN,d0):=WM.bd c0;have G:=ae (r0.o.trans d);clear d c0
   go_wp2_with fail
   (with_reducible apply hm.mono)
   rintro e w3 ⟨S',v3,hS,M,rfl,i⟩;obtain ⟨rfl,h8⟩:=ag.aq.1 i
   go_wp2_with fail
   (with_reducible apply (f0 w3 S' _ h8).mono)
   rintro e w4 ⟨S2,e0,d4,rfl,h9⟩
   go_wp2_with fail
   exact ⟨rfl,HQ.o _ _ (by rw [G.o];exact ⟨S2,hS.trans e0,(D5.trans M).trans d4,rfl,h9⟩)⟩
  | ok u2=>
   have d:(WM.bind (cI x.c.ask 1 E) fun _=>dR (du 1 2)) f=dR (du 1 2) d0:=WM.aW c0;have K0:=ae (r0.o.trans d);clear d c0;have o0:=fun w S hb F h=>jW x w S d0 hb (du 1 2) F h;obtain ⟨⟨r3,H0⟩,n0⟩:∃ p,dR (du 1 2) d0=p:=⟨_,rfl⟩
   rw [n0] at o0;have G:=ae (K0.o.trans n0);have u0:=ae o0;clear n0 o0
   go_wp2_with fail
   (with_reducible apply hm.mono)
   rintro e w3 ⟨S',v3,hS,M,rfl,i⟩;obtain ⟨rfl,h8⟩:=ag.aq.1 i
   go_wp2_with fail
   (with_reducible apply (f0 w3 S' _ h8).mono)
   rintro e w4 ⟨S2,v4,e0,d4,rfl,h9⟩;obtain ⟨rfl,x0⟩:=ag.aq.1 h9;have h0:=x0.alloc (V HL 153 (0,0));have D0:ag (w4.alloc (V HL 153 (0,0))) (aP w4.heap.size (du 1 2)*(aG x S2 d0*(al S2*(emp*F)))):=ag.held.2 ⟨oT 1 2,by rw [L0.o] at h0 ⊢;exact h0⟩;have p0:=ae (((D5.trans M).trans d4).alloc (V HL 153 (0,0)));have HS:=ae (hS.trans e0);have hs:=ae (u0.o _ _ _ _ D0);clear hm f0 i h8 h9 x0 h0 D0 u0 D5 M d4 hS e0
   go_wp2_with (refine gR (by exact rfl) 153 #[(0,.const (Z Y 1)),(1,.tmp 11)] (by exact rfl) _ (by exact rfl) HL (by exact Hb.o) ?_)
   apply hs.o.mono
   cases r3 with
   | bad cN=>
    rintro e w5 ⟨j,k0,d5,rfl,i0⟩
    go_wp2_with fail
    exact ⟨rfl,HQ.o _ _ (by rw [G.o];exact ⟨j,HS.o.trans k0,p0.o.trans d5,rfl,(i0.t00 (aP w4.heap.size (du 1 2)*(aG x j H0*(al j*(emp*F))))).right⟩)⟩
   | ok u3=>
    rintro e w5 ⟨j,v5,k0,d5,rfl,i0⟩;obtain ⟨rfl,N0⟩:=ag.aq.1 i0
    go_wp2_with fail
    go_end0
    exact HQ.o _ _ (by rw [G.o];exact ⟨j,_,HS.o.trans k0,p0.o.trans d5,rfl,ag.aq.2 ⟨rfl,(N0.t00 (aP w4.heap.size (du 1 2)*(aG x j H0*(al j*(emp*F))))).right⟩⟩)
end
end Go.Proofs.Fs
namespace Go.SL
open RowKit
section
variable {σ α β:Type}
def WM.nO {m:WM σ α} {k:α->WM σ β} {st st':eG σ} {b:β} (h:WM.bind m k st=(.ok b,st')):∃ a d,m st=(.ok a,d)/\k a d=(.ok b,st'):=by
 unfold WM.bind at h
 match hm:m st,h with
 | (.ok a,d),h=>exact ⟨a,d,rfl,h⟩
 | (.bad c,d),h=>cases h
structure Hd.T7 (n:Nat) (h:Hd):Prop where
 fit:h.fit
 ok:h.n.ok=true
 XC:1<=h.id
 WW:h.id<n
 yK:0<=h.n.rw
 AE:h.n.rw<n
 pg:∀ p ∈ h.ik,0<=p/\p<n
def FF {l:List Int} (h:l.all dh=E):∀ p ∈ l,0<=p/\p<3840:=fun p d=>ju (List.all_eq_true.1 h p d)
def sX {ask:cL σ} {n:Nat} {id:Int} {st st':eG σ} {h:Hd} (q:fZ ask n id st=(.ok h,st')):h.T7 n:=by
 unfold fZ at q
 split at q
 .rename_i m0
  obtain ⟨j,bH,h1,e⟩:=WM.nO q;unfold TV at e
  split at e
  .rename_i S
   have t:(kN j).1.ok=E/\(kN j).1.dr.length=16:=by
    refine ⟨?_,Gm j⟩;unfold kN at S ⊢
    split at S
    .rename_i i;rw [if_pos i];simp only [Bool.and_eq_true] at i;exact i.1
    .cases S
   generalize (kN j).1=G at *;obtain ⟨t,e0⟩:=t;have hf:=Nd.qR t;have j0:=ju hf.2.2.2.2.2.2.1
   have c0:∀ row d0,row.length=240->(∀ p ∈ row,0<=p)->(G.rw<n)->iT n id.toNat G row d0=(.ok h,st')->h.T7 n:=by
    intro row d0 f0 i0 g0 h3;obtain ⟨_,k0,h4,h5⟩:=WM.nO h3;obtain ⟨_,l0,l,f⟩:=WM.nO h5;simp only [WM.pure,Prod.mk.injEq,Rs.ok.injEq] at f;obtain ⟨rfl,rfl⟩:=f
    have M:G.dr.all (fun x=>decide (x<n))=E:=by
     unfold eP at h4;split at h4
     .assumption
     .cases h4
    have a2:row.all (fun x=>decide (x<n))=E:=by
     unfold eP at l;split at l
     .assumption
     .cases l
    refine ⟨⟨e0,f0⟩,t,by show 1<=id.toNat;omega,by show id.toNat<n;omega,j0.1,g0,fun p d=>?_⟩;rcases List.mem_append.1 d with d|d
    .exact ⟨(FF hf.2.2.2.2.2.1 p d).1,by simpa using List.all_eq_true.1 M p d⟩
    .exact ⟨i0 p d,by simpa using List.all_eq_true.1 a2 p d⟩
   unfold lj at e
   split at e
   .rename_i hz
    exact c0 _ _ rfl (fun p d=>by rw [(List.mem_replicate.1 d).2];omega) (by rw [hz];omega) e
   .obtain ⟨_,k0,h4,h5⟩:=WM.nO e
    obtain ⟨L2,l0,l,f⟩:=WM.nO h5
    have M:[G.rw].all (fun x=>decide (x<n))=E:=by
     unfold eP at h4;split at h4
     .assumption
     .cases h4
    unfold NB at f
    split at f
    .rename_i b0
     have h0:(l7 L2).1.all dh=E:=by
      unfold l7 at b0 ⊢
      split at b0
      .rename_i i;rw [if_pos i];exact i
      .cases b0
     exact c0 _ _ (CD L2) (fun p d=>(FF h0 p d).1) (by simpa using M) f
    .cases f
  .cases e
 .cases q
def iw (ask:cL σ):List Int->WM σ Unit
 | []=>WM.pure ()
 | p :: d=>fun st=>if p=0 then iw ask d st else (WM.bind (cI ask p.toNat B) fun _=>iw ask d) st
def Ev (ask:cL σ) (h:Hd):WM σ Unit:=fun st=>if h.n.rw=0 then cI ask h.id B st else (WM.bind (cI ask h.n.rw.toNat B) fun _=>cI ask h.id B) st
def rh (ask:cL σ) (n:Nat) (node:Int):WM σ Unit:=WM.bind (fZ ask n node) fun h=>WM.bind (iw ask h.ik) fun _=>Ev ask h
def lE (ask:cL σ) (h:Hd) (k:Nat):WM σ Unit:=WM.bind (iw ask (h.ik.drop k)) fun _=>Ev ask h
def Hd.mF {h:Hd} (d:h.fit) {k:Nat} (f:k<256):h.ik.drop k=h.aN k :: h.ik.drop (k+1):=by
 have e:k<h.ik.length:=by rw [Hd.jM d];exact f
 rw [List.drop_eq_getElem_cons e,Hd.wm d,B2,K4 e];rfl
def LX {ask:cL σ} {h:Hd} (f:h.fit) {k:Nat} (i:k<256) (d:h.aN k=0) (st:eG σ):lE ask h k st=lE ask h (k+1) st:=by
 have e:iw ask (h.ik.drop k) st=iw ask (h.ik.drop (k+1)) st:=by rw [Hd.mF f i];exact if_pos d
 unfold lE WM.bind;rw [e]
def Nx {ask:cL σ} {h:Hd} (i:h.fit) {k:Nat} (j:k<256) (f:h.aN k≠0) {st d:eG σ} {c:Int} (hm:cI ask (h.aN k).toNat B st=(.bad c,d)):lE ask h k st=(.bad c,d):=by
 have e:iw ask (h.ik.drop k) st=(.bad c,d):=by rw [Hd.mF i j];exact (if_neg f).trans (WM.bd hm)
 exact WM.bd e
def KM {ask:cL σ} {h:Hd} (i:h.fit) {k:Nat} (j:k<256) (f:h.aN k≠0) {st d:eG σ} (hm:cI ask (h.aN k).toNat B st=(.ok (),d)):lE ask h k st=lE ask h (k+1) d:=by
 have e:iw ask (h.ik.drop k) st=iw ask (h.ik.drop (k+1)) d:=by rw [Hd.mF i j];exact (if_neg f).trans (WM.aW hm)
 unfold lE WM.bind;rw [e]
def M4 {ask:cL σ} {h:Hd} (d:h.fit) (st:eG σ):lE ask h 256 st=Ev ask h st:=by
 have e:iw ask (h.ik.drop 256) st=(.ok (),st):=by rw [List.drop_of_length_le (by rw [Hd.jM d];exact Nat.le_refl _)];rfl
 exact WM.aW e
def Hd.T7.aN {n:Nat} {h:Hd} (d:h.T7 n) {k:Nat} (f:k<256):0<=h.aN k/\h.aN k<n:=by
 have e:k<h.ik.length:=by rw [Hd.jM d.fit];exact f
 have:=d.pg _ (List.getElem_mem e);rw [Hd.wm d.fit,B2,K4 e];exact this
end
end Go.SL
namespace Go.Proofs.Fs
open RowKit SL Proofs.Ba
section
variable {σ α:Type}
def jY (x:Wk σ) (e:x.c.Ok) (w:L) (S:Hp) (st:eG σ) (p:Int) (t:Bool) (F:ai) (d:0<=p) (f:p<3840) (h:ag w (aG x S st*(al S*F))) :
  Calls N 105 #[X (U ⟨x.k,0,O⟩),Z Y p,r t] w (WQ x jo S F w (cI x.c.ask p.toNat t st)):=by
 have:=vH x e w S st p.toNat t F Om0 h
 rwa [L4 d] at this
def QB (x:Wk σ) (i:Nat) (e:Hd) (S:Hp) (F:ai) (w:L) (T:Rs Unit × eG σ) (u9:K) (wr:L):Prop:=
 ∃ (k:Nat) (f:eG σ) (d:Hp),k<=256/\u9 = Z Y (k:Int)/\lE x.c.ask e k f=T/\Ext S d/\aj w wr/\ag wr (aG x d f*(al d*(aP i e*F)))
def Ma {c:Cx σ} (hc:c.Ok) {n:Nat} (hn:n<=3840) (node:Int) (j:Nat):Cu c n 103 #[X (U ⟨j,0,O⟩)] jo (bf j node) (rh c.ask n node):=by
 intro x w l0 st F F0 G0 h;subst F0 G0;have cn:w.cell? ⟨j,0,O⟩=U (Z Y node):=(h.t00 (bf j node*(aG x l0 st*(al l0*F)))).cell 0;show Calls N 103 #[X (U ⟨x.k,0,O⟩),X (U ⟨j,0,O⟩)] w _
 refine aF fun Q HQ=>?_;have hl:=jV x hc w l0 st node _ h;obtain ⟨⟨H0,bH⟩,hp⟩:∃ p,fZ x.c.ask x.n node st=p:=⟨_,rfl⟩
 rw [hp] at hl;clear h
 cases H0 with
 | bad cN=>
  have HE:=ae (show rh x.c.ask x.n node st=(.bad cN,bH) from WM.bd hp);clear hp
  go_in
  go_wp2_with fail
  (with_reducible apply hl.mono)
  rintro e w2 ⟨S',hS,d2,rfl,h2⟩
  go_wp2_with fail
  exact ⟨rfl,HQ.o _ _ (by rw [HE.o];exact ⟨S',hS,d2,rfl,h2⟩)⟩
 | ok d=>
  have hI:=sX hp;have S:=ae hI;obtain ⟨T,hT⟩:=Nm (lE x.c.ask d 0 bH)
  have HE:=ae (show rh x.c.ask x.n node st=T from (WM.aW hp).trans hT);clear hp
  go_in
  go_wp2_with fail
  (with_reducible apply hl.mono)
  rintro e w2 ⟨S',v,hS,d2,rfl,h2⟩;obtain ⟨l,rfl,h3⟩:=ag.pK h2;have h4:ag w2 (aG x S' bH*(al S'*(aP l d*(bf j node*F)))):=h3.u00;have H4:=ae h4;have HT:=ae hT;clear h2 h3 hl cn hI hT h4
  go_wp2_with fail
  go_loopw [9] (fun u9 wr=>QB x l d l0 (bf j node*F) w T u9 wr) (fun u9 _=>256-(intOf u9).toNat)
  case atStart=>exact ⟨0,bH,S',Nat.zero_le _,rfl,HT.o,hS,d2,H4.o⟩
  case round=>
   obtain ⟨k,c0,Sk,hk,rfl,s0,r0,dk,i0⟩:=hrel;have k0:=ae s0;have e0:=ae r0;clear H4 HT s0 r0;have d0:=i0.t00 (aP l d*(aG x Sk c0*(al Sk*(bf j node*F))))
   by_cases f0:k<256
   .have L0:(k:Int)<256:=Om0
    have j0:=nT wr l d _ d0 k f0;unfold MP at j0
    by_cases h0:d.aN k=0
    .have q:=ae ((LX S.o.fit f0 h0 c0).symm.trans k0.o)
     rw [h0] at j0;clear h0 d0
     go_wp2_with fail
     (with_reducible apply j0.mono)
     rintro e w3 ⟨rfl,rfl⟩
     go_wp2_with fail
     go_roundw
     case rel=>exact ⟨k+1,c0,Sk,Om0,by go_num,q.o,e0.o,dk,i0⟩
     case measure=>simp [intOf];omega
    .have h1:(d.aN k != 0)=E:=by simpa using h0
     obtain ⟨p0,p1⟩:=S.o.aN f0;have hm:=jY x hc wr Sk c0 (d.aN k) B _ p0 Om0 i0;obtain ⟨⟨r2,b0⟩,i⟩:∃ p,cI x.c.ask (d.aN k).toNat B c0=p:=⟨_,rfl⟩
     rw [i] at hm
     cases r2 with
     | bad cN=>
      have q:=ae ((Nx S.o.fit f0 h0 i).symm.trans k0.o);clear h0 i d0 p0 p1;generalize d.aN k=y at *
      go_wp2_with fail
      (with_reducible apply j0.mono)
      rintro e w3 ⟨rfl,rfl⟩
      go_wp2_with fail
      (with_reducible apply hm.mono)
      rintro e w4 ⟨f,M,t,rfl,G⟩
      go_wp2_with fail
      exact ⟨rfl,HQ.o _ _ (by rw [HE.o,<- q.o];exact ⟨f,e0.o.trans M,dk.trans t,rfl,(G.t00 (aP l d*(aG x f b0*(al f*(bf j node*F))))).right⟩)⟩
     | ok u=>
      have q:=ae ((KM S.o.fit f0 h0 i).symm.trans k0.o);clear h0 i d0 p0 p1;generalize d.aN k=y at *
      go_wp2_with fail
      (with_reducible apply j0.mono)
      rintro e w3 ⟨rfl,rfl⟩
      go_wp2_with fail
      (with_reducible apply hm.mono)
      rintro e w4 ⟨f,v4,M,t,rfl,G⟩;obtain ⟨rfl,h7⟩:=ag.aq.1 G
      go_wp2_with fail
      go_roundw
      case rel=>exact ⟨k+1,b0,f,Om0,by go_num,q.o,e0.o.trans M,dk.trans t,h7⟩
      case measure=>simp [intOf];omega
   .obtain rfl:k=256:=Om0
    have HR:=ae ((M4 S.o.fit c0).symm.trans k0.o);have D0:wr.cell? ⟨l,20,O⟩=U (Z Y d.n.rw):=qM S.o.fit (ag.held.1 d0).2;have x0:wr.cell? ⟨l,0,O⟩=U (Z Y (d.id:Int)):=zp (ag.held.1 d0).2
    by_cases g0:d.n.rw=0
    .have hm:=jY x hc wr Sk c0 (d.id:Int) B _ Om0 (by have:=S.o.WW;omega) i0
     rw [Int.toNat_natCast] at hm;obtain ⟨⟨r2,b0⟩,i⟩:∃ p,cI x.c.ask d.id B c0=p:=⟨_,rfl⟩
     rw [i] at hm;have q:=ae (HR.o.symm.trans ((if_pos g0).trans i));rw [g0] at D0;clear g0 i d0 f0
     cases r2 with
     | bad cN=>
      go_wp2_with fail
      (with_reducible apply hm.mono)
      rintro e w4 ⟨f,M,t,rfl,G⟩
      go_wp2_with fail
      exact ⟨rfl,HQ.o _ _ (by rw [HE.o,q.o];exact ⟨f,e0.o.trans M,dk.trans t,rfl,(G.t00 (aP l d*(aG x f b0*(al f*(bf j node*F))))).right⟩)⟩
     | ok u=>
      go_wp2_with fail
      (with_reducible apply hm.mono)
      rintro e w4 ⟨f,v4,M,t,rfl,G⟩;obtain ⟨rfl,h7⟩:=ag.aq.1 G
      go_wp2_with fail
      go_end0
      exact HQ.o _ _ (by rw [HE.o,q.o];exact ⟨f,_,e0.o.trans M,dk.trans t,rfl,ag.aq.2 ⟨rfl,(h7.t00 (aP l d*(aG x f b0*(al f*(bf j node*F))))).right⟩⟩)
    .have h1:(d.n.rw != 0)=E:=by simpa using g0
     have hm:=jY x hc wr Sk c0 d.n.rw B _ S.o.yK (by have:=S.o.AE;omega) i0;obtain ⟨⟨r2,b0⟩,i⟩:∃ p,cI x.c.ask d.n.rw.toNat B c0=p:=⟨_,rfl⟩
     rw [i] at hm
     cases r2 with
     | bad cN=>
      have q:=ae (HR.o.symm.trans ((if_neg g0).trans (WM.bd i)));clear g0 i d0 f0;generalize d.n.rw=y at *
      go_wp2_with fail
      (with_reducible apply hm.mono)
      rintro e w4 ⟨f,M,t,rfl,G⟩
      go_wp2_with fail
      exact ⟨rfl,HQ.o _ _ (by rw [HE.o,q.o];exact ⟨f,e0.o.trans M,dk.trans t,rfl,(G.t00 (aP l d*(aG x f b0*(al f*(bf j node*F))))).right⟩)⟩
     | ok u=>
      have q:=ae (HR.o.symm.trans ((if_neg g0).trans (WM.aW i)));clear g0 i d0 f0;generalize d.n.rw=y at *
      go_wp2_with fail
      (with_reducible apply hm.mono)
      rintro e w4 ⟨f,v4,M,t,rfl,G⟩;obtain ⟨rfl,h7⟩:=ag.aq.1 G;have K0:w4.cell? ⟨l,0,O⟩=U (Z Y (d.id:Int)):=zp (ag.held.1 (h7.t00 (aP l d*(aG x f b0*(al f*(bf j node*F)))))).2;have m0:=jY x hc w4 f b0 (d.id:Int) B _ Om0 (by have:=S.o.WW;omega) h7;rw [Int.toNat_natCast] at m0;obtain ⟨⟨r3,u0⟩,o0⟩:∃ p,cI x.c.ask d.id B b0=p:=⟨_,rfl⟩
      rw [o0] at m0;have q0:=ae (q.o.trans o0);clear o0 hm x0 G
      cases r3 with
      | bad cN=>
       go_wp2_with fail
       (with_reducible apply m0.mono)
       rintro e w5 ⟨S3,n0,d5,rfl,h8⟩
       go_wp2_with fail
       exact ⟨rfl,HQ.o _ _ (by rw [HE.o,q0.o];exact ⟨S3,(e0.o.trans M).trans n0,(dk.trans t).trans d5,rfl,(h8.t00 (aP l d*(aG x S3 u0*(al S3*(bf j node*F))))).right⟩)⟩
      | ok u3=>
       go_wp2_with fail
       (with_reducible apply m0.mono)
       rintro e w5 ⟨S3,v5,n0,d5,rfl,h8⟩;obtain ⟨rfl,h9⟩:=ag.aq.1 h8
       go_wp2_with fail
       go_end0
       exact HQ.o _ _ (by rw [HE.o,q0.o];exact ⟨S3,_,(e0.o.trans M).trans n0,(dk.trans t).trans d5,rfl,ag.aq.2 ⟨rfl,(h9.t00 (aP l d*(aG x S3 u0*(al S3*(bf j node*F))))).right⟩⟩)
end
end Go.Proofs.Fs

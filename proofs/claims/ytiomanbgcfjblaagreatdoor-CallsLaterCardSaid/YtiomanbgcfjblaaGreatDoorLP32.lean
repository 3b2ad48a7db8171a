/- Steps. -/
import Derived.Test.YtiomanbgcfjblaaGreatDoorLP31
import Derived.Test.YtiomanbgcfjblaaGreatDoorLP4
import Derived.Test.YtiomanbgcfjblaaGreatDoorLP14
import Derived.Test.YtiomanbgcfjblaaGreatDoorLP6
set_option linter.all false
set_option maxRecDepth 99999
set_option maxHeartbeats 0
open Go.SL
open Go.Value renaming int->Z,slice->I,pointer->X,tuple->G,bool->B
open Go.IntKind renaming i64->Y
open Go.Obj renaming cells->V
open Go.Ending renaming returned->K
open Go renaming World->M,Value->L
open Go.Proofs.Tryz renaming prog->N
open Option renaming some->U,none->O
open Bool renaming true->H,false->E
open Go.Proofs.Tryz
open Go.Value renaming int->B3,cells->D6,oneCell'->K8
open List renaming replicate->D9,length_cons->D7,size_toArray->E5,length_nil->E4,push_toArray->H8,append_toArray->H6,nil_append->J7,cons_append->J5,length_map->J4,getElem?_cons_succ->J3,getD->J2,set_cons_succ->K7,getElem?_append_left->K6,getElem?_map->K5,setIfInBounds_toArray->K4,set_cons_zero->K3,getElem?_append_right->L8,length_append->L6,map_cons->L4,getElem?_eq_getElem->L3,getElem?_eq_none->M2,drop_succ_cons->N2,take_of_length_le->O2
open Nat renaming reduceAdd->E3,reduceSub->E2,not_lt_zero->K9,add_comm->K2
open Array renaming replicate_succ->G3,replicate_zero->H9
open Go.World renaming size_alloc->L5
namespace Go.SL
open RowKit
inductive Rs (α:Type) where
 | ok (a:α)
 | bad (c:Int)
structure iM (σ:Type) where
 err:Int
 W:List (Int × List UInt8)
 D:List (Int × List UInt8)
 s:σ
structure fB (σ:Type) where
 b:iM σ
 bits:Option (List UInt8)
 dt:Bool
abbrev dO (σ:Type):=σ->Int->(Int × List UInt8) × σ
abbrev WM (σ α:Type):=fB σ->Rs α × fB σ
def WM.bind {σ α β:Type} (m:WM σ α) (k:α->WM σ β):WM σ β:=fun st=>match m st with|(.ok a,st')=>k a st'|(.bad c,st')=>(.bad c,st')
def WM.pure {σ α:Type} (a:α):WM σ α:=fun st=>(.ok a,st)
section
variable {σ α β:Type} {m:WM σ α} {k:α->WM σ β} {st st':fB σ}
def WM.bp {a:α} (h:m st=(.ok a,st')):WM.bind m k st=k a st':=by unfold WM.bind;rw [h]
def WM.bN {c:Int} (h:m st=(.bad c,st')):WM.bind m k st=(.bad c,st'):=by unfold WM.bind;rw [h]
end
def sZ {σ:Type} (ask:dO σ) (b:iM σ) (id:Int):(Int × List UInt8) × iM σ:=
 if (ask b.s id).1.1=0 then ((0,(ask b.s id).1.2),{ b with D:=SL.dM b.D id (ask b.s id).1.2,s:=(ask b.s id).2 })
 else (((ask b.s id).1.1,(ask b.s id).1.2),{ b with err:=(ask b.s id).1.1,s:=(ask b.s id).2 })
def gh {σ:Type} (ask:dO σ) (b:iM σ) (id:Int):(Int × List UInt8) × iM σ:=
 if b.err≠0 then ((b.err,[]),b) else
 match aA b.W id with
 | some l=>((0,l),b)
 | none=>match aA b.D id with
  | some l=>((0,l),b)
  | none=>sZ ask b id
def cZ {σ:Type} (ask:dO σ) (id:Int):WM σ (List UInt8):=fun st=>
 if (gh ask st.b id).1.1≠0 then (.bad (gh ask st.b id).1.1,{ st with b:=(gh ask st.b id).2 })
 else if (gh ask st.b id).1.2.length≠480 then (.bad 4,{ st with b:=(gh ask st.b id).2 })
 else (.ok (gh ask st.b id).1.2,{ st with b:=(gh ask st.b id).2 })
end Go.SL
namespace Go.Proofs.Fs
open RowKit SL Proofs.Ba
structure Cx (σ:Type) where
 T:TypeId
 rv:Value
 fr:FuncId
 rr:Value
 Mq:World->Prop
 ask:dO σ
 RI:σ->ai
def Cx.rd {σ:Type} (c:Cx σ):L:=.iface c.T c.rv
structure Cx.Ok {σ:Type} (c:Cx σ):Prop where
 hM:∀ (s:σ) (F:ai) (w:World),ah w (c.RI s*F)->c.Mq w
 hm:∀ (k:Nat) (w:World),c.Mq w->(method (k+1) c.T c.rv "Read").run prog w = .ok (c.fr,c.rr) w
 lV:∀ (args:Array Value) (w:World),(callFunc c.fr args).run prog w = .ok (.enter c.fr args) w
 hR:∀ (s:σ) (id:Int) (F:ai) (w:World),ah w (c.RI s*F)->Calls prog c.fr #[c.rr,.int .i64 id] w (oQ (c.ask s id).1 (c.RI (c.ask s id).2) F w)
 hs:∀ (s:σ) (id:Int),(c.ask s id).1.1=0->small (c.ask s id).1.2
def eu {σ:Type} (c:Cx σ) (S:Hp) (b:Nat) (x:iM σ):ai:=aR 211 5 S b c.rd x.err x.W x.D*c.RI x.s
def Ul {σ:Type} (c:Cx σ) (b:Nat) (S:Hp) (p:(Int × List UInt8) × iM σ) (F:ai) (w:M) (e:Ending) (w':M):Prop:=
 ∃ d f,Ext S d/\e = K (G #[f,Z Y p.1.1])/\ah w' (nL 5 p.1 f*(eu c d b p.2*(al d*F)))/\ak w w'
def JR {σ:Type} {c:Cx σ} (e:c.Ok) (w:M) (S:Hp) (b:Nat) (x:iM σ) (id:Int) (F:ai) (h:ah w (eu c S b x*(al S*F))) :
  Calls N 254 #[X (U ⟨b,0,O⟩),Z Y id] w (Ul c b S (gh c.ask x id) F w):=by
 obtain ⟨err,W,D,s⟩:=x;have A:ah w (aR 211 5 S b c.rd err W D*(al S*(c.RI s*F))):=h.to (by unfold eu;ac_rfl)
 by_cases he:err=0
 .subst he
  cases t:aA W id with
  | some l=>
   have r:gh c.ask ⟨0,W,D,s⟩ id=((0,l),⟨0,W,D,s⟩):=by unfold gh;simp only [ne_eq,not_true_eq_false,if_false,t]
   rw [r];apply (TU w S b c.rd W D id l _ A t).mono;rintro b0 w' ⟨f,i,d,rfl,j,q⟩;exact ⟨f,i,d,rfl,j.to (by unfold eu;ac_rfl),q⟩
  | none=>
   cases hd:aA D id with
   | some l=>
    have r:gh c.ask ⟨0,W,D,s⟩ id=((0,l),⟨0,W,D,s⟩):=by unfold gh;simp only [ne_eq,not_true_eq_false,if_false,t,hd]
    rw [r];apply (UW w S b c.rd W D id l _ A t hd).mono;rintro b0 w' ⟨f,i,d,rfl,j,q⟩;exact ⟨f,i,d,rfl,j.to (by unfold eu;ac_rfl),q⟩
   | none=>
    have r:gh c.ask ⟨0,W,D,s⟩ id=sZ c.ask ⟨0,W,D,s⟩ id:=by unfold gh;simp only [ne_eq,not_true_eq_false,if_false,t,hd]
    have hR:=fun F w=>e.hR s id F w;have hs:=e.hs s id;rw [r];unfold sZ;generalize c.ask s id=p at *;obtain ⟨⟨c1,l⟩,s'⟩:=p
    by_cases d:c1=0
    .subst d
     rw [if_pos rfl];apply (AZ w S b c.T c.rv c.fr W D id l (c.RI s) (c.RI s') F c.rr c.Mq (e.hM s) (e.hM s') e.hm e.lV hR A t hd (hs rfl)).mono;rintro b0 w' ⟨f,i,d,rfl,j,q⟩;exact ⟨f,i,d,rfl,j.to (by unfold eu Cx.rd;ac_rfl),q⟩
    .rw [if_neg d]
     apply (zZ w S b c.T c.rv c.fr W D id c1 l (c.RI s) (c.RI s') F c.rr c.Mq (e.hM s) (e.hM s') e.hm e.lV hR d A t hd).mono;rintro b0 w' ⟨f,i,d,rfl,j,q⟩;exact ⟨f,i,d,rfl,j.to (by unfold eu Cx.rd;ac_rfl),q⟩
 .have r:gh c.ask ⟨err,W,D,s⟩ id=((err,[]),⟨err,W,D,s⟩):=by unfold gh;rw [if_pos he]
  rw [r];apply (NP w S b c.rd err W D id _ A he).mono;rintro b0 w' ⟨f,i,d,rfl,j,q⟩;exact ⟨f,i,d,rfl,j.to (by unfold eu;ac_rfl),q⟩
def Kf (c:Int):List PanicEntry:=[{ v:=.iface 236 (Z Y c),recovered:=E }]
def kF (w:M):Calls N 218 #[Z Y 0] w fun e w'=>e = K (G #[])/\w=w':=by
 go_in
 go_wp2
 go_end0
 exact ⟨rfl,rfl⟩
def fJ (w:M) (c:Int) (d:c≠0):Calls N 218 #[Z Y c] w fun e w'=>e = .panicked (Kf c)/\w=w':=by
 go_in
 go_wp2
 exact ⟨rfl,rfl,rfl⟩
def iT (w:M):Calls N 141 #[B H] w fun e w'=>e = K (G #[])/\w=w':=by
 go_in
 go_wp2
 go_end0
 exact ⟨rfl,rfl⟩
def jv (w:M):Calls N 141 #[B E] w fun e w'=>e = .panicked (Kf 1)/\w=w':=by
 have d:=fJ w 1 De0
 go_in
 go_wp2_with fail
 (apply d.mono)
 rintro e f ⟨rfl,rfl⟩
 go_wp2
 exact ⟨rfl,rfl,rfl⟩
def fG (o:Option (List UInt8)) (v:L):ai:=fun h=>(o=O/\v = I O 0 0/\h=fun _=>O)\/∃ l,o=U l/\l.length=480/\bs 5 v l h
structure Wk (σ:Type) where
 c:Cx σ
 n:Nat
 k:Nat
 b:Nat
def Wk.cells {σ:Type} (x:Wk σ) (v:L) (t:Bool):Array L:=#[X (U ⟨x.b,0,O⟩),Z Y (x.n:Int),v,B t]
def cD {σ:Type} (x:Wk σ) (v:L) (S:Hp) (st:fB σ):ai:=pt x.k (V (x.cells v st.dt) 162 (0,0))*eu x.c S x.b st.b
def aN {σ:Type} (x:Wk σ) (S:Hp) (st:fB σ):ai:=ex fun v=>cD x v S st*fG st.bits v
def WQ {σ α:Type} (x:Wk σ) (R:α->L->ai) (S:Hp) (F:ai) (w:M):Rs α × fB σ->Ending->M->Prop
 | (.ok a,st'),e,w'=>∃ d v,Ext S d/\ak w w'/\e = K v/\ah w' (R a v*(aN x d st'*(al d*F)))
 | (.bad c,st'),e,w'=>∃ d,Ext S d/\ak w w'/\e = .panicked (Kf c)/\ah w' (aN x d st'*(al d*F))
def VB {σ α:Type} (x:Wk σ) (f:L) (R:α->L->ai) (S:Hp) (F:ai) (w:M):Rs α × fB σ->Ending->M->Prop
 | (.ok a,st'),e,w'=>∃ d v,Ext S d/\ak w w'/\e = K v/\ah w' (R a v*(cD x f d st'*(al d*F)))
 | (.bad c,st'),e,w'=>∃ d,Ext S d/\ak w w'/\e = .panicked (Kf c)/\ah w' (cD x f d st'*(al d*F))
def ni (a:Unit) (v:L):ai:=fact (v = G #[])
def iv (l:List UInt8) (v:L):ai:=bs 5 v l
def yL {σ:Type} (x:Wk σ) (hc:x.c.Ok) (w:M) (bv:L) (S:Hp) (st:fB σ) (id:Int) (F:ai) (h:ah w (cD x bv S st*(al S*F))) :
  Calls N 182 #[X (U ⟨x.k,0,O⟩),Z Y id] w (VB x bv iv S F w (cZ x.c.ask id st)):=by
 have h0:ah w (eu x.c S x.b st.b*(al S*(pt x.k (V (x.cells bv st.dt) 162 (0,0))*F))):=h.to (by unfold cD;ac_rfl);have c0:w.cell? ⟨x.k,0,O⟩=U (X (U ⟨x.b,0,O⟩)):=h0.au.cell 0;have hr:=JR hc w S x.b st.b id _ h0;have hE:∀ p,gh x.c.ask st.b id=p->cZ x.c.ask id st=if p.1.1≠0 then (.bad p.1.1,{ st with b:=p.2 }) else if p.1.2.length≠480 then (.bad 4,{ st with b:=p.2 }) else (.ok p.1.2,{ st with b:=p.2 }):=fun p A=>by subst A;rfl
 obtain ⟨⟨⟨c1,l⟩,b'⟩,A⟩:∃ p,gh x.c.ask st.b id=p:=⟨_,rfl⟩
 have b0:=hE _ A;rw [A] at hr;rw [b0]
 by_cases h1:c1=0
 .subst h1
  rw [if_neg Si0]
  by_cases t:l.length=480
  .rw [if_neg (by simp [t])]
   have d0:((480:Int) != 480)=E:=De0
   have Hl:=ae t
   go_in
   go_wp2_with fail
   (apply hr.mono)
   rintro e f ⟨i,dv,r,rfl,q,j⟩;have d:=q.n9;obtain ⟨va,vc,rfl⟩:=az d;rw [Hl.o] at d ⊢
   go_wp2_with fail
   (apply (kF f).mono)
   rintro e w2 ⟨rfl,rfl⟩
   go_wp2_with fail
   go_ret
   exact ⟨i,_,r,j,rfl,by unfold cD eu iv;exact d.to (by unfold eu;ac_rfl)⟩
  .rw [if_pos t]
   have d0:((l.length:Int) != 480)=H:=by rw [bne_iff_ne];omega
   have Hl:=ae t
   go_in
   go_wp2_with fail
   (apply hr.mono)
   rintro e f ⟨i,dv,r,rfl,q,j⟩;have d:=q.n9;obtain ⟨va,vc,rfl⟩:=az d
   go_wp2_with fail
   (apply (kF f).mono)
   rintro e w2 ⟨rfl,rfl⟩
   go_wp2_with fail
   (apply (fJ f 4 De0).mono)
   rintro e w2 ⟨rfl,rfl⟩
   go_wp2_with fail
   exact ⟨rfl,i,r,j,rfl,by unfold cD;exact d.right.u00⟩
 .rw [if_pos h1]
  have H1:=ae h1
  go_in
  go_wp2_with fail
  (apply hr.mono)
  rintro e f ⟨i,dv,r,rfl,q,j⟩;obtain ⟨rfl,d⟩:=q.xn H1.o
  go_wp2_with fail
  (apply (fJ f c1 H1.o).mono)
  rintro e w2 ⟨rfl,rfl⟩
  go_wp2_with fail
  exact ⟨rfl,i,r,j,rfl,by unfold cD;exact d.u00⟩
end Go.Proofs.Fs
namespace Go.SL
open RowKit
section
variable {σ:Type}
def kh (err id:Int) (l:List UInt8):Int:=if err≠0 then err else if id<0\/l.length≠480 then 1 else 0
def cM (id:Int) (l:List UInt8):WM σ Unit:=fun st=>
 if kh st.b.err id l=0 then (.ok (),{ st with b:={ st.b with W:=SL.dM st.b.W id l } }) else (.bad (kh st.b.err id l),st)
def mn (ask:dO σ):WM σ (List UInt8):=fun st=>match st.bits with
 | some l=>(.ok l,st)
 | none=>match cZ ask 0 st with
  | (.ok l,st')=>(.ok l,{ st' with bits:=U l })
  | (.bad c,st')=>(.bad c,st')
def Av (id:Nat) (t:Bool) (l:List UInt8):WM σ Unit:=fun st=>(.ok (),{ st with bits:=U (ez l id t),dt:=H })
def fP (ask:dO σ) (id:Nat) (t:Bool):WM σ Unit:=WM.bind (mn ask) (Av id t)
def Uf (l:List UInt8) (st:fB σ):Option Nat->Rs Nat × fB σ
 | some k=>(.ok k,{ st with bits:=U (ez l k H),dt:=H })
 | none=>(.bad 7,st)
def sH (n:Nat) (l:List UInt8):WM σ Nat:=fun st=>Uf l st (fp l n)
def jc (ask:dO σ) (n:Nat):WM σ Nat:=WM.bind (mn ask) (sH n)
def wo (ask:dO σ) (id:Int) (st:fB σ):(cZ ask id st).2.bits=st.bits:=by
 unfold cZ;split
 .rfl
 .split <;> rfl
def j3 {ask:dO σ} {id:Int} {st st':fB σ} {l:List UInt8} (h:cZ ask id st=(.ok l,st')):l.length=480:=by
 unfold cZ at h
 split at h
 .cases h
 .split at h
  .cases h
  .rename_i d;simp only [Prod.mk.injEq,Rs.ok.injEq] at h;rw [<- h.1];exact Decidable.of_not_not d
def Cb (id:Int) (l:List UInt8) (st:fB σ):(cM id l st).2.bits=st.bits:=by
 unfold cM;split <;> rfl
def NK {ask:dO σ} {st st':fB σ} {l:List UInt8} (h:mn ask st=(.ok l,st')) (f:∀ l,st.bits=U l->l.length=480):st'.bits=U l/\l.length=480:=by
 unfold mn at h
 split at h
 .rename_i j d
  obtain ⟨rfl,rfl⟩:=h;exact ⟨d,f _ d⟩
 .split at h
  .rename_i q i e
   obtain ⟨rfl,rfl⟩:=h;exact ⟨rfl,j3 e⟩
  .cases h
end
end Go.SL
namespace Go.Proofs.Fs
open RowKit SL Proofs.Ba
variable {S:Hp}
section
variable {σ α:Type}
def ah.iS {w:M} {x:Wk σ} {st:fB σ} {F:ai} (h:ah w (aN x S st*F)):∃ v,ah w (cD x v S st*(fG st.bits v*F)):=by
 obtain ⟨v,h⟩:=ah.aq.1 h;exact ⟨v,h.to Ac0⟩
def ah.jz {w:M} {x:Wk σ} {st:fB σ} {F:ai} (v:L) (h:ah w (cD x v S st*(fG st.bits v*F))):ah w (aN x S st*F):=
 ah.aq.2 ⟨v,h.to Ac0⟩
def ah.Ib {w:M} {F:ai} (h:ah w F):ah w (fG O (I O 0 0)*F):=
 (h.to (cy _).symm).ib fun k d=>.inl ⟨rfl,rfl,d⟩
def ah.qQ {w:M} {F:ai} {v:L} {l:List UInt8} (e:l.length=480) (h:ah w (bs 5 v l*F)):ah w (fG (U l) v*F):=
 h.ib fun k d=>.inr ⟨l,rfl,e,d⟩
def ah.oS {w:M} {o:Option (List UInt8)} {v:L} {F:ai} (h:ah w (fG o v*F)) :
  (o=O/\v = I O 0 0/\ah w F)\/∃ l,o=U l/\l.length=480/\ah w (bs 5 v l*F):=by
 obtain ⟨k,a,f,e,p,q,d,rfl⟩:=h;rcases p with ⟨rfl,rfl,rfl⟩|⟨l,rfl,j,i⟩
 .refine .inl ⟨rfl,rfl,_,a,?_⟩
  have:join (fun _=>O) e=e:=by funext c;simp [join]
  rw [this];exact q
 .exact .inr ⟨l,rfl,j,_,a,f,e,i,q,d,rfl⟩
def VB.lift {x:Wk σ} {d:L} {R:α->L->ai} {F:ai} {w:M} {st:fB σ}:∀ {p:Rs α × fB σ} {e:Ending} {w':M},
  VB x d R S (fG st.bits d*F) w p e w'->p.2.bits=st.bits->WQ x R S F w p e w'
 | (.ok a,st'),e,w',⟨f,v,j,l,q,h4⟩,i=>by
  refine ⟨f,v,j,l,q,?_⟩;dsimp only at i;rw [<- i] at h4;exact (ah.jz d (h4.u00:ah w' (cD x d f st'*(fG st'.bits d*(R a v*(al f*F)))))).u00
 | (.bad c,st'),e,w',⟨f,j,l,q,h4⟩,i=>by
  refine ⟨f,j,l,q,?_⟩;dsimp only at i;rw [<- i] at h4;exact (ah.jz d (h4.u00:ah w' (cD x d f st'*(fG st'.bits d*(al f*F)))))
def oX (x:Wk σ) (i:x.c.Ok) (w:M) (S:Hp) (st:fB σ) (id:Int) (F:ai) (h:ah w (aN x S st*(al S*F))) :
  Calls N 182 #[X (U ⟨x.k,0,O⟩),Z Y id] w (WQ x iv S F w (cZ x.c.ask id st)):=by
 obtain ⟨v,d⟩:=ah.iS h;refine (yL x i w v S st id (fG st.bits v*F) (d.u00)).mono fun e w' f=>VB.lift f (wo _ _ _)
def PV (err id:Int) (l:List UInt8):ik err id l=kh err id l:=rfl
def vJ (x:Wk σ) (w:M) (i:L) (S:Hp) (st:fB σ) (id:Int) (t:L) (l:List UInt8) (F:ai) (h:ah w (cD x i S st*(al S*F))) (hr:Rd w t l) :
  Calls N 143 #[X (U ⟨x.k,0,O⟩),Z Y id,t] w (VB x i ni S F w (cM id l st)):=by
 have h0:ah w (aR 211 5 S x.b x.c.rd st.b.err st.b.W st.b.D*(al S*(x.c.RI st.b.s*(pt x.k (V (x.cells i st.dt) 162 (0,0))*F)))):=h.to (by unfold cD eu;ac_rfl);have c0:w.cell? ⟨x.k,0,O⟩=U (X (U ⟨x.b,0,O⟩)):=(h.to (by unfold cD;ac_rfl:_=pt x.k (V (x.cells i st.dt) 162 (0,0))*(eu x.c S x.b st.b*(al S*F)))).cell 0;have f:=oZ w S x.b x.c.rd st.b.err st.b.W st.b.D id t l _ h0 hr;unfold iu at f;rw [PV] at f;unfold cM
 by_cases d:kh st.b.err id l=0
 .rw [if_pos d]
  have hW:vF st.b.err id l st.b.W=SL.dM st.b.W id l:=vu (by
   unfold kh at d
   split at d
   .rename_i A;exact absurd d A
   .rename_i A
    split at d
    .cases d
    .rename_i h8
     exact ⟨Decidable.of_not_not A,Om0,Om0⟩)
  rw [d,hW] at f;have Hz:=ae d
  go_in
  go_wp2_with fail
  (apply f.mono)
  rintro e w1 ⟨q,hS,rfl,j,r⟩
  go_wp2_with fail
  (apply (kF w1).mono)
  rintro e w2 ⟨rfl,rfl⟩
  go_wp2_with fail
  go_end0
  exact ⟨q,_,hS,r,rfl,ah.ao.2 ⟨rfl,by unfold cD eu;exact j.u00⟩⟩
 .rw [if_neg d]
  have hW:vF st.b.err id l st.b.W=st.b.W:=oB (by
   rintro ⟨h1,j,h3⟩;apply d;unfold kh;rw [if_neg (by simp [h1]),if_neg Om0])
  rw [hW] at f;have Hz:=ae d;generalize kh st.b.err id l=c at *
  go_in
  go_wp2_with fail
  (apply f.mono)
  rintro e w1 ⟨q,hS,rfl,j,r⟩
  go_wp2_with fail
  (apply (fJ w1 c Hz.o).mono)
  rintro e w2 ⟨rfl,rfl⟩
  go_wp2_with fail
  exact ⟨rfl,q,hS,r,rfl,by unfold cD eu;exact j.u00⟩
def p9 (x:Wk σ) (w:M) (S:Hp) (st:fB σ) (id:Int) (d:L) (l:List UInt8) (F:ai) (h:ah w (aN x S st*(al S*F))) (j:Rd w d l) :
  Calls N 143 #[X (U ⟨x.k,0,O⟩),Z Y id,d] w (WQ x ni S F w (cM id l st)):=by
 obtain ⟨v,f⟩:=ah.iS h;refine (vJ x w v S st id d l (fG st.bits v*F) (f.u00) j).mono fun e w' i=>VB.lift i (Cb _ _ _)
def VZ (x:Wk σ) (S:Hp) (F:ai) (w:M):Rs (List UInt8) × fB σ->Ending->M->Prop
 | (.ok l,st'),e,w'=>∃ d v,Ext S d/\ak w w'/\e = K v/\l.length=480/\ah w' (cD x v d st'*(bs 5 v l*(al d*F)))
 | (.bad c,st'),e,w'=>∃ d,Ext S d/\ak w w'/\e = .panicked (Kf c)/\ah w' (aN x d st'*(al d*F))
def wS (x:Wk σ) (hc:x.c.Ok) (w:M) (S:Hp) (st:fB σ) (F:ai) (h:ah w (aN x S st*(al S*F))) :
  Calls N 108 #[X (U ⟨x.k,0,O⟩)] w (VZ x S F w (mn x.c.ask st)):=by
 obtain ⟨v,h1⟩:=ah.iS h;obtain ⟨b,o,dt⟩:=st;have c2:w.cell? ⟨x.k,2,O⟩=U v:=(h1.to (by unfold cD;ac_rfl:_=pt x.k (V (x.cells v dt) 162 (0,0))*(eu x.c S x.b b*(fG o v*(al S*F))))).cell 2;rcases ah.oS (h1.t00 (fG o v*(cD x v S ⟨b,o,dt⟩*(al S*F)))) with ⟨rfl,rfl,d⟩|⟨l,rfl,j,d⟩
 .have hr:=yL x hc w (I O 0 0) S ⟨b,O,dt⟩ 0 F d
  have hq:=fun w=>Lib.run_eql_slice_nil (P:=N) w 23 5 O 0 0 0 0 underlying23;have j:=fun l st'=>j3 (ask:=x.c.ask) (id:=0) (st:=⟨b,O,dt⟩) (st':=st') (l:=l);have A:mn x.c.ask ⟨b,O,dt⟩=match cZ x.c.ask 0 ⟨b,O,dt⟩ with|(.ok l,st')=>(.ok l,{ st' with bits:=U l })|(.bad c,st')=>(.bad c,st'):=rfl
  have hb:=wo x.c.ask 0 ⟨b,O,dt⟩;rw [A];generalize cZ x.c.ask 0 ⟨b,O,dt⟩=p at *;obtain ⟨d0,st'⟩:=p
  cases d0 with
  | ok l=>
   have c0:=j l st' rfl;have i:=ae c0
   go_in
   go_wp2_with fail
   (apply hr.mono)
   rintro b0 w1 ⟨f,v,hS,t,rfl,e⟩;unfold iv at e;obtain ⟨q,r,rfl⟩:=az e;rw [i.o] at e ⊢;have h4:ah w1 (pt x.k (V (x.cells (I O 0 0) st'.dt) 162 (0,0))*(bs 5 (I q 480 r) l*(eu x.c f x.b st'.b*(al f*F)))):=e.to (by unfold cD;ac_rfl);have f2:=h4.frozen 2;have h5:=h4.setCell 2 (I q 480 r);have g2:=h4.cell 2
   go_wp2_with fail
   go_ret
   exact ⟨f,_,hS,t.setCell _ _,rfl,i.o,by unfold cD;exact h5.to (by unfold Wk.cells;ac_rfl)⟩
  | bad c=>
   go_in
   go_wp2_with fail
   (apply hr.mono)
   rintro b0 w1 ⟨f,hS,t,rfl,e⟩
   go_wp2_with fail
   refine ⟨rfl,f,hS,t,rfl,ah.jz (I O 0 0) ?_⟩;rw [hb];exact (ah.Ib e).u00
 .have A:mn x.c.ask ⟨b,U l,dt⟩=(.ok l,⟨b,U l,dt⟩):=rfl
  rw [A];obtain ⟨q,r,rfl⟩:=az d
  obtain ⟨g,rfl⟩:∃ g,q=U g:=by
   rcases d.cH with ⟨_,h0,_⟩|⟨g,e0,f0,he,_⟩
   .omega
   .cases he;exact ⟨_,rfl⟩
  have i:=ae j;rw [j] at d c2;have hq:=fun w=>Lib.run_eql_slice_nil (P:=N) w 23 5 (U g) 480 r 0 0 underlying23
  go_in
  go_wp2_with fail
  go_ret
  exact ⟨S,_,Ext.refl S,ak.refl w,rfl,i.o,d.u00⟩
def DC (x:Wk σ) (hc:x.c.Ok) (w:M) (S:Hp) (st:fB σ) (id:Nat) (t:Bool) (F:ai) (c0:id<3840) (h:ah w (aN x S st*(al S*F))) :
  Calls N 152 #[X (U ⟨x.k,0,O⟩),Z Y (id:Int),B t] w (WQ x ni S F w (fP x.c.ask id t st)):=by
 have q:=wS x hc w S st F h;obtain ⟨⟨e0,st'⟩,A⟩:∃ p,mn x.c.ask st=p:=⟨_,rfl⟩
 rw [A] at q
 cases e0 with
 | ok l=>
  have i:fP x.c.ask id t st=Av id t l st':=WM.bp A;rw [i]
  go_in
  go_wp2_with fail
  (apply q.mono)
  rintro b0 w1 ⟨d,v,j,f,rfl,r,e⟩;have hs:=uV w1 v l (cD x v d st'*(al d*F)) (e.u00) r id c0 t;have d0:=az (e.aj);obtain ⟨va,vc,rfl⟩:=d0;have Hl:=ae r;rw [r] at hs e ⊢
  go_wp2_with fail
  (apply hs.mono)
  rintro b0 w2 ⟨rfl,h3,d2⟩;have h4:ah w2 (pt x.k (V (x.cells (I va 480 vc) st'.dt) 162 (0,0))*(eu x.c d x.b st'.b*(bs 5 (I va 480 vc) (ez l id t)*(al d*F)))):=h3.to (by unfold cD;ac_rfl);have f3:=h4.frozen 3;have g3:=h4.cell 3;have h5:=h4.setCell 3 (B H)
  go_wp2_with fail
  go_end0
  refine ⟨d,_,j,(f.trans d2).setCell _ _,rfl,ah.ao.2 ⟨rfl,ah.jz (I va 480 vc) ?_⟩⟩;have h6:=ah.qQ (l:=ez l id t) (by rw [fy];exact Hl.o) h5.au;exact h6.to (by unfold cD Wk.cells;simp only [K4,K7,K3];ac_rfl)
 | bad c=>
  have i:fP x.c.ask id t st=(.bad c,st'):=WM.bN A;rw [i]
  go_in
  go_wp2_with fail
  (apply q.mono)
  rintro b0 w1 ⟨d,j,f,rfl,e⟩
  go_wp2_with fail
  exact ⟨rfl,d,j,f,rfl,e⟩
def bitsLen {w:M} {x:Wk σ} {st:fB σ} {F:ai} (h:ah w (aN x S st*F)):∀ l,st.bits=U l->l.length=480:=by
 intro l e;obtain ⟨v,f⟩:=ah.iS h;rcases ah.oS (f.t00 (fG st.bits v*(cD x v S st*F))) with ⟨d,_⟩|⟨j,d,i,_⟩
 .rw [e] at d;cases d
 .rw [e] at d;cases d;exact i
def Xa (v:L) (l:List UInt8) (F:ai) (w:M):Option Nat->Ending->M->Prop
 | none,e,w'=>e = K (G #[Z Y 0,B E])/\ah w' (bs 5 v l*F)/\ak w w'
 | some n,e,w'=>e = K (G #[Z Y (n:Int),B H])/\ah w' (bs 5 v (ez l n H)*F)/\ak w w'
def Kh (w:M) (v:L) (l:List UInt8) (F:ai) (h:ah w (bs 5 v l*F)) (q:l.length=480) (e:Nat) (j:e<=3840) :
  Calls N 258 #[v,Z Y (e:Int)] w (Xa v l F w (fp l e)):=by
 refine Og w v l F h q e j _ (fun d w' f i=>?_) (fun n d w' f i=>?_)
 .rw [d];exact ⟨rfl,f,i⟩
 .rw [d];exact ⟨rfl,f,i⟩
def Jl (a:Nat) (v:L):ai:=fact (v = Z Y (a:Int))
def oW (x:Wk σ) (hc:x.c.Ok) (hn:x.n<=3840) (w:M) (S:Hp) (st:fB σ) (F:ai) (h:ah w (aN x S st*(al S*F))) :
  Calls N 188 #[X (U ⟨x.k,0,O⟩)] w (WQ x Jl S F w (jc x.c.ask x.n st)):=by
 have hb:=fun (w:M) h=>wS x hc w S st F h;obtain ⟨v0,h1⟩:=ah.iS h;have c1:=(h1.to (by unfold cD;ac_rfl:_=pt x.k (V (x.cells v0 st.dt) 162 (0,0))*(eu x.c S x.b st.b*(fG st.bits v0*(al S*F))))).cell 1;obtain ⟨⟨c0,st'⟩,hp⟩:∃ p,mn x.c.ask st=p:=⟨_,rfl⟩
 rw [hp] at hb
 cases c0 with
 | ok l=>
  have hE:jc x.c.ask x.n st=sH x.n l st':=WM.bp hp;have b0:=NK hp (bitsLen h);rw [hE];unfold sH;have ht:=fun w v F h i=>Kh w v l F h i x.n hn;obtain ⟨o,ho⟩:=Nm (fp l x.n)
  rw [ho];rw [ho] at ht
  cases o with
  | some n=>
   go_in
   go_wp2_with fail
   go_region_held3 (fun w'=>w'.cell? ⟨x.k,1,O⟩=U (Z Y (x.n:Int)))
    (first|exact c1|exact k1|exact k2|go_keep)
    (first
     | (go_at_call 108;apply (hb w.drew h.drew).mono;rintro e j ⟨d,v,t,q,rfl,i,f⟩;have k1:j.cell? ⟨x.k,1,O⟩=U (Z Y (x.n:Int)):=(f.to (by unfold cD;ac_rfl:_=pt x.k (V (x.cells v st'.dt) 162 (0,0))*(eu x.c d x.b st'.b*(bs 5 v l*(al d*F))))).cell 1)
     | (go_at_call 258;apply (ht j v (cD x v d st'*(al d*F)) (f.u00) i).mono;rintro e A ⟨rfl,r,d2⟩;have k2:A.cell? ⟨x.k,1,O⟩=U (Z Y (x.n:Int)):=(r.to (by unfold cD;ac_rfl:_=pt x.k (V (x.cells v st'.dt) 162 (0,0))*(eu x.c d x.b st'.b*(bs 5 v (ez l n H)*(al d*F))))).cell 1))
   have h4:ah A (pt x.k (V (x.cells v st'.dt) 162 (0,0))*(eu x.c d x.b st'.b*(bs 5 v (ez l n H)*(al d*F)))):=r.to (by unfold cD;ac_rfl);have f3:=h4.frozen 3;have g3:=h4.cell 3;have h5:=h4.setCell 3 (B H);have Hl:=ae i
   go_wp2_with fail
   go_ret
   refine ⟨d,_,t,(((ak.refl w).drew.trans q).trans d2).setCell _ _,rfl,ah.ao.2 ⟨rfl,ah.jz v ?_⟩⟩;have h6:=ah.qQ (l:=ez l n H) (by rw [fy];exact Hl.o) h5.au;exact h6.to (by unfold cD Wk.cells;simp only [K4,K7,K3];ac_rfl)
  | none=>
   go_in
   go_wp2_with fail
   go_region_held3 (fun w'=>w'.cell? ⟨x.k,1,O⟩=U (Z Y (x.n:Int)))
    (first|exact c1|exact k1|exact k2|go_keep)
    (first
     | (go_at_call 108;apply (hb w.drew h.drew).mono;rintro e j ⟨d,v,t,q,rfl,i,f⟩;have k1:j.cell? ⟨x.k,1,O⟩=U (Z Y (x.n:Int)):=(f.to (by unfold cD;ac_rfl:_=pt x.k (V (x.cells v st'.dt) 162 (0,0))*(eu x.c d x.b st'.b*(bs 5 v l*(al d*F))))).cell 1)
     | (go_at_call 258;apply (ht j v (cD x v d st'*(al d*F)) (f.u00) i).mono;rintro e A ⟨rfl,r,d2⟩;have k2:A.cell? ⟨x.k,1,O⟩=U (Z Y (x.n:Int)):=(r.to (by unfold cD;ac_rfl:_=pt x.k (V (x.cells v st'.dt) 162 (0,0))*(eu x.c d x.b st'.b*(bs 5 v (l)*(al d*F))))).cell 1))
   have Hl:=ae i
   go_wp2_with fail
   (apply (fJ A 7 De0).mono)
   rintro e w3 ⟨rfl,rfl⟩
   go_wp2_with fail
   refine ⟨rfl,d,t,((ak.refl w).drew.trans q).trans d2,rfl,ah.jz v ?_⟩;obtain ⟨h8,_⟩:=b0;rw [h8];exact (ah.qQ Hl.o r).u00
 | bad c=>
  have hE:jc x.c.ask x.n st=(.bad c,st'):=WM.bN hp;rw [hE]
  go_in
  go_wp2_with fail
  refine wp_region_held_drew (S:=(fun w'=>w'.cell? ⟨x.k,1,O⟩=U (Z Y (x.n:Int)))) Kr0 ?_ (fun e0=>?_)
  ·(first|exact c1|go_keep)
  refine tk 0 ?_;refine tk 2 ?_;refine tk 3 ?_;refine tk 4 ?_;refine tk 5 ?_;refine tr 1 fun d0 hK=>?_
  go_simp
  go_wp2_with (go_at_call 108;apply (hb w.drew h.drew).mono;rintro e j ⟨d,t,q,rfl,f⟩)
  exact ⟨rfl,d,t,(ak.refl w).drew.trans q,rfl,f⟩
end
end Go.Proofs.Fs
namespace Go.SL
open RowKit
structure Hd where
 id:Nat
 n:Nd
 row:List Int
def Hd.l (h:Hd):List Int:=(h.id:Int) :: (h.n.l++h.row)
def Hd.fit (h:Hd):Prop:=h.n.dr.length=16/\h.row.length=240
def Hd.bA (h:Hd) (i:Nat):Int:=if i<16 then h.n.dr.getD i 0 else h.row.getD (i-16) 0
def Hd.put (h:Hd) (i:Nat) (b:Int):Hd:=if i<16 then { h with n:={ h.n with dr:=h.n.dr.set i b } } else { h with row:=h.row.set (i-16) b }
def Hd.Ir {h:Hd} (d:h.fit) (i:Nat) (b:Int):(h.put i b).fit:=by
 unfold Hd.put;split
 .exact ⟨by simpa using d.1,d.2⟩
 .exact ⟨d.1,by simpa using d.2⟩
def Hd.vr {h:Hd} (d:h.fit):h.l.length=261:=by
 simp [Hd.l,Nd.cells d.1,d.2]
def Hd.XV {h:Hd} (f:h.fit) {i:Nat} (d:i<16):h.l.getD (4+i) 0=h.bA i:=by
 have e:h.l=(h.id:Int) :: h.n.kd :: h.n.lk :: h.n.sz :: (h.n.dr++([h.n.rw]++h.row)):=by simp [Hd.l,Nd.l]
 unfold Hd.bA;rw [if_pos d,e,K2 4 i];simp only [J2,J3];rw [K6 (by rw [f.1];exact d)]
def Hd.Ws {h:Hd} (d:h.fit) {i:Nat} (f:16<=i):h.l.getD (21+(i-16)) 0=h.bA i:=by
 have e:h.l=((h.id:Int) :: h.n.l)++h.row:=rfl;unfold Hd.bA;rw [if_neg Om0,e,J2,J2,L8 (by simp [Nd.cells d.1])];simp [Nd.cells d.1]
def Hd.Xe {h:Hd} (d:h.fit) {i:Nat} (b:Int):(h.put i b).l=h.l.set (if i<16 then 4+i else 21+(i-16)) b:=by
 unfold Hd.put
 split
 .rename_i f
  have e:h.l=(h.id:Int) :: h.n.kd :: h.n.lk :: h.n.sz :: (h.n.dr++([h.n.rw]++h.row)):=by simp [Hd.l,Nd.l]
  rw [e,K2 4 i];simp only [K7];rw [List.set_append,if_pos (by rw [d.1];exact f)];simp [Hd.l,Nd.l]
 .rename_i f
  have e:h.l=((h.id:Int) :: h.n.l)++h.row:=rfl;have j:((h.id:Int) :: h.n.l).length=21:=by simp [Nd.cells d.1]
  rw [e,List.set_append,j,if_neg Om0,show 21+(i-16)-21=i-16 by omega]
  rfl
section
variable {σ:Type}
def eE (n:Nat) (l:List Int):WM σ Unit:=fun st=>(if l.all (fun x=>decide (x<n))=H then .ok () else .bad 4,st)
end
end Go.SL
namespace Go.Proofs.Fs
open RowKit SL Proofs.Ba
def aZ (d:Nat) (h:Hd):ai:=fact h.fit*pt d (V (ints h.l) 193 (0,0))
def ah.held {w:M} {e:Nat} {h:Hd} {F:ai}:ah w (aZ e h*F)↔h.fit/\ah w (pt e (V (ints h.l) 193 (0,0))*F):=by
 constructor
 .intro d;exact ah.ao.1 (d.to (ar _ _ _))
 .intro d;exact (ah.ao.2 d).to (ar _ _ _).symm
def Rf (n:Nat) (l:List Int) (w:M) (u:L) (wr:M):Prop:=
 ∃ k:Nat,k<=l.length/\u = Z Y (k:Int)/\(∀ j,j<k->l.getD j 0<n)/\w=wr
def jA (w:M) (k n:Nat) (v:L) (l:List Int) (hl:l.length<=1000) (hr:pL w v l) (h1:w.cell? ⟨k,1,O⟩=U (Z Y (n:Int)))
  (Q:Ending->M->Prop) (hY:l.all (fun x=>decide (x<n))=H->Q (K (G #[])) w) (hN:l.all (fun x=>decide (x<n))=E->Q (.panicked (Kf 4)) w) :
  Calls N 219 #[X (U ⟨k,0,O⟩),v] w Q:=by
 have HY:=ae hY;have HN:=ae hN;have e0:(l.length:Int)<=1000:=Om0
 have b0:=fun j (d:j<l.length)=>hr.XA d;obtain ⟨va,vc,rfl⟩:=hr.FP;obtain ⟨m,hm⟩:=Nm l.length
 rw [hm] at e0 b0 ⊢;have f:=ae hm;clear hm hl
 go_in
 go_wp2_with fail
 go_loopw [8] (fun u wr=>Rf n l w u wr) (fun u _=>m-(intOf u).toNat)
 case atStart=>exact ⟨0,Nat.zero_le _,rfl,fun j d=>absurd d (K9 _),rfl⟩
 case round=>
  obtain ⟨j,d,rfl,S,rfl⟩:=hrel;rw [f.o] at d
  by_cases c0:j<m
  .have k0:(j:Int)<(m:Int):=Om0
   obtain ⟨g,o,c,e,hc⟩:=b0 j c0;obtain ⟨rfl,-,rfl⟩:=e;have l0:l.getD j 0 ∈ l:=by rw [J2,L3 (by rw [f.o];exact c0)];exact List.getElem_mem _
   by_cases A:l.getD j 0<n
   .have g0:∀ i,i<j+1->l.getD i 0<n:=fun i q=>by
     rcases Nat.lt_or_eq_of_le (Nat.le_of_lt_succ q) with t|t
     .exact S i t
     .rw [t];exact A
    have d0:=ae g0;have h0:¬ ((n:Int)<=l.getD j 0):=Om0
    go_wp2_with fail
    go_roundw
    case rel=>exact ⟨j+1,by rw [f.o];omega,by go_num,d0.o,rfl⟩
    case measure=>simp [intOf];omega
   .have h0:(n:Int)<=l.getD j 0:=Om0
    have f0:l.all (fun x=>decide (x<n))=E:=Gr0
    have r:=ae (HN.o f0)
    go_wp2_with fail
    (apply (fJ _ 4 De0).mono)
    rintro e w2 ⟨rfl,rfl⟩
    go_wp2_with fail
    exact ⟨rfl,r.o⟩
  .obtain rfl:j=m:=Om0
   have i0:l.all (fun x=>decide (x<n))=H:=by
    rw [List.all_eq_true];intro x A;obtain ⟨i,q,rfl⟩:=List.getElem_of_mem A;have:=S i (by rw [<- f.o];exact q);rw [J2,L3 q] at this;simpa using this
   have r:=ae (HY.o i0)
   exact Zy r.o
def Uy (z:Int) (w:M) (e:Ending) (w':M):Prop:=e = K (Z Y z)/\w=w'
def B1 (w:M) (d:Nat) (h:Hd) (F:ai) (hs:ah w (aZ d h*F)) (i:Nat) (x:i<256) :
  Calls N 151 #[X (U ⟨d,0,O⟩),Z Y (i:Int)] w (Uy (h.bA i) w):=by
 obtain ⟨f,r⟩:=ah.held.1 hs
 have l:∀ j,j<261->w.cell? ⟨d,j,O⟩=U (Z Y (h.l.getD j 0)):=fun j t=>by
  rw [r.cell,aY (by rw [Hd.vr f];exact t)]
 by_cases q:i<16
 .have e:=l (4+i) Om0
  rw [Hd.XV f q] at e
  go_in
  go_wp2_with fail
  go_ret
  exact ⟨rfl,rfl⟩
 .have e:=l (21+(i-16)) Om0
  rw [Hd.Ws f Om0] at e
  go_in
  go_wp2_with fail
  go_ret
  exact ⟨rfl,rfl⟩
def VQ (d:Nat) (h:Hd) (F:ai) (w:M) (e:Ending) (w':M):Prop:=e = K (G #[])/\ah w' (aZ d h*F)/\ak w w'
def vt (w:M) (d:Nat) (h:Hd) (F:ai) (hs:ah w (aZ d h*F)) (i:Nat) (hi:i<256) (b:Int) :
  Calls N 163 #[X (U ⟨d,0,O⟩),Z Y (i:Int),Z Y b] w (VQ d (h.put i b) F w):=by
 obtain ⟨q,e⟩:=ah.held.1 hs
 have x:∀ j,j<261->w.cell? ⟨d,j,O⟩=U (Z Y (h.l.getD j 0)):=fun j hj=>by
  rw [e.cell,aY (by rw [Hd.vr q];exact hj)]
 have S:∀ j,ah (w.setCell ⟨d,j,O⟩ (Z Y b)) (pt d (V (ints (h.l.set j b)) 193 (0,0))*F):=fun j=>by
  have:=e.setCell j (Z Y b)
  rwa [eS] at this
 have f:=Hd.Xe q (i:=i) b;have A:=Hd.Ir q i b
 by_cases t:i<16
 .have hc:=x (4+i) Om0
  have hz:=e.frozen (4+i);rw [if_pos t] at f;have r:=ah.held.2 ⟨A,by rw [f];exact S (4+i)⟩;have l:=ae r
  go_in
  go_wp2_with fail
  go_end0
  exact ⟨rfl,l.o,(ak.refl w).setCell _ _⟩
 .have hc:=x (21+(i-16)) Om0
  have hz:=e.frozen (21+(i-16));rw [if_neg t] at f;have r:=ah.held.2 ⟨A,by rw [f];exact S _⟩;have l:=ae r
  go_in
  go_wp2_with fail
  go_end0
  exact ⟨rfl,l.o,(ak.refl w).setCell _ _⟩
end Go.Proofs.Fs
namespace Go.SL
open RowKit
def kU (d:List UInt8):Nd × Int:=if ((iL d).ok && (d.drop 41).all (· == 0))=H then (iL d,0) else (⟨0,0,0,D9 16 0,0⟩,4)
def mj (d:List UInt8):List Int × Int:=if (bJ d 0 240).all cT=H then (bJ d 0 240,0) else (D9 240 0,4)
def GR (d:List UInt8):(kU d).1.dr.length=16:=by
 unfold kU;split
 .exact bu _ _ _
 .rfl
def Ch (d:List UInt8):(mj d).1.length=240:=by
 unfold mj;split
 .exact bu _ _ _
 .rfl
def TG (d:List UInt8):(kU d).2=0\/(kU d).2=4:=by unfold kU;split;exact .inl rfl;exact .inr rfl
def TR (d:List UInt8):(mj d).2=0\/(mj d).2=4:=by unfold mj;split;exact .inl rfl;exact .inr rfl
section
variable {σ:Type}
def jo (n:Nat) (id:Nat) (nd:Nd) (row:List Int):WM σ Hd:=WM.bind (eE n nd.dr) fun _=>WM.bind (eE n row) fun _=>WM.pure ⟨id,nd,row⟩
def UT (p:Nd × Int) (k:Nd->WM σ Hd):WM σ Hd:=fun st=>if p.2=0 then k p.1 st else (.bad p.2,st)
def Ov (p:List Int × Int) (k:List Int->WM σ Hd):WM σ Hd:=fun st=>if p.2=0 then k p.1 st else (.bad p.2,st)
def lH (ask:dO σ) (n:Nat) (id:Nat) (nd:Nd):WM σ Hd:=fun st=>
 if nd.rw=0 then jo n id nd (D9 240 0) st
 else (WM.bind (eE n [nd.rw]) fun _=>WM.bind (cZ ask nd.rw) fun d=>Ov (mj d) (jo n id nd)) st
def iP (ask:dO σ) (n:Nat) (id:Int):WM σ Hd:=fun st=>
 if 1<=id/\id<n then (WM.bind (cZ ask id) fun d=>UT (kU d) (lH ask n id.toNat)) st else (.bad 1,st)
end
end Go.SL
namespace Go.Proofs.Fs
open RowKit SL Proofs.Ba
def A8 (d e f x2 x3 x4 x5 x6 x7 x8 x9 i j l q r t x A S b0:Int):prog.built 193 [(0,Z Y d),(1,.agg #[Z Y e,Z Y f,Z Y x2,Z Y x3,Z Y x4,Z Y x5,Z Y x6,Z Y x7,Z Y x8,Z Y x9,Z Y i,Z Y j,Z Y l,Z Y q,Z Y r,Z Y t,Z Y x,Z Y A,Z Y S,Z Y b0])]=U (ints ([d,e,f,x2,x3,x4,x5,x6,x7,x8,x9,i,j,l,q,r,t,x,A,S,b0]++D9 240 0)):=Kr0
def Ur {l:List Int} (h:l.length=16):∃ a0 d t a3 a4 a5 x A S a9 e f i j q r,l=[a0,d,t,a3,a4,a5,x,A,S,a9,e,f,i,j,q,r]:=by
 match l,h with
 | [a0,d,t,a3,a4,a5,x,A,S,a9,e,f,i,j,q,r],_=>exact ⟨a0,d,t,a3,a4,a5,x,A,S,a9,e,f,i,j,q,r,rfl⟩
def pX (d:Int) (n:Nd) (h:n.dr.length=16):prog.built 193 [(0,Z Y d),(1,.agg (n.l.map (B3 Y)).toArray)]=U (ints (d :: (n.l++D9 240 0))):=by
 obtain ⟨kd,lk,sz,dr,rw⟩:=n;obtain ⟨a0,e,t,a3,a4,a5,x,A,S,a9,f,i,j,l,q,r,rfl⟩:=Ur h;exact A8 d kd lk sz a0 e t a3 a4 a5 x A S a9 f i j l q r rw
def gZ {P:Program} {ops:Array Oper} {rest:List Oper} {o:Oper} {a:Act} {w:M} {Q:Exit->Act->M->Prop} (f:o.guard=O) (t:TypeId) (parts:Array (Nat × Operand)) (q:o.op = .build t parts)
  (l:List (Nat × L)) (j:parts.toList.map (fun p=>(p.1,a.eval p.2))=l) (C:Array L) (d:P.built t l=U C) (h:wpList P ops Q rest (a.put o.dst (.agg C)) w):wpList P ops Q (o :: rest) a w:=by
 have e:P.built t (parts.map fun (i,x)=>(i,a.eval x)).toList=U C:=by rw [Array.toList_map];exact j▸d
 exact wpList_build f t parts q (by rw [e];rfl) (by rw [e];exact h)
def Wy (d:List UInt8) (w:M) (e:Ending) (w':M):Prop:=e = K (G #[(kU d).1.v,Z Y (kU d).2])/\ah w' (whole w)/\ak w w'
def SI (d:List UInt8) (w:M) (e:Ending) (w':M):Prop:=e = K (G #[.agg (ints (mj d).1),Z Y (mj d).2])/\ah w' (whole w)/\ak w w'
def RU (w:M) (v:L) (d:List UInt8) (q:Rd w v d) (l:d.length=480):Calls N 217 #[v] w (Wy d w):=by
 refine mO w v d q l _ (fun f j w' i h4=>?_) (fun f w' i h4=>?_)
 .have e:kU d=(iL d,0):=if_pos (by rw [f,j];rfl)
  exact ⟨by rw [e],i,h4⟩
 .have e:kU d=(⟨0,0,0,D9 16 0,0⟩,4):=if_neg (by rcases f with h|h <;> rw [h] <;> simp)
  exact ⟨by rw [e];rfl,i,h4⟩
def O0 (w:M) (v:L) (d:List UInt8) (l:Rd w v d) (j:d.length=480):Calls N 220 #[v] w (SI d w):=by
 refine ym w v d l j _ (fun f w' i h4=>?_) (fun f w' i h4=>?_)
 .have e:mj d=(bJ d 0 240,0):=if_pos f
  exact ⟨by rw [e],i,h4⟩
 .have e:mj d=(D9 240 0,4):=if_neg (by rw [f];simp)
  exact ⟨by rw [e];rfl,i,h4⟩
section
variable {σ α:Type}
def zT {w:M} {x:Wk σ} {S:Hp} {st:fB σ} {F:ai} (h:ah w (aN x S st*F)):w.cell? ⟨x.k,1,O⟩=U (Z Y (x.n:Int)):=by
 obtain ⟨v,d⟩:=ah.iS h;exact (d.to (by unfold cD;ac_rfl:_=pt x.k (V (x.cells v st.dt) 162 (0,0))*(eu x.c S x.b st.b*(fG st.bits v*F)))).cell 1
def uj (h:Hd) (v:L):ai:=ex fun d=>fact (v=ax d)*aZ d h
def Mf {ask:dO σ} {n:Nat} {id:Int} {st:fB σ} (h:¬ (1<=id/\id<n)):iP ask n id st=(.bad 1,st):=if_neg h
def KT {ask:dO σ} {n:Nat} {id:Int} {st d:fB σ} {c:Int} (h:1<=id/\id<n) (e:cZ ask id st=(.bad c,d)):iP ask n id st=(.bad c,d):=
 (if_pos h).trans (WM.bN e)
def KW {ask:dO σ} {n:Nat} {id:Int} {st e:fB σ} {d:List UInt8} {nd:Nd} (h:1<=id/\id<n) (i:cZ ask id st=(.ok d,e)) (f:kU d=(nd,4)):iP ask n id st=(.bad 4,e):=by
 refine ((if_pos h).trans (WM.bp i)).trans ?_;rw [f];exact if_neg (show ¬ (4:Int)=0 by decide)
def Nk {ask:dO σ} {n:Nat} {id:Int} {st e:fB σ} {d:List UInt8} {nd:Nd} (h:1<=id/\id<n) (i:cZ ask id st=(.ok d,e)) (f:kU d=(nd,0)):iP ask n id st=lH ask n id.toNat nd e:=by
 refine ((if_pos h).trans (WM.bp i)).trans ?_;rw [f];exact if_pos rfl
def iF {n:Nat} {l:List Int} {st:fB σ} (h:l.all (fun x=>decide (x<n))=H):eE n l st=(.ok (),st):=by unfold eE;rw [if_pos h]
def qx {n:Nat} {l:List Int} {st:fB σ} (h:l.all (fun x=>decide (x<n))=E):eE n l st=(.bad 4,st):=by unfold eE;rw [if_neg (by rw [h];simp)]
def zu {n id:Nat} {nd:Nd} {row:List Int} {st:fB σ} (d:nd.dr.all (fun x=>decide (x<n))=H) (e:row.all (fun x=>decide (x<n))=H):jo n id nd row st=(.ok ⟨id,nd,row⟩,st):=
 (WM.bp (iF d)).trans (WM.bp (iF e))
def wL {n id:Nat} {nd:Nd} {row:List Int} {st:fB σ} (d:nd.dr.all (fun x=>decide (x<n))=H) (e:row.all (fun x=>decide (x<n))=E):jo n id nd row st=(.bad 4,st):=
 (WM.bp (iF d)).trans (WM.bN (qx e))
def wZ {n id:Nat} {nd:Nd} {row:List Int} {st:fB σ} (d:nd.dr.all (fun x=>decide (x<n))=E):jo n id nd row st=(.bad 4,st):=
 WM.bN (qx d)
def Nc {ask:dO σ} {n id:Nat} {nd:Nd} {st:fB σ} (h:nd.rw=0):lH ask n id nd st=jo n id nd (D9 240 0) st:=if_pos h
def M3 {ask:dO σ} {n id:Nat} {nd:Nd} {st:fB σ} (h:nd.rw≠0) (d:[nd.rw].all (fun x=>decide (x<n))=E):lH ask n id nd st=(.bad 4,st):=
 (if_neg h).trans (WM.bN (qx d))
def OV {ask:dO σ} {n id:Nat} {nd:Nd} {st d:fB σ} {c:Int} (h:nd.rw≠0) (e:[nd.rw].all (fun x=>decide (x<n))=H) (f:cZ ask nd.rw st=(.bad c,d)):lH ask n id nd st=(.bad c,d):=
 (if_neg h).trans ((WM.bp (iF e)).trans (WM.bN f))
def OK {ask:dO σ} {n id:Nat} {nd:Nd} {st e:fB σ} {d:List UInt8} {row:List Int} (h:nd.rw≠0) (f:[nd.rw].all (fun x=>decide (x<n))=H) (i:cZ ask nd.rw st=(.ok d,e)) (j:mj d=(row,4)):lH ask n id nd st=(.bad 4,e):=by
 refine (if_neg h).trans ((WM.bp (iF f)).trans ((WM.bp i).trans ?_));rw [j];exact if_neg (show ¬ (4:Int)=0 by decide)
def Pg {ask:dO σ} {n id:Nat} {nd:Nd} {st e:fB σ} {d:List UInt8} {row:List Int} (h:nd.rw≠0) (f:[nd.rw].all (fun x=>decide (x<n))=H) (i:cZ ask nd.rw st=(.ok d,e)) (j:mj d=(row,0)):lH ask n id nd st=jo n id nd row e:=by
 refine (if_neg h).trans ((WM.bp (iF f)).trans ((WM.bp i).trans ?_));rw [j];exact if_pos rfl
def BT (id:Int) (e z r:List Int) (d:e.length=20) (l:z.length=240) (f:r.length=240):fQ (ints (id :: (e++z))) 21 (r.map (B3 Y))=ints (id :: (e++r)):=by
 have t:(ints (id :: (e++z))).size=261:=by rw [ed];simp [d,l]
 apply Array.ext_getElem?;intro k;rw [jl _ _ _ _ (by rw [J4,f,t];decide),J4,f,dH,dH]
 by_cases i:21<=k/\k<21+240
 .rw [if_pos i,K5]
  obtain ⟨j,rfl⟩:∃ j,k=j+1:=⟨k-1,Om0⟩
  rw [J3,L8 Om0,d];congr 2
 .rw [if_neg i]
  rcases Nat.lt_or_ge k 21 with q|q
  .cases k with
   | zero=>rfl
   | succ j=>rw [J3,J3,K6 Om0,K6 Om0]
  .rw [M2 (by simp [d,l];omega),M2 (by simp [d,f];omega)]
def vW (x:Wk σ) (hc:x.c.Ok) (w:M) (e0:Hp) (st:fB σ) (id:Int) (F:ai) (h:ah w (aN x e0 st*(al e0*F))) (Q:Ending->M->Prop)
  (hQ:∀ e w',WQ x uj e0 F w (iP x.c.ask x.n id st) e w'->Q e w') :
  Calls N 140 #[X (U ⟨x.k,0,O⟩),Z Y id] w Q:=by
 have S:=zT h
 by_cases n0:1<=id/\id<x.n
 .have hr:=oX x hc w e0 st id F h
  have Hid:=ae n0;obtain ⟨i1,i2⟩:=n0;clear h;obtain ⟨⟨b2,bS⟩,hp⟩:∃ p,cZ x.c.ask id st=p:=⟨_,rfl⟩
  rw [hp] at hr
  cases b2 with
  | bad c=>
   have q:=ae hQ;have Hp:=ae (KT Hid.o hp);clear hp hQ
   go_in
   go_wp2_with fail
   (with_reducible apply (iT w).mono)
   rintro e w2 ⟨rfl,rfl⟩
   go_wp2_with fail
   (with_reducible apply hr.mono)
   rintro e w1 ⟨S',hS,d1,rfl,h2⟩
   go_wp2_with fail
   exact ⟨rfl,q.o _ _ (by rw [Hp.o];exact ⟨S',hS,d1,rfl,h2⟩)⟩
  | ok K0=>
   have hL:=j3 hp;have d:=ae (GR K0);have H1:=TG K0;have hd:=fun w1 v1 hr=>RU w1 v1 K0 hr hL;unfold Wy at hd;have q:=ae hQ;have p1:=fun nd=>Nk (nd:=nd) Hid.o hp;have l0:=fun nd=>KW (nd:=nd) Hid.o hp;generalize kU K0=p at *;obtain ⟨nd,c⟩:=p;dsimp only at H1 d hd;have V0:=ae (p1 nd);have h0:=ae (l0 nd);have R1:nd.v = .agg (nd.l.map (B3 Y)).toArray:=rfl;rw [R1] at hd;clear hp hQ p1 l0 hL R1
   go_in
   go_wp2_with fail
   (with_reducible apply (iT w).mono)
   rintro e w2 ⟨rfl,rfl⟩
   go_wp2_with fail
   (with_reducible apply hr.mono)
   rintro e w1 ⟨t,v1,c0,d1,rfl,h1⟩;have xL:=hd w1 v1 h1.ny;have Hk:=ae (fun w' (h:ah w' (whole w1))=>ah.cU h h1);clear hr S hd
   go_wp2_with fail
   (with_reducible apply xL.mono)
   rintro e w2 ⟨rfl,h2,d2⟩;have H2:=(Hk.o w2 h2).right;have D2:=d1.trans d2;clear xL Hk h1 h2 d1 d2;have hZ:=H2.alloc (V #[Z Y 0,Z Y 0,Z Y 0,Z Y 0,Z Y 0,Z Y 0,Z Y 0,Z Y 0,Z Y 0,Z Y 0,Z Y 0,Z Y 0,Z Y 0,Z Y 0,Z Y 0,Z Y 0,Z Y 0,Z Y 0,Z Y 0,Z Y 0] 75 (0,0));have DZ:=D2.alloc (V #[Z Y 0,Z Y 0,Z Y 0,Z Y 0,Z Y 0,Z Y 0,Z Y 0,Z Y 0,Z Y 0,Z Y 0,Z Y 0,Z Y 0,Z Y 0,Z Y 0,Z Y 0,Z Y 0,Z Y 0,Z Y 0,Z Y 0,Z Y 0] 75 (0,0));have l1:(nd.l.map (B3 Y)).toArray.size=20:=by simp [Nd.cells d.o]
   have A1:(nd.l.map (B3 Y)).toArray.all (·.oneCell')=H:=by simp [K8]
   have N1:(prog.info? 75).map (·.size)=U (nd.l.map (B3 Y)).toArray.size:=by rw [l1];exact bd
   have V1:=ae l1;have W1:=ae A1;have Z1:=ae N1;have b0:=hZ.setRow (cs':=(nd.l.map (B3 Y)).toArray);have n1:=ae (DZ.setRow w2.heap.size (nd.l.map (B3 Y)).toArray);have Hz:=ae hZ.heap;clear l1 A1 N1 H2 D2 DZ hZ
   go_wp2_with (refine wpList_store_row (by exact rfl) 75 (.tmp 5) (.tmp 24) (by exact rfl) w2.heap.size (nd.l.map (B3 Y)).toArray (by exact rfl) (by exact rfl) 75 _ (by with_reducible exact Hz.o) Z1.o (by rw [V1.o];rfl) W1.o ?_)
   generalize w2.heap.size=i at *;generalize World.setRow _ _ _=l at *;clear Hz;rcases H1 with rfl|rfl
   .have HE:=ae (V0.o rfl)
    clear V0 h0;have k1:=pX id nd d.o;obtain ⟨f,S0⟩:=Mn0 (D9 240 (0:Int))
    rw [<- S0] at k1;have r:RowKit.Hid (f.length=240):=by show f.length=240;rw [S0];rfl
    have S1:=ae S0;clear S0;have F0:=ae k1
    have M1:l.rangeAt i 0 (nd.l.map (B3 Y)):=fun e2 v hv=>by
     rw [Nat.zero_add,b0.cell,List.getElem?_toArray];exact hv
    have u1:(prog.info? 75).map (·.size)=U (nd.l.map (B3 Y)).length:=by rw [J4,Nd.cells d.o];exact bd
    have H0:=ae M1;have G0:=ae u1;clear k1 M1 u1;have c4:l.cell? ⟨i,19,O⟩=U (Z Y nd.rw):=(b0.cell 19).trans (Nd.JB d.o);have Y1:=ae b0;have y1:i<l.heap.size:=b0.lt;clear b0;have R0:ah (l.alloc (V (ints (id :: (nd.l++f))) 193 (0,0))) (pt l.heap.size (V (ints (id :: (nd.l++f))) 193 (0,0))*(pt i (V (nd.l.map (B3 Y)).toArray 75 (0,0))*(aN x t bS*(al t*F)))):=Y1.o.alloc _;have D0:=ae (n1.o.alloc (V (ints (id :: (nd.l++f))) 193 (0,0)));have Y0:=ae R0;have z1:l.heap.size<(l.alloc (V (ints (id :: (nd.l++f))) 193 (0,0))).heap.size:=R0.lt;have g1:(l.alloc (V (ints (id :: (nd.l++f))) 193 (0,0))).cell? ⟨i,19,O⟩=U (Z Y nd.rw):=(R0.aj.cell 19).trans (Nd.JB d.o);clear R0
    (with_reducible apply (kF _).mono)
    rintro e w4 ⟨rfl,rfl⟩
    by_cases f0:nd.rw=0
    .have g0:=ae ((Nc (ask:=x.c.ask) (n:=x.n) (id:=id.toNat) (st:=bS) f0).trans (by rw [<- S1.o]))
     rw [f0] at c4 g1
     go_wp2_with (first
      | (refine wpList_load_mid (by exact rfl) 75 (.tmp 5) (by exact rfl) i 0 (by exact rfl) (nd.l.map (B3 Y)) _ (by with_reducible exact H0.o) underlying75 rfl (by with_reducible exact G0.o) ?_)
      | (refine gZ (by exact rfl) 193 #[(0,.tmp 28),(1,.tmp 29)] (by exact rfl) _ (by exact rfl) _ (by exact F0.o) ?_))
     have hT:=Y0.o;generalize l.alloc (V (ints (id :: (nd.l++f))) 193 (0,0))=w5 at *;generalize l.heap.size=j at *;clear c4 g1 H0 G0 y1 z1 F0
     have q0:pL w5 (I (U ⟨i,3,O⟩) 16 16) nd.dr:=by
      have h9:ah w5 (pt i (V (ints nd.l) 75 (0,0))*_):=hT.aj;have:=pL.row h9 3 16 (by rw [Nd.cells d.o];decide) De0
      rwa [Nd.ly d.o] at this
     have r0:pL w5 (I (U ⟨j,21,O⟩) 240 240) f:=by
      have:=pL.row hT 21 240 (by rw [D7,L6,Nd.cells d.o,r.o];decide) De0
      rwa [show ((id :: (nd.l++f)).drop 21).take 240=f from by rw [N2,List.drop_left' (Nd.cells d.o),O2 (by rw [r.o];decide)]] at this
     have S:w5.cell? ⟨x.k,1,O⟩=U (Z Y (x.n:Int)):=zT hT.right.right;have hA:∀ Q,_->_->Calls N 219 #[X (U ⟨x.k,0,O⟩),I (U ⟨i,3,O⟩) 16 16] w5 Q:=jA w5 x.k x.n _ nd.dr (by rw [d.o];decide) q0 S;have hB:∀ Q,_->_->Calls N 219 #[X (U ⟨x.k,0,O⟩),I (U ⟨j,21,O⟩) 240 240] w5 Q:=jA w5 x.k x.n _ f (by rw [r.o];decide) r0 S;have HT:=ae hT;clear q0 r0 S hT
     go_wp2_with fail
     refine hA _ (fun s0=>?_) (fun o0=>?_)
     .have k0:=ae s0
      clear s0 hA
      go_wp2_with fail
      refine hB _ (fun u0=>?_) (fun p0=>?_)
      .have f1:=ae u0
       clear u0 hB
       go_wp2_with fail
       refine q.o _ _ ?_;rw [HE.o.trans (g0.o.trans (zu k0.o f1.o))];refine ⟨t,_,c0,D0.o,rfl,?_⟩;refine ah.aq.2 ⟨j,(ah.ao.2 ⟨rfl,ah.held.2 ⟨⟨d.o,r.o⟩,?_⟩⟩:ah _ (fact _*_)).to (ar _ _ _).symm⟩;have e:(Hd.l ⟨id.toNat,nd,f⟩)=id :: (nd.l++f):=by show ((id.toNat:Int) :: _)=_;rw [Int.toNat_of_nonneg Om0]
       rw [e];exact (HT.o.t00 (pt i (V (nd.l.map (B3 Y)).toArray 75 (0,0))*(pt j (V (ints (id :: (nd.l++f))) 193 (0,0))*(aN x t bS*(al t*F))))).right
      .have b1:=ae p0
       clear p0 hB
       go_wp2_with fail
       exact ⟨rfl,q.o _ _ (by rw [HE.o.trans (g0.o.trans (wL k0.o b1.o))];exact ⟨t,c0,D0.o,rfl,HT.o.right.right⟩)⟩
     .have a1:=ae o0
      clear o0 hA hB
      go_wp2_with fail
      exact ⟨rfl,q.o _ _ (by rw [HE.o.trans (g0.o.trans (wZ a1.o))];exact ⟨t,c0,D0.o,rfl,HT.o.right.right⟩)⟩
    .have c2:(nd.rw != 0)=H:=by simpa using f0
     have c1:=ae f0;have g0:=ae (M3 (ask:=x.c.ask) (n:=x.n) (id:=id.toNat) (st:=bS) f0);have m0:=Y0.o.alloc (V #[Z Y nd.rw] 3 (0,0));have D1:=ae (D0.o.alloc (V #[Z Y nd.rw] 3 (0,0)));have Z0:=ae m0
     have K1:pL ((l.alloc (V (ints (id :: (nd.l++f))) 193 (0,0))).alloc (V #[Z Y nd.rw] 3 (0,0))) (I (U ⟨l.heap.size+1,0,O⟩) 1 1) [nd.rw]:=by
      have h8:=m0;rw [L5] at h8;exact pL.row (xs:=[nd.rw]) h8 0 1 (Nat.le_refl _) De0
     have S:=zT m0.right.right.right;have hC:∀ Q,_->_->Calls N 219 #[X (U ⟨x.k,0,O⟩),I (U ⟨l.heap.size+1,0,O⟩) 1 1] _ Q:=jA _ x.k x.n _ [nd.rw] (by show 1<=1000;decide) K1 S;have a2:=(m0.au.cell 19).trans (Nd.JB d.o);clear m0 K1 S f0
     go_wp2_with (first
      | (refine wpList_load_mid (by exact rfl) 75 (.tmp 5) (by exact rfl) i 0 (by exact rfl) (nd.l.map (B3 Y)) _ (by with_reducible exact H0.o) underlying75 rfl (by with_reducible exact G0.o) ?_)
      | (refine gZ (by exact rfl) 193 #[(0,.tmp 28),(1,.tmp 29)] (by exact rfl) _ (by exact rfl) _ (by exact F0.o) ?_))
     refine hC _ (fun hy=>?_) (fun hn=>?_)
     .have Hy:=ae hy
      have T0:=oX x hc _ t bS nd.rw _ (Z0.o.right.t00 (aN x t bS*(al t*(pt l.heap.size (V (ints (id :: (nd.l++f))) 193 (0,0))*(pt i (V (nd.l.map (B3 Y)).toArray 75 (0,0))*F)))));clear hy hC;generalize l.alloc (V (ints (id :: (nd.l++f))) 193 (0,0))=w4 at *;generalize l.heap.size=j at *;clear c4 g1 H0 G0 y1 z1 F0 Y0;obtain ⟨⟨r2,m1⟩,d0⟩:∃ p,cZ x.c.ask nd.rw bS=p:=⟨_,rfl⟩
      rw [d0] at T0
      cases r2 with
      | bad c=>
       have W0:=ae (OV (id:=id.toNat) c1.o Hy.o d0);clear d0
       go_wp2_with fail
       (with_reducible apply T0.mono)
       rintro e w6 ⟨A,L0,d6,rfl,h6⟩
       go_wp2_with fail
       exact ⟨rfl,q.o _ _ (by rw [HE.o.trans W0.o];exact ⟨A,c0.trans L0,D1.o.trans d6,rfl,h6.t00 ((aN x A m1*(al A*F))*(pt j (V (ints (id :: (nd.l++f))) 193 (0,0))*pt i (V (nd.l.map (B3 Y)).toArray 75 (0,0)))) |>.left⟩)⟩
      | ok L2=>
       have r1:=j3 d0;have q1:=fun row=>OK (row:=row) (id:=id.toNat) c1.o Hy.o d0;have l0:=fun row=>Pg (row:=row) (id:=id.toNat) c1.o Hy.o d0;have hd:=fun w1 v1 hr=>O0 w1 v1 L2 hr r1;have j1:=Ch L2;have L1:=TR L2;unfold SI at hd;generalize mj L2=p at *;obtain ⟨row,c⟩:=p;dsimp only at hd j1 L1;have W0:=ae (q1 row);have h0:=ae (l0 row);have x0:=ae j1;clear q1 l0 d0 r1 j1
       go_wp2_with fail
       (with_reducible apply T0.mono)
       rintro e w6 ⟨A,v2,L0,d6,rfl,h6⟩;have s1:=hd w6 v2 h6.ny;have Hk:=ae (fun w' (h:ah w' (whole w6))=>ah.cU h h6);clear T0 hd
       go_wp2_with fail
       (with_reducible apply s1.mono)
       rintro e w7 ⟨rfl,h7,d7⟩;have h8:ah w7 (pt j (V (ints (id :: (nd.l++f))) 193 (0,0))*(pt i (V (nd.l.map (B3 Y)).toArray 75 (0,0))*(aN x A m1*(al A*F)))):=(Hk.o w7 h7).right.u00;have D8:=ae (ak.setCells (row.map (B3 Y)) 21 j ((D1.o.trans d6).trans d7));have N0:=c0.trans L0;have b0:=ah.setCells (row.map (B3 Y)) 21 h8;rw [BT id nd.l f row (Nd.cells d.o) r.o x0.o] at b0
       have O1:w7.there j 21 (row.map (B3 Y)).toArray.size:=by
        have hz:(row.map (B3 Y)).toArray.size=240:=by simp [x0.o]
        rw [hz];exact ah.there h8 (by rw [ed,D7,L6,Nd.cells d.o,r.o];decide)
       have t1:(prog.info? 191).map (·.size)=U (row.map (B3 Y)).toArray.size:=by
        have hz:(row.map (B3 Y)).toArray.size=240:=by simp [x0.o]
        rw [hz];exact me
       have E1:(row.map (B3 Y)).toArray.all (·.oneCell')=H:=by simp [K8]
       have x1:Value.agg (ints row) = .agg (row.map (B3 Y)).toArray:=rfl;have o1:=ae O1;have T1:=ae t1;have X1:=ae E1;have e1:=ae b0;rw [x1];clear s1 Hk h6 h7 d6 d7 h8 O1 t1 E1 x1 b0 Z0 D1 c0 L0 a2
       go_wp2_with (refine wpList_store_mid (by exact rfl) 191 (.tmp 50) (.tmp 47) (by exact rfl) j 21 (row.map (B3 Y)).toArray (by exact rfl) (by exact rfl) (by with_reducible exact o1.o) T1.o X1.o ?_)
       rcases L1 with rfl|rfl
       .have i0:=ae (HE.o.trans (h0.o rfl))
        (with_reducible apply (kF _).mono)
        rintro e w9 ⟨rfl,rfl⟩;have hT:ah (w7.setCells j 21 (row.map (B3 Y)).toArray.toList) _:=e1.o;clear r;have r:=x0;have DD:RowKit.Hid (ak w (w7.setCells j 21 (row.map (B3 Y)).toArray.toList)):=D8;clear o1 e1 D8;generalize w7.setCells j 21 (row.map (B3 Y)).toArray.toList=w8 at *
        have q0:pL w8 (I (U ⟨i,3,O⟩) 16 16) nd.dr:=by
         have h9:ah w8 (pt i (V (ints nd.l) 75 (0,0))*_):=hT.aj;have:=pL.row h9 3 16 (by rw [Nd.cells d.o];decide) De0
         rwa [Nd.ly d.o] at this
        have r0:pL w8 (I (U ⟨j,21,O⟩) 240 240) row:=by
         have:=pL.row hT 21 240 (by rw [D7,L6,Nd.cells d.o,r.o];decide) De0
         rwa [show ((id :: (nd.l++row)).drop 21).take 240=row from by rw [N2,List.drop_left' (Nd.cells d.o),O2 (by rw [r.o];decide)]] at this
        have S:w8.cell? ⟨x.k,1,O⟩=U (Z Y (x.n:Int)):=zT hT.right.right;have hA:∀ Q,_->_->Calls N 219 #[X (U ⟨x.k,0,O⟩),I (U ⟨i,3,O⟩) 16 16] w8 Q:=jA w8 x.k x.n _ nd.dr (by rw [d.o];decide) q0 S;have hB:∀ Q,_->_->Calls N 219 #[X (U ⟨x.k,0,O⟩),I (U ⟨j,21,O⟩) 240 240] w8 Q:=jA w8 x.k x.n _ row (by rw [r.o];decide) r0 S;have HT:=ae hT;clear q0 r0 S hT
        go_wp2_with fail
        refine hA _ (fun s0=>?_) (fun o0=>?_)
        .have k0:=ae s0
         clear s0 hA
         go_wp2_with fail
         refine hB _ (fun u0=>?_) (fun p0=>?_)
         .have f1:=ae u0
          clear u0 hB
          go_wp2_with fail
          refine q.o _ _ ?_;rw [i0.o.trans (zu k0.o f1.o)];refine ⟨A,_,N0,DD.o,rfl,?_⟩;refine ah.aq.2 ⟨j,(ah.ao.2 ⟨rfl,ah.held.2 ⟨⟨d.o,r.o⟩,?_⟩⟩:ah _ (fact _*_)).to (ar _ _ _).symm⟩;have e:(Hd.l ⟨id.toNat,nd,row⟩)=id :: (nd.l++row):=by show ((id.toNat:Int) :: _)=_;rw [Int.toNat_of_nonneg Om0]
          rw [e];exact (HT.o.t00 (pt i (V (nd.l.map (B3 Y)).toArray 75 (0,0))*(pt j (V (ints (id :: (nd.l++row))) 193 (0,0))*(aN x A m1*(al A*F))))).right
         .have b1:=ae p0
          clear p0 hB
          go_wp2_with fail
          exact ⟨rfl,q.o _ _ (by rw [i0.o.trans (wL k0.o b1.o)];exact ⟨A,N0,DD.o,rfl,HT.o.right.right⟩)⟩
        .have a1:=ae o0
         clear o0 hA hB
         go_wp2_with fail
         exact ⟨rfl,q.o _ _ (by rw [i0.o.trans (wZ a1.o)];exact ⟨A,N0,DD.o,rfl,HT.o.right.right⟩)⟩
       .have i0:=ae (HE.o.trans (W0.o rfl))
        (with_reducible apply (fJ _ 4 De0).mono)
        rintro e w9 ⟨rfl,rfl⟩
        go_wp2_with fail
        exact ⟨rfl,q.o _ _ (by rw [i0.o];exact ⟨A,N0,D8.o,rfl,e1.o.right.right⟩)⟩
     .have Hn:=ae hn
      clear hn hC
      go_wp2_with fail
      exact ⟨rfl,q.o _ _ (by rw [HE.o.trans (g0.o Hn.o)];exact ⟨t,c0,D1.o,rfl,Z0.o.right.right.right⟩)⟩
   .have HE:=ae (h0.o rfl)
    clear V0 h0
    (with_reducible apply (fJ _ 4 De0).mono)
    rintro e w4 ⟨rfl,rfl⟩
    go_wp2_with fail
    exact ⟨rfl,q.o _ _ (by rw [HE.o];exact ⟨t,c0,n1.o,rfl,b0.right⟩)⟩
 .have Hp:=ae (Mf (ask:=x.c.ask) (st:=st) n0)
  have q:=ae hQ;have HL:=ae (show Q (.panicked (Kf 1)) w from hQ _ _ (by rw [Hp.o];exact ⟨e0,Ext.refl e0,ak.refl w,rfl,h⟩));clear hQ
  by_cases h1:1<=id
  .have h2:decide (id<(x.n:Int))=E:=decide_eq_false Om0
   clear n0
   go_in
   go_wp2_with fail
   (with_reducible apply (jv w).mono)
   rintro e w2 ⟨rfl,rfl⟩
   go_wp2_with fail
   exact ⟨rfl,HL.o⟩
  .have h2:id<1:=Om0
   clear n0
   go_in
   go_wp2_with fail
   (with_reducible apply (jv w).mono)
   rintro e w2 ⟨rfl,rfl⟩
   go_wp2_with fail
   exact ⟨rfl,HL.o⟩
end
end Go.Proofs.Fs
namespace Go.SL
open RowKit
section
variable {σ:Type}
def L9 (h:Hd):WM σ Unit:=fun st=>
 if h.n.rw=0 then (.ok (),st) else if h.row.all cT=H then cM h.n.rw (jW h.row) st else (.bad 1,st)
def ew (h:Hd):WM σ Unit:=fun st=>
 if h.n.ok=H then (WM.bind (cM (h.id:Int) (je h.n)) fun _=>L9 h) st else (.bad 1,st)
def Pq {h:Hd} {st:fB σ} (d:h.n.ok=E):ew h st=(.bad 1,st):=if_neg (by rw [d];decide)
def Kc {h:Hd} {st bS:fB σ} {c:Int} (d:h.n.ok=H) (e:cM (h.id:Int) (je h.n) st=(.bad c,bS)):ew h st=(.bad c,bS):=(if_pos d).trans (WM.bN e)
def R9 {h:Hd} {st bS:fB σ} (d:h.n.ok=H) (e:cM (h.id:Int) (je h.n) st=(.ok (),bS)) (f:h.n.rw=0):ew h st=(.ok (),bS):=(if_pos d).trans ((WM.bp e).trans (if_pos f))
def M8 {h:Hd} {st bS:fB σ} (d:h.n.ok=H) (e:cM (h.id:Int) (je h.n) st=(.ok (),bS)) (f:h.n.rw≠0) (h4:h.row.all cT=E):ew h st=(.bad 1,bS):=
 (if_pos d).trans ((WM.bp e).trans ((if_neg f).trans (if_neg (by rw [h4];decide))))
def P0 {h:Hd} {st bS:fB σ} (d:h.n.ok=H) (e:cM (h.id:Int) (je h.n) st=(.ok (),bS)) (f:h.n.rw≠0) (h4:h.row.all cT=H):ew h st=cM h.n.rw (jW h.row) bS:=
 (if_pos d).trans ((WM.bp e).trans ((if_neg f).trans (if_pos h4)))
end
end Go.SL
namespace Go.Proofs.Fs
open RowKit SL Proofs.Ba
section
variable {σ α:Type}
def th {w:M} {d:Nat} {h:Hd} {F:ai} (e:h.fit) (hs:ah w (pt d (V (ints h.l) 193 (0,0))*F)):w.rangeAt d 1 (h.n.l.map (B3 Y)):=fun j v hv=>by
 rw [hs.cell,dH,<- K5,K2];show (List.map (B3 Y) ((h.id:Int) :: (h.n.l++h.row)))[j+1]?=U v
 rw [L4,J3,List.map_append,K6 (List.getElem?_eq_some_iff.1 hv).1];exact hv
def PF {w:M} {d:Nat} {h:Hd} {F:ai} (e:h.fit) (hs:ah w (pt d (V (ints h.l) 193 (0,0))*F)):w.rangeAt d 21 (h.row.map (B3 Y)):=fun j v hv=>by
 rw [hs.cell,dH,<- K5,show 21+j=(20+j)+1 by omega];show (List.map (B3 Y) ((h.id:Int) :: (h.n.l++h.row)))[20+j+1]?=U v
 rw [L4,J3,List.map_append,L8 (by rw [J4,Nd.cells e.1];omega),J4,Nd.cells e.1,Nat.add_sub_cancel_left];exact hv
def Aa {w:M} {d:Nat} {h:Hd} {F:ai} (e:h.fit) (hs:ah w (pt d (V (ints h.l) 193 (0,0))*F)):w.cell? ⟨d,20,O⟩=U (Z Y h.n.rw):=by
 have:=th e hs 19 (Z Y h.n.rw) (by
  have:=Nd.JB e.1
  rwa [dH,<- K5] at this)
 exact this
def QU {w:M} {d:Nat} {h:Hd} {F:ai} (hs:ah w (pt d (V (ints h.l) 193 (0,0))*F)):w.cell? ⟨d,0,O⟩=U (Z Y (h.id:Int)):=hs.cell 0
def Bw (x:Wk σ) (w:M) (S:Hp) (st:fB σ) (j:Nat) (h:Hd) (F:ai) (hs:ah w (aZ j h*(aN x S st*(al S*F)))) (Q:Ending->M->Prop)
  (hQ:∀ e w',WQ x ni S (aZ j h*F) w (ew h st) e w'->Q e w') :
  Calls N 144 #[X (U ⟨x.k,0,O⟩),X (U ⟨j,0,O⟩)] w Q:=by
 obtain ⟨i,h0⟩:=ah.held.1 hs;have HQ:=ae hQ;have Hf:=ae i;have b0:=ae (th i h0);have u0:(prog.info? 75).map (·.size)=U (h.n.l.map (B3 Y)).length:=by rw [J4,Nd.cells i.1];exact bd
 have n0:=ae u0;have q0:h.n.v = .agg (h.n.l.map (B3 Y)).toArray:=rfl;have Hs:=ae hs
 cases t:h.n.ok with
 | false=>
  have f:=sr w h.n i.1 t;rw [q0] at f;have l:=ae (Pq (st:=st) t)
  go_in
  go_wp2_with (refine wpList_load_mid (by exact rfl) 75 (.tmp 9) (by exact rfl) j 1 (by exact rfl) (h.n.l.map (B3 Y)) _ (by with_reducible exact b0.o) underlying75 rfl (by with_reducible exact n0.o) ?_)
  (apply f.mono)
  rintro e w2 ⟨rfl,h2,d2⟩;have H2:=h2.cU Hs.o
  go_wp2_with fail
  (apply (fJ _ 1 De0).mono)
  rintro e w3 ⟨rfl,rfl⟩
  go_wp2_with fail
  exact ⟨rfl,HQ.o _ _ (by rw [l.o];exact ⟨S,Ext.refl S,d2,rfl,H2.u00⟩)⟩
 | true=>
  have f:=mQ w h.n i.1 t;have G0:=fun d c=>Kc (h:=h) (st:=st) (bS:=d) (c:=c) t;have H0:=fun d=>R9 (h:=h) (st:=st) (bS:=d) t;have K0:=fun d=>M8 (h:=h) (st:=st) (bS:=d) t;have L0:=fun d=>P0 (h:=h) (st:=st) (bS:=d) t;rw [q0] at f;have r0:=ae G0;have f0:=ae H0;have g0:=ae K0;have i0:=ae L0
  go_in
  go_wp2_with (refine wpList_load_mid (by exact rfl) 75 (.tmp 9) (by exact rfl) j 1 (by exact rfl) (h.n.l.map (B3 Y)) _ (by with_reducible exact b0.o) underlying75 rfl (by with_reducible exact n0.o) ?_)
  (apply f.mono)
  rintro e w2 ⟨v2,rfl,h2,d2⟩;have H2:=h2.under Hs.o;have D0:=H2.ny;have H3:=H2.right.t00 (aN x S st*(al S*(aZ j h*F)));have c0:=QU (ah.held.1 H2.right).2;have A:=p9 x w2 S st (h.id:Int) _ (je h.n) _ H3 D0;obtain ⟨⟨l0,d⟩,r⟩:∃ p,cM (h.id:Int) (je h.n) st=p:=⟨_,rfl⟩
  rw [r] at A
  go_wp2_with fail
  (apply (kF _).mono)
  rintro e w3 ⟨rfl,rfl⟩
  cases l0 with
  | bad c=>
   have l:=ae (r0.o _ _ r)
   go_wp2_with fail
   (apply A.mono)
   rintro e w3 ⟨q,hS,d3,rfl,h3⟩
   go_wp2_with fail
   exact ⟨rfl,HQ.o _ _ (by rw [l.o];exact ⟨q,hS,d2.trans d3,rfl,h3⟩)⟩
  | ok u=>
   have f0:=ae (f0.o _ r);have g0:=ae (g0.o _ r);have i0:=ae (i0.o _ r)
   go_wp2_with fail
   (with_reducible apply A.mono)
   rintro e w3 ⟨q,v3,hS,d3,rfl,h3⟩;obtain ⟨rfl,h4⟩:=ah.ao.1 h3;have h5:ah w3 (aZ j h*(aN x q d*(al q*F))):=h4.u00;obtain ⟨i,h6⟩:=ah.held.1 h5;have s0:=Aa i h6;have D3:=ae (d2.trans d3);have HS:=ae hS
   by_cases d0:h.n.rw=0
   .have l:=ae (f0.o d0)
    have H4:=ae h4;rw [d0] at s0
    go_wp2_with fail
    go_end0
    refine HQ.o _ _ ?_;rw [l.o];exact ⟨q,_,HS.o,D3.o,rfl,ah.ao.2 ⟨rfl,H4.o⟩⟩
   .have R0:(h.n.rw != 0)=H:=by simpa using d0
    have b0:=ae (PF i h6);have x0:(prog.info? 191).map (·.size)=U (h.row.map (B3 Y)).length:=by rw [J4,i.2];exact me
    have o0:=ae x0;have p0:Value.agg (ints h.row) = .agg (h.row.map (B3 Y)).toArray:=rfl;have H5:=ae h5
    cases e0:h.row.all cT with
    | false=>
     have l:=ae (g0.o d0 e0);have f:=AJ w3 h.row i.2 e0;rw [p0] at f
     go_wp2_with (refine wpList_load_mid (by exact rfl) 191 (.tmp 32) (by exact rfl) j 21 (by exact rfl) (h.row.map (B3 Y)) _ (by with_reducible exact b0.o) underlying191 rfl (by with_reducible exact o0.o) ?_)
     (with_reducible apply f.mono)
     rintro e w4 ⟨rfl,h7,d7⟩;have H7:=h7.cU H5.o
     go_wp2_with fail
     (with_reducible apply (fJ _ 1 De0).mono)
     rintro e w5 ⟨rfl,rfl⟩
     go_wp2_with fail
     exact ⟨rfl,HQ.o _ _ (by rw [l.o];exact ⟨q,HS.o,D3.o.trans d7,rfl,H7.u00⟩)⟩
    | true=>
     have l:=ae (i0.o d0 e0);have f:=xW w3 h.row i.2 e0;rw [p0] at f
     go_wp2_with (refine wpList_load_mid (by exact rfl) 191 (.tmp 32) (by exact rfl) j 21 (by exact rfl) (h.row.map (B3 Y)) _ (by with_reducible exact b0.o) underlying191 rfl (by with_reducible exact o0.o) ?_)
     (with_reducible apply f.mono)
     rintro e w4 ⟨v4,rfl,h7,d7⟩;have H7:=h7.under H5.o;have F0:=H7.ny;have N0:=Aa Hf.o (ah.held.1 H7.right).2;have A:=p9 x w4 q d h.n.rw _ (jW h.row) _ (H7.right.t00 (aN x q d*(al q*(aZ j h*F)))) F0;obtain ⟨⟨l0,S0⟩,r⟩:∃ p,cM h.n.rw (jW h.row) d=p:=⟨_,rfl⟩
     rw [r] at A;have m0:=ae (l.o.trans r)
     go_wp2_with fail
     (with_reducible apply (kF _).mono)
     rintro e w5 ⟨rfl,rfl⟩
     cases l0 with
     | bad c=>
      go_wp2_with fail
      (with_reducible apply A.mono)
      rintro e w5 ⟨S2,k0,d5,rfl,h8⟩
      go_wp2_with fail
      exact ⟨rfl,HQ.o _ _ (by rw [m0.o];exact ⟨S2,HS.o.trans k0,(D3.o.trans d7).trans d5,rfl,h8⟩)⟩
     | ok u=>
      go_wp2_with fail
      (with_reducible apply A.mono)
      rintro e w5 ⟨S2,v5,k0,d5,rfl,h8⟩;obtain ⟨rfl,h9⟩:=ah.ao.1 h8
      go_wp2_with fail
      go_end0
      refine HQ.o _ _ ?_;rw [m0.o];exact ⟨S2,_,HS.o.trans k0,(D3.o.trans d7).trans d5,rfl,ah.ao.2 ⟨rfl,h9⟩⟩
end
end Go.Proofs.Fs
namespace Go.SL
open RowKit
section
variable {σ α:Type}
def nN:WM σ Unit:=fun st=>if st.dt=H then cM 0 (st.bits.getD []) st else (.ok (),st)
def VP (d:iM σ):Rs α × fB σ->Rs α × iM σ
 | (.ok a,st)=>(.ok a,st.b)
 | (.bad c,st)=>(.bad c,{ d with s:=st.b.s })
def eA (m:WM σ α) (d:iM σ):Rs α × iM σ:=VP d ((WM.bind m fun a=>WM.bind nN fun _=>WM.pure a) ⟨d,O,E⟩)
def xI {m:WM σ α} {d:iM σ} {st:fB σ} {c:Int} (h:m ⟨d,O,E⟩=(.bad c,st)):eA m d=(.bad c,{ d with s:=st.b.s }):=by
 unfold eA;rw [WM.bN h];rfl
def Az {m:WM σ α} {d:iM σ} {st:fB σ} {a:α} (h:m ⟨d,O,E⟩=(.ok a,st)) (f:st.dt=E):eA m d=(.ok a,st.b):=by
 have e:(WM.bind nN fun _=>WM.pure a) st=(.ok a,st):=WM.bp (if_neg (by rw [f];decide));unfold eA;rw [WM.bp h,e];rfl
def Io {m:WM σ α} {d:iM σ} {st st':fB σ} {a:α} (h:m ⟨d,O,E⟩=(.ok a,st)) (f:st.dt=H) (i:cM 0 (st.bits.getD []) st=(.ok (),st')):eA m d=(.ok a,st'.b):=by
 have e:(WM.bind nN fun _=>WM.pure a) st=(.ok a,st'):=WM.bp ((if_pos f).trans i);unfold eA;rw [WM.bp h,e];rfl
def Sg {m:WM σ α} {d:iM σ} {st st':fB σ} {a:α} {c:Int} (h:m ⟨d,O,E⟩=(.ok a,st)) (f:st.dt=H) (i:cM 0 (st.bits.getD []) st=(.bad c,st')):eA m d=(.bad c,{ d with s:=st'.b.s }):=by
 have e:(WM.bind nN fun _=>WM.pure a) st=(.bad c,st'):=WM.bN ((if_pos f).trans i);unfold eA;rw [WM.bp h,e];rfl
end
end Go.SL
namespace Go.Proofs.Fs
open RowKit SL Proofs.Ba
variable {S:Hp}
def jO (v:L) (w:M):(Instr.typeAssert (.iface 236 v) 20 236 H).run N w = .ok (G #[v,B H]) w:=by
 simp [Instr.typeAssert,run_underlying underlying236,go_sem,Result.andThen]
section
variable {σ α:Type}
def P4 (w:M) (i j:Addr) :
    CallsD N 183 #[X (U i),X (U j)] .returning w fun e u w'=>e = K (G #[])/\u = .returning/\w=w':=by
  refine callsD_of_wpS func183 rfl fun d l f=>?_;apply wpS_seq;refine wpS_of_wp ?_
  simp only [ntmps183,E5,D7,E4,E3,E2,G3,
     H9,H8,H6,J7,J5]
  go_wp2
  apply wpS_seq;apply wpS_region;simp [wpOpsS,go_sem,recoverD,f,Exit.thenS];refine wpS_of_wp ?_
  go_wp2
  cases d
  simp_all [bodyPostS,results,Tryz.results183]
def ON (w:M) (d f:Addr) (c x y:Int) (i:List PanicEntry) (A:w.cell? d=U (Z Y x)) (S:w.cell? f=U (Z Y y)) (r:w.frozen? d=E) (t:w.frozen? f=E) (b0:d≠f) :
    CallsD N 183 #[X (U d),X (U f)] (.panicking ({ v:=.iface 236 (Z Y c),recovered:=E } :: i)) w fun e u w'=>
      e = K (G #[])/\u = .panicking ({ v:=.iface 236 (Z Y c),recovered:=H } :: i)/\w'=(w.setCell d (Z Y 0)).setCell f (Z Y c):=by
  refine callsD_of_wpS func183 rfl fun q l j=>?_;apply wpS_seq;refine wpS_of_wp ?_
  simp only [ntmps183,E5,D7,E4,E3,E2,G3,
     H9,H8,H6,J7,J5]
  go_wp2
  apply wpS_seq;apply wpS_region;simp [wpOpsS,go_sem,recoverD,j,Exit.thenS];refine wpS_of_wp ?_;have c0:=jO (Z Y c)
  go_wp2
  exact ⟨rfl,_,rfl,_,results_none rfl _ _ _,rfl,rfl,rfl⟩
def Ap (c:Cx σ) (i:Nat) (zero:L) (R:α->L->ai) (S:Hp) (F:ai) (w:M):Rs α × iM σ->Ending->M->Prop
 | (.ok a,f),e,w'=>∃ d v,Ext S d/\ak w w'/\e = K (G #[v,Z Y 0])/\ah w' (R a v*(eu c d i f*(al d*F)))
 | (.bad n,f),e,w'=>∃ d,Ext S d/\ak w w'/\e = K (G #[zero,Z Y n])/\ah w' (eu c d i f*(al d*F))
def GL (c:Cx σ) (n:Nat) (f:FuncId) (e:Array L) (R:α->L->ai) (d:ai) (m:WM σ α):Prop:=
 ∀ (x:Wk σ) (w:M) (S:Hp) (st:fB σ) (F:ai),x.c=c->x.n=n->ah w (aN x S st*(al S*(d*F)))->Calls N f (#[X (U ⟨x.k,0,O⟩)]++e) w (WQ x R S (d*F) w (m st))
def iH (d n:Nat):L:=.agg #[X (U ⟨d,0,O⟩),Z Y (n:Int)]
def qH {w:M} {tmps:Array L} {a b:Nat} {v e:L} (h4:tmps[4]?=U (ax a)) (h5:tmps[5]?=U (ax b)) (d:w.cell? ⟨a,0,O⟩=U v) (f:w.cell? ⟨b,0,O⟩=U e) :
  (results Tryz.f105 tmps).run N w = .ok (G #[v,e]) w:=by
 simp [results,Tryz.results105,h4,h5,go_sem,d,f]
def RM {w:M} {x:Wk σ} {st:fB σ} {F:ai} (h:ah w (aN x S st*F)):ah w (x.c.RI st.b.s*F):=by
 obtain ⟨v,d⟩:=ah.iS h;have e:ah w ((pt x.k (V (x.cells v st.dt) 162 (0,0))*(aR 211 5 S x.b x.c.rd st.b.err st.b.W st.b.D*fG st.bits v))*(x.c.RI st.b.s*F)):=d.to (by unfold cD eu;ac_rfl);exact e.right
def MX {w:M} {c:Cx σ} {S e:Hp} {f:Nat} {d:iM σ} {s:σ} {F:ai} (i:Ext S e) (h:ah w (c.RI s*(aR 211 5 S f c.rd d.err d.W d.D*F))):ah w (eu c e f { d with s:=s }*F):=
 ((h.aj).ib (n8 i)).to (by unfold eu;ac_rfl)
def Sw {w:M} {c:Cx σ} {n k f:Nat} {d:iM σ} {F:ai} (h:ah w (pt k (V #[X (U ⟨f,0,O⟩),Z Y (n:Int),I O 0 0,B E] 162 (0,0))*(aR 211 5 S f c.rd d.err d.W d.D*(c.RI d.s*F)))) :
  ah w (aN (⟨c,n,k,f⟩:Wk σ) S ⟨d,O,E⟩*F):=
 ah.jz (I O 0 0) ((ah.Ib h).to (by unfold cD eu Wk.cells;ac_rfl))
def Jo {w:M} {tmps:Array L} {ab eb:Nat} {y z c:Int} {P:ai} {R:Ending->M->Prop} (h4:tmps[4]?=U (ax ab)) (h5:tmps[5]?=U (ax eb))
  (h:ah w (pt ab (V #[Z Y y] 3 (0,0))*(pt eb (V #[Z Y z] 31 (0,0))*P))) (hR:∀ w',ah w' P->ak w w'->R (K (G #[Z Y 0,Z Y c])) w') :
  bodyPostD N Tryz.f105 R (Exit.panic (Kf c)) { tmps:=tmps,defers:=[{ target:=.fn (.func 183) #[X (U ⟨ab,0,O⟩),X (U ⟨eb,0,O⟩)],args:=#[] }] } w:=by
 have f:=ah.ne h;refine leaves_cons (f:=183) (args:=#[X (U ⟨ab,0,O⟩),X (U ⟨eb,0,O⟩)]) Si0 (by simp [go_sem]) ?_;refine (ON w ⟨ab,0,O⟩ ⟨eb,0,O⟩ c y z [] (h.cell 0) (h.aj.cell 0) (h.frozen 0) (h.aj.frozen 0) (by intro h;injection h with h;exact f h)).mono ?_;rintro e u i ⟨rfl,rfl,rfl⟩;have d:=((h.setCell 0 (Z Y 0)).aj.setCell 0 (Z Y c))
 exact ⟨_,qH h4 h5 (d.aj.cell 0) (d.cell 0),hR _ d.right.right (((ak.refl w).setCell _ _).setCell _ _)⟩
def LF {w:M} {tmps:Array L} {ab eb:Nat} {v z:L} {R:Ending->M->Prop} (h4:tmps[4]?=U (ax ab)) (h5:tmps[5]?=U (ax eb))
  (d:w.cell? ⟨ab,0,O⟩=U v) (f:w.cell? ⟨eb,0,O⟩=U z) (hR:R (K (G #[v,z])) w) :
  bodyPostD N Tryz.f105 R Exit.ret { tmps:=tmps,defers:=[{ target:=.fn (.func 183) #[X (U ⟨ab,0,O⟩),X (U ⟨eb,0,O⟩)],args:=#[] }] } w:=by
 refine leaves_cons (f:=183) (args:=#[X (U ⟨ab,0,O⟩),X (U ⟨eb,0,O⟩)]) Si0 (by simp [go_sem]) ?_;apply (P4 w ⟨ab,0,O⟩ ⟨eb,0,O⟩).mono;rintro e u i ⟨rfl,rfl,rfl⟩;exact ⟨_,qH h4 h5 d f,hR⟩
def TX {w:M} {o:Option (List UInt8)} {v:L} {F:ai} (h:ah w (fG o v*F)):Rd w v (o.getD []):=by
 rcases ah.oS h with ⟨rfl,rfl,_⟩|⟨l,rfl,_,d⟩
 .exact ⟨rfl,.inl ⟨rfl,rfl⟩⟩
 .exact d.ny
end
section
variable {P:Program} {ops:Array Oper} {rest:List Oper} {o:Oper} {a:Act} {w w':M} {Q:Exit->Act->M->Prop} {T:TypeId} {v:L} {g:Nat}
def Ft (i:(Instr.alloc T H (G #[])).run P w = .ok v w') (e:o.guard=O) (f:o.op = .alloc T) (h:wpList P ops Q rest (a.put o.dst v) w'):wpList P ops Q (o :: rest) a w:=
 wpList_plain e fun _ d=>by
  unfold Oper.wp execOp;simp only [f,i,Sem.run_bind,Sem.run_pure,Result.andThen_ok];exact d _ _ h
def LO (x:Operand) (i:(loadVar T ⟨g,0,O⟩).run P w = .ok v w) (e:o.guard=O) (f:o.op = .load T x) (j:a.eval x = X (U ⟨g,0,O⟩)) (h:wpList P ops Q rest (a.put o.dst v) w):wpList P ops Q (o :: rest) a w:=
 wpList_plain e fun _ d=>by
  unfold Oper.wp execOp;simp only [f,j,Instr.loadAt,Instr.sureAddr,i,Sem.run_bind,Sem.run_pure,Result.andThen_ok];exact d _ _ h
def vB (x y:Operand) (i:(storeVar T ⟨g,0,O⟩ v).run P w = .ok () w') (e:o.guard=O) (f:o.op = .store T x y) (j:a.eval x = X (U ⟨g,0,O⟩)) (hy:a.eval y=v) (h:wpList P ops Q rest (a.put o.dst undef) w'):wpList P ops Q (o :: rest) a w:=
 wpList_plain e fun _ d=>by
  unfold Oper.wp execOp;simp only [f,j,hy,Instr.storeAt,Instr.sureAddr,i,Sem.run_bind,Sem.run_pure,Result.andThen_ok];exact d _ _ h
end
def Yj (T D J:Nat) (o:Oper):Oper:={ o with type:=if o.type=113 then T else if o.type=279 then J else o.type,op:=match o.op with | .alloc t=>.alloc (if t=113 then T else t) | .load t x=>.load (if t=113 then T else t) x | .store t x y=>.store (if t=113 then T else t) x y | .makeFunc (.func d) a b=>.makeFunc (.func (if d=274 then D else d)) a b|x=>x }
def vN (T D J:Nat):Code->Code
 | .region i ops d=>.region i (ops.map (Yj T D J)) d
 | .seq a b=>.seq (vN T D J a) (vN T D J b)
 | .cond c a b=>.cond c (vN T D J a) (vN T D J b)
 | .block i a=>.block i (vN T D J a)
 | c=>c
noncomputable def runU:Code:=match Tryz.f215.body with|some c=>c|none=>.skip
def SS (D ab eb:Nat):List Deferred:=[{ target:=.fn (.func D) #[X (U ⟨ab,0,O⟩),X (U ⟨eb,0,O⟩)],args:=#[] }]
structure Wl {α:Type} (fid T D J:Nat) (fn:Func) (zv:Value) (R:α->Value->ai) (C:Value->Array Value) (Ok:Value->Prop):Prop where
 func:prog.funcs[fid]?=some fn
 body:fn.body=some (vN T D J runU)
 ntmps:fn.ntmps=50
 new:∀ w,(Instr.alloc T true (.tuple #[])).run prog w = .ok (ax w.heap.size) (w.alloc (.cells (C zv) T (0,0)))
 Vx:Ok zv
 ok:∀ {w a v F},ah w (R a v*F)->Ok v
 st:∀ {w g u v},Ok u->Ok v->w.heap[g]?=some (.cells (C u) T (0,0))->(storeVar T ⟨g,0,none⟩ v).run prog w = .ok () (w.setRow g (C v))
 ld:∀ {w g v},Ok v->w.heap[g]?=some (.cells (C v) T (0,0))->(loadVar T ⟨g,0,none⟩).run prog w = .ok v w
 Vs:∀ {w tmps ab eb y z c P R'},tmps[4]?=some (ax ab)->tmps[5]?=some (ax eb)->Ok y->ah w (pt ab (.cells (C y) T (0,0))*(pt eb (.cells #[.int .i64 z] 31 (0,0))*P))->(∀ w',ah w' P->ak w w'->R' (.returned (.tuple #[zv,.int .i64 c])) w')->bodyPostD prog fn R' (Exit.panic (Kf c)) { tmps:=tmps,defers:=SS D ab eb } w
 ret:∀ {w tmps ab eb v z P R'},tmps[4]?=some (ax ab)->tmps[5]?=some (ax eb)->Ok v->ah w (pt ab (.cells (C v) T (0,0))*(pt eb (.cells #[.int .i64 z] 31 (0,0))*P))->(∀ w',ah w' P->ak w w'->R' (.returned (.tuple #[v,.int .i64 z])) w')->bodyPostD prog fn R' Exit.ret { tmps:=tmps,defers:=SS D ab eb } w
section
variable {σ α:Type} {fid T D J:Nat} {fn:Func} {zv:L} {R:α->L->ai} {C:L->Array L} {Ok:L->Prop}
def XW (T A ab eb k f q n:Nat) (c:Cx σ) (j:Hp) (m:WM σ α) (e:iM σ) (a:α) (R:α->L->ai) (C:L->Array L) (r:L) (dt:Bool) (o:Option (List UInt8)) (x:ai) (w t:M):Prop:=
 ∃ (i:Hp) (d:fB σ) (l:L),Ext j i/\eA m e=(.ok a,d.b)/\ak w t/\ah t (aR 211 5 j q c.rd e.err e.W e.D*(aR 211 5 i f c.rd d.b.err d.b.W d.b.D*(al i*(c.RI d.b.s*(pt ab (V (C r) T (0,0))*(pt eb (V #[Z Y 0] 31 (0,0))*(pt A (V #[X (U ⟨q,0,O⟩),Z Y (n:Int)] 85 (0,0))*(pt k (V #[X (U ⟨f,0,O⟩),Z Y (n:Int),l,B dt] 162 (0,0))*(fG o l*(R a r*x))))))))))
def uJ (g0:Wl fid T D J fn zv R C Ok) (c:Cx σ) (hc:c.Ok) (n:Nat) (l1:4<=n) (m1:n<=3840) (jf:FuncId) (W0:Array L) (t:ai) (m:WM σ α)
    (lV:∀ (args:Array L) (w:M),(callFunc jf args).run N w = .ok (.enter jf args) w) (hj:GL c n jf W0 R t m)
    (e:Nat) (d:iM σ) (w:M) (f0:Hp) (F:ai) (h:ah w (eu c f0 e d*(al f0*(t*F)))) (Q:Ending->M->Prop)
    (hQ:∀ b0 w',Ap c e zv R f0 (t*F) w (eA m d) b0 w'->Q b0 w') :
    Calls N fid #[iH e n,.func (.func jf) #[] W0] w Q:=by
  have HQ:=ae hQ;have p1:=oq N;have q1:¬ ((n:Int)<4):=Om0
  have r1:¬ ((n:Int) > 3840):=Om0
  have Hj:=ae hj;have S:=ae g0;have H3:=((h.alloc (V #[X (U ⟨e,0,O⟩),Z Y (n:Int)] 85 (0,0))).alloc (V (C zv) T (0,0))).alloc (V #[Z Y 0] 31 (0,0));have D3:=ae ((((ak.refl w).alloc (V #[X (U ⟨e,0,O⟩),Z Y (n:Int)] 85 (0,0))).alloc (V (C zv) T (0,0))).alloc (V #[Z Y 0] 31 (0,0)));simp only [L5] at H3;unfold iH;refine calls_of_wp_defers g0.func g0.body ?_;rw [g0.ntmps]
  simp only [runU,Tryz.f215,vN,Yj,List.map_toArray,L4,List.map_nil,if_true,if_false,Nat.reduceEqDiff,reduceIte,E5,D7,E4,E3,E2,G3,
     H9,H8,H6,J7,J5]
  clear hQ hj g0 h l1 m1
  go_wp2_with (refine Ft (S.o.new _) rfl rfl ?_)
  generalize ((w.alloc (V #[X (U ⟨e,0,O⟩),Z Y (n:Int)] 85 (0,0))).alloc (V (C zv) T (0,0))).alloc (V #[Z Y 0] 31 (0,0))=w3 at H3 D3 ⊢;generalize w.heap.size+1+1=eb at *;generalize w.heap.size+1=ab at *;generalize w.heap.size=q at *;have s0:=H3.au.cell 0;have s1:=H3.au.cell 1;have b1:=ae (M4 w3.drew f0 e c.rd d.err d.W d.D _ (H3.to (by unfold eu;ac_rfl:_=aR 211 5 f0 e c.rd d.err d.W d.D*(al f0*(c.RI d.s*(pt eb (V #[Z Y 0] 31 (0,0))*(pt ab (V (C zv) T (0,0))*(pt q (V #[X (U ⟨e,0,O⟩),Z Y (n:Int)] 85 (0,0))*(t*F)))))))).drew ⟨_,_,rfl⟩);clear H3
  go_region_held3 (fun w'=>w'.cell? ⟨q,0,O⟩=U (X (U ⟨e,0,O⟩))/\w'.cell? ⟨q,1,O⟩=U (Z Y (n:Int)))
    (first|exact ⟨s0,s1⟩|exact m0|go_keep)
    (first|(go_at_call 184;apply (b1.o).mono;rintro b0 w4 ⟨S1,f,R0,rfl,h4,d4⟩;have m0:w4.cell? ⟨q,0,O⟩=U (X (U ⟨e,0,O⟩))/\w4.cell? ⟨q,1,O⟩=U (Z Y (n:Int)):=⟨h4.eN.cell 0,h4.eN.cell 1⟩))
  have D5:=ae ((D3.o.drew.trans d4).alloc (V #[X (U ⟨f,0,O⟩),Z Y (n:Int),I O 0 0,B E] 162 (0,0)));have r0:=Hj.o ⟨c,n,w4.heap.size,f⟩ _ S1 ⟨d,O,E⟩ _ rfl rfl (Sw ((h4.alloc (V #[X (U ⟨f,0,O⟩),Z Y (n:Int),I O 0 0,B E] 162 (0,0))).u00):ah _ (aN (⟨c,n,w4.heap.size,f⟩:Wk σ) S1 ⟨d,O,E⟩*(al S1*(t*(aR 211 5 S1 e c.rd d.err d.W d.D*(pt eb (V #[Z Y 0] 31 (0,0))*(pt ab (V (C zv) T (0,0))*(pt q (V #[X (U ⟨e,0,O⟩),Z Y (n:Int)] 85 (0,0))*F))))))));rename_i n1;generalize w4.heap.size=k at *;obtain ⟨⟨F0,i⟩,hp⟩:∃ p,m ⟨d,O,E⟩=p:=⟨_,rfl⟩
  rw [hp] at r0;clear b1 h4 d4 D3 Hj s0 s1 m0
  cases F0 with
  | bad cN=>
    have HE:=ae (xI hp);clear hp
    go_wp2_with fail
    (with_reducible apply r0.mono)
    rintro b0 w6 ⟨x,l0,d6,rfl,h6⟩;have h9:=MX l0 ((RM h6).t00 (pt q (V #[X (U ⟨e,0,O⟩),Z Y (n:Int)] 85 (0,0))*(c.RI i.b.s*(aR 211 5 S1 e c.rd d.err d.W d.D*(pt eb (V #[Z Y 0] 31 (0,0))*(pt ab (V (C zv) T (0,0))*(al x*(t*F)))))))).right
    go_wp2_with fail
    exact S.o.Vs rfl rfl S.o.Vx (h9.t00 (pt ab (V (C zv) T (0,0))*(pt eb (V #[Z Y 0] 31 (0,0))*(eu c x e { d with s:=i.b.s }*(al x*(t*F)))))) fun w' L0 K0=>HQ.o _ _ (by rw [HE.o];exact ⟨x,R0.trans l0,(D5.o.trans d6).trans K0,rfl,L0⟩)
  | ok a=>
    go_wp2_with fail
    (with_reducible apply r0.mono)
    rintro b0 w6 ⟨x,j,l0,d6,rfl,h6⟩;have T0:=S.o.ok h6;obtain ⟨bv,h8⟩:=ah.iS (h6.t00 (aN (⟨c,n,k,f⟩:Wk σ) x i*(R a j*(al x*(t*(aR 211 5 S1 e c.rd d.err d.W d.D*(pt eb (V #[Z Y 0] 31 (0,0))*(pt ab (V (C zv) T (0,0))*(pt q (V #[X (U ⟨e,0,O⟩),Z Y (n:Int)] 85 (0,0))*F)))))))));obtain ⟨dt,S0⟩:=Nm i.dt
    have h9:ah w6 (pt ab (V (C zv) T (0,0))*(pt eb (V #[Z Y 0] 31 (0,0))*(pt q (V #[X (U ⟨e,0,O⟩),Z Y (n:Int)] 85 (0,0))*(pt k (V #[X (U ⟨f,0,O⟩),Z Y (n:Int),bv,B dt] 162 (0,0))*(eu c x f i.b*(fG i.bits bv*(al x*(aR 211 5 S1 e c.rd d.err d.W d.D*(R a j*(t*F)))))))))):=h8.to (by unfold cD Wk.cells;rw [S0];ac_rfl);have x0:=S.o.st S.o.Vx T0 h9.heap;have A:=h9.setRow (cs':=(C j));have n0:=ae ((D5.o.trans d6).setRow ab (C j));have k3:=A.aC.cell 3;have h0:=ae T0;have HP:=ae hp;have d0:=ae A;have i0:=ae l0;clear h8 h9 D5 d6 r0 h6 T0 hp A l0
    go_upto_if 35 with (refine vB (.tmp 4) (.tmp 31) x0 rfl rfl rfl rfl ?_)
    clear x0;generalize w6.setRow ab (C j)=w7 at *
    go_cut [] from 36 to 41 (fun wx=>XW T q ab eb k f e n c S1 m d a R C j dt i.bits (t*F) w wx)
    case first=>
      have V0:=TX d0.o.et;have k2:=d0.o.aC.cell 2;have e0:=ae S0;clear S0
      cases dt with
      | false=>
        go_wp2_with fail
        go_meet
        exact ⟨x,i,bv,i0.o,Az HP.o e0.o,n0.o,d0.o.to (by unfold eu;ac_rfl)⟩
      | true=>
        have G0:=ae fun st'=>Io (st':=st') HP.o e0.o;have H0:=ae fun st' c=>Sg (st':=st') (c:=c) HP.o e0.o;have D0:=vJ (⟨c,n,k,f⟩:Wk σ) _ bv x i 0 bv (i.bits.getD []) _ (d0.o.to (by unfold cD Wk.cells;rw [e0.o];ac_rfl:_=cD (⟨c,n,k,f⟩:Wk σ) bv x i*(al x*(fG i.bits bv*(pt ab (V (C j) T (0,0))*(pt eb (V #[Z Y 0] 31 (0,0))*(pt q (V #[X (U ⟨e,0,O⟩),Z Y (n:Int)] 85 (0,0))*(aR 211 5 S1 e c.rd d.err d.W d.D*(R a j*(t*F)))))))))) V0;obtain ⟨va,vl,vc,rfl⟩:∃ a l c,bv = I a l c:=by obtain ⟨a,c,b0⟩:=V0.shape;exact ⟨_,_,_,b0⟩
        have a1:∀ st' F0,cM 0 (i.bits.getD []) i=(F0,st')->st'.dt=H:=fun st' F0 h=>by
          unfold cM at h
          split at h
          · simp only [Prod.mk.injEq] at h;rw [<- h.2];exact e0.o
          · simp only [Prod.mk.injEq] at h;rw [<- h.2];exact e0.o
        obtain ⟨⟨r2,r⟩,u0⟩:∃ p,cM 0 (i.bits.getD []) i=p:=⟨_,rfl⟩
        rw [u0] at D0;have h1:=ae (a1 _ _ u0);have o0:=ae u0;clear V0 a1 u0 d0
        cases r2 with
        | bad cN=>
          have HE:=ae (H0.o _ _ o0.o);clear G0 H0 o0
          go_wp2_with fail
          (with_reducible apply D0.mono)
          rintro b0 w8 ⟨S3,c0,d8,rfl,p0⟩;have N0:=MX (i0.o.trans c0) (p0.to (by unfold cD eu;ac_rfl:_=(pt k (V ((⟨c,n,k,f⟩:Wk σ).cells (I va vl vc) r.dt) 162 (0,0))*(aR 211 5 S3 f c.rd r.b.err r.b.W r.b.D*(pt q (V #[X (U ⟨e,0,O⟩),Z Y (n:Int)] 85 (0,0))*(fG i.bits (I va vl vc)*R a j))))*(c.RI r.b.s*(aR 211 5 S1 e c.rd d.err d.W d.D*(pt ab (V (C j) T (0,0))*(pt eb (V #[Z Y 0] 31 (0,0))*(al S3*(t*F)))))))).right
          go_wp2_with fail
          exact S.o.Vs rfl rfl h0.o (N0.t00 (pt ab (V (C j) T (0,0))*(pt eb (V #[Z Y 0] 31 (0,0))*(eu c S3 e { d with s:=r.b.s }*(al S3*(t*F)))))) fun w' L0 K0=>HQ.o _ _ (by rw [HE.o];exact ⟨S3,R0.trans (i0.o.trans c0),(n0.o.trans d8).trans K0,rfl,L0⟩)
        | ok u=>
          have HE:=ae (G0.o _ o0.o);clear G0 H0 o0
          go_wp2_with fail
          (with_reducible apply D0.mono)
          rintro b0 w8 ⟨S3,v8,c0,d8,rfl,p0⟩;obtain ⟨rfl,Y0⟩:=ah.ao.1 p0;have N0:=ae Y0;have D8:=ae (n0.o.trans d8);have j1:=ae (i0.o.trans c0);clear D0 p0 Y0 d8 c0
          go_wp2_with fail
          go_meet
          exact ⟨S3,r,_,j1.o,HE.o,D8.o,N0.o.to (by unfold cD Wk.cells eu;rw [h1.o];ac_rfl)⟩
    case rest=>
      obtain ⟨S3,r,bw,c0,HE,hD,A⟩:=hcut;have q0:=A.ib (n8 c0);have s0:=q0.eN.cell 0;have k0:=q0.mE.cell 0;have c1:=ae (Px wc.drew S3 e f c.rd c.rd r.b.err d.err r.b.W r.b.D d.W d.D _ q0.drew ⟨_,_,rfl⟩);have HE:=ae HE;have HD:=ae hD;have f1:=ae c0;clear A q0 hD c0 d0 n0 k3 HP i0
      go_wp2_with fail
      go_region_held3 (fun w'=>w'.cell? ⟨q,0,O⟩=U (X (U ⟨e,0,O⟩))/\w'.cell? ⟨k,0,O⟩=U (X (U ⟨f,0,O⟩)))
        (first|exact ⟨s0,k0⟩|exact m0|go_keep)
        (first|(go_at_call 185;apply (c1.o).mono;rintro b0 w8 ⟨S5,Z0,rfl,h8,d8⟩;have m0:w8.cell? ⟨q,0,O⟩=U (X (U ⟨e,0,O⟩))/\w8.cell? ⟨k,0,O⟩=U (X (U ⟨f,0,O⟩)):=⟨h8.eN.cell 0,h8.mE.cell 0⟩))
      all_goals
        rename_i o1;have h9:ah w8 (pt ab (V (C j) T (0,0))*(pt eb (V #[Z Y 0] 31 (0,0))*((eu c S5 e r.b*(al S5*(R a j*(t*F))))*(pt q (V #[X (U ⟨e,0,O⟩),Z Y (n:Int)] 85 (0,0))*(pt k (V #[X (U ⟨f,0,O⟩),Z Y (n:Int),bw,B dt] 162 (0,0))*(aR 211 5 S5 f c.rd r.b.err r.b.W r.b.D*fG i.bits bw)))))):=h8.to (by unfold eu;ac_rfl);have k1:=S.o.ld h0.o h9.heap;have x0:=S.o.st h0.o h0.o h9.heap;have A:=(h9.setRow (cs':=C j)).aj;have e9:=A.cell 0;have g9:=A.frozen 0;have d1:=ae (A.setCell 0 (Z Y 0)).aj;have e1:=ae (((HD.o.drew.trans d8).setRow ab (C j)).setCell ⟨eb,0,O⟩ (Z Y 0));have g1:=ae (R0.trans (f1.o.trans Z0));clear h8 h9 A d8 Z0 c1 m0 s0 k0
        go_wp2_with (first|refine LO (.tmp 4) k1 rfl rfl rfl ?_|refine vB (.tmp 4) (.tmp 49) x0 rfl rfl rfl rfl ?_)
        exact S.o.ret rfl rfl h0.o d1.o fun w' h i1=>HQ.o _ _ (by rw [HE.o];exact ⟨S5,j,g1.o,e1.o.trans i1,rfl,h.left.u00⟩)
end
section
variable {σ α:Type}
def NC (w:M) (i j:Addr) :
    CallsD N 253 #[X (U i),X (U j)] .returning w fun e u w'=>e = K (G #[])/\u = .returning/\w=w':=by
  refine callsD_of_wpS func253 rfl fun d l f=>?_;apply wpS_seq;refine wpS_of_wp ?_
  simp only [ntmps253,E5,D7,E4,E3,E2,G3,
     H9,H8,H6,J7,J5]
  go_wp2
  apply wpS_seq;apply wpS_region;simp [wpOpsS,go_sem,recoverD,f,Exit.thenS];refine wpS_of_wp ?_
  go_wp2
  cases d
  simp_all [bodyPostS,results,Tryz.results253]
def Nl (w:M) (d f:Addr) (c y:Int) (x:L) (i:List PanicEntry) (A:w.cell? d=U x) (hx:x = I O 0 0\/∃ a n c,x = I a n c) (S:w.cell? f=U (Z Y y)) (r:w.frozen? d=E) (t:w.frozen? f=E) (b0:d≠f) :
    CallsD N 253 #[X (U d),X (U f)] (.panicking ({ v:=.iface 236 (Z Y c),recovered:=E } :: i)) w fun e u w'=>
      e = K (G #[])/\u = .panicking ({ v:=.iface 236 (Z Y c),recovered:=H } :: i)/\w'=(w.setCell d (I O 0 0)).setCell f (Z Y c):=by
  refine callsD_of_wpS func253 rfl fun q l j=>?_;apply wpS_seq;refine wpS_of_wp ?_
  simp only [ntmps253,E5,D7,E4,E3,E2,G3,
     H9,H8,H6,J7,J5]
  go_wp2
  apply wpS_seq;apply wpS_region;simp [wpOpsS,go_sem,recoverD,j,Exit.thenS];refine wpS_of_wp ?_;have c0:=jO (Z Y c)
  go_wp2
  exact ⟨rfl,_,rfl,_,results_none rfl _ _ _,rfl,rfl,rfl⟩
def rM {w:M} {tmps:Array L} {a b:Nat} {v e:L} (h4:tmps[4]?=U (ax a)) (h5:tmps[5]?=U (ax b)) (d:w.cell? ⟨a,0,O⟩=U v) (f:w.cell? ⟨b,0,O⟩=U e) :
  (results Tryz.f180 tmps).run N w = .ok (G #[v,e]) w:=by
 simp [results,Tryz.results180,h4,h5,go_sem,d,f]
def KL {w:M} {tmps:Array L} {ab eb:Nat} {y:L} {z c:Int} {P:ai} {R:Ending->M->Prop} (h4:tmps[4]?=U (ax ab)) (h5:tmps[5]?=U (ax eb))
  (h:ah w (pt ab (V #[y] 23 (0,0))*(pt eb (V #[Z Y z] 31 (0,0))*P))) (hy:y = I O 0 0\/∃ a n c,y = I a n c) (hR:∀ w',ah w' P->ak w w'->R (K (G #[I O 0 0,Z Y c])) w') :
  bodyPostD N Tryz.f180 R (Exit.panic (Kf c)) { tmps:=tmps,defers:=[{ target:=.fn (.func 253) #[X (U ⟨ab,0,O⟩),X (U ⟨eb,0,O⟩)],args:=#[] }] } w:=by
 have f:=ah.ne h;refine leaves_cons (f:=253) (args:=#[X (U ⟨ab,0,O⟩),X (U ⟨eb,0,O⟩)]) Si0 (by simp [go_sem]) ?_;refine (Nl w ⟨ab,0,O⟩ ⟨eb,0,O⟩ c z y [] (h.cell 0) hy (h.aj.cell 0) (h.frozen 0) (h.aj.frozen 0) (by intro h;injection h with h;exact f h)).mono ?_;rintro e u i ⟨rfl,rfl,rfl⟩;have d:=((h.setCell 0 (I O 0 0)).aj.setCell 0 (Z Y c))
 exact ⟨_,rM h4 h5 (d.aj.cell 0) (d.cell 0),hR _ d.right.right (((ak.refl w).setCell _ _).setCell _ _)⟩
def Jq {w:M} {tmps:Array L} {ab eb:Nat} {v z:L} {R:Ending->M->Prop} (h4:tmps[4]?=U (ax ab)) (h5:tmps[5]?=U (ax eb))
  (d:w.cell? ⟨ab,0,O⟩=U v) (f:w.cell? ⟨eb,0,O⟩=U z) (hR:R (K (G #[v,z])) w) :
  bodyPostD N Tryz.f180 R Exit.ret { tmps:=tmps,defers:=[{ target:=.fn (.func 253) #[X (U ⟨ab,0,O⟩),X (U ⟨eb,0,O⟩)],args:=#[] }] } w:=by
 refine leaves_cons (f:=253) (args:=#[X (U ⟨ab,0,O⟩),X (U ⟨eb,0,O⟩)]) Si0 (by simp [go_sem]) ?_;apply (NC w ⟨ab,0,O⟩ ⟨eb,0,O⟩).mono;rintro e u i ⟨rfl,rfl,rfl⟩;exact ⟨_,rM h4 h5 d f,hR⟩
def gu:(prog.info? 113).map (·.size)=U 0:=Kr0
def N6 (w:M) (i:Nat) (j:Addr) :
    CallsD N 274 #[X (U ⟨i,0,O⟩),X (U j)] .returning w fun e u w'=>e = K (G #[])/\u = .returning/\w'=w.alloc (V #[] 113 (0,0)):=by
  refine callsD_of_wpS func274 rfl fun d l f=>?_;apply wpS_seq;refine wpS_of_wp ?_
  simp only [ntmps274,E5,D7,E4,E3,E2,G3,
     H9,H8,H6,J7,J5]
  go_wp2
  apply wpS_seq;apply wpS_region;simp [wpOpsS,go_sem,recoverD,f,Exit.thenS];refine wpS_of_wp ?_
  go_wp2
  cases d
  simp_all [bodyPostS,results,Tryz.results274]
def NY (w:M) (f eb:Nat) (c y:Int) (d:List PanicEntry) (t:w.cell? ⟨eb,0,O⟩=U (Z Y y)) (r:w.frozen? ⟨eb,0,O⟩=E) (x:eb<w.heap.size) :
    CallsD N 274 #[X (U ⟨f,0,O⟩),X (U ⟨eb,0,O⟩)] (.panicking ({ v:=.iface 236 (Z Y c),recovered:=E } :: d)) w fun e u w'=>
      e = K (G #[])/\u = .panicking ({ v:=.iface 236 (Z Y c),recovered:=H } :: d)/\w'=(w.setCell ⟨eb,0,O⟩ (Z Y c)).alloc (V #[] 113 (0,0)):=by
  refine callsD_of_wpS func274 rfl fun q l i=>?_;apply wpS_seq;refine wpS_of_wp ?_
  simp only [ntmps274,E5,D7,E4,E3,E2,G3,
     H9,H8,H6,J7,J5]
  go_wp2
  apply wpS_seq;apply wpS_region;simp [wpOpsS,go_sem,recoverD,i,Exit.thenS];refine wpS_of_wp ?_;have A:=jO (Z Y c)
  go_wp2_with (first|(refine wpList_load_mid (by exact rfl) 113 (.tmp 2) (by exact rfl) w.heap.size 0 (by exact rfl) [] _ (by exact fun j v h=>by cases h) underlying113 rfl (by exact gu) ?_)|(refine wpList_store_mid (by exact rfl) 113 (.tmp 0) (.tmp 12) (by exact rfl) f 0 #[] (by exact rfl) (by exact rfl) (by exact fun j h=>absurd h (K9 _)) (by exact gu) (by exact rfl) ?_))
  exact ⟨rfl,_,rfl,_,results_none rfl _ _ _,rfl,rfl,rfl⟩
def rV {w:M} {tmps:Array L} {a b:Nat} {e:L} {F:ai} (h4:tmps[4]?=U (ax a)) (h5:tmps[5]?=U (ax b)) (d:ah w (pt a (V #[] 113 (0,0))*F)) (f:w.cell? ⟨b,0,O⟩=U e) :
  (results Tryz.f215 tmps).run N w = .ok (G #[.agg #[],e]) w:=by
 have i:=run_loadVar_row (P:=N) w a 113 113 #[] (0,0) _ d.heap underlying113 rfl gu;simp [results,Tryz.results215,h4,h5,go_sem,asAddr,i,f]
def Li {w:M} {tmps:Array L} {ab eb:Nat} {z c:Int} {P:ai} {R:Ending->M->Prop} (h4:tmps[4]?=U (ax ab)) (h5:tmps[5]?=U (ax eb))
  (h:ah w (pt ab (V #[] 113 (0,0))*(pt eb (V #[Z Y z] 31 (0,0))*P))) (hR:∀ w',ah w' P->ak w w'->R (K (G #[.agg #[],Z Y c])) w') :
  bodyPostD N Tryz.f215 R (Exit.panic (Kf c)) { tmps:=tmps,defers:=[{ target:=.fn (.func 274) #[X (U ⟨ab,0,O⟩),X (U ⟨eb,0,O⟩)],args:=#[] }] } w:=by
 refine leaves_cons (f:=274) (args:=#[X (U ⟨ab,0,O⟩),X (U ⟨eb,0,O⟩)]) Si0 (by simp [go_sem]) ?_;apply (NY w ab eb c z [] (h.aj.cell 0) (h.aj.frozen 0) h.aj.lt).mono;rintro e u f ⟨rfl,rfl,rfl⟩;have d:=((h.aj.setCell 0 (Z Y c)).alloc (V #[] 113 (0,0))).right;exact ⟨_,rV h4 h5 d.aj (d.cell 0),hR _ d.right.right (((ak.refl w).setCell _ _).alloc _)⟩
def Jh {w:M} {tmps:Array L} {ab eb:Nat} {z:Int} {P:ai} {R:Ending->M->Prop} (h4:tmps[4]?=U (ax ab)) (h5:tmps[5]?=U (ax eb))
  (h:ah w (pt ab (V #[] 113 (0,0))*(pt eb (V #[Z Y z] 31 (0,0))*P))) (hR:∀ w',ah w' P->ak w w'->R (K (G #[.agg #[],Z Y z])) w') :
  bodyPostD N Tryz.f215 R Exit.ret { tmps:=tmps,defers:=[{ target:=.fn (.func 274) #[X (U ⟨ab,0,O⟩),X (U ⟨eb,0,O⟩)],args:=#[] }] } w:=by
 refine leaves_cons (f:=274) (args:=#[X (U ⟨ab,0,O⟩),X (U ⟨eb,0,O⟩)]) Si0 (by simp [go_sem]) ?_;apply (N6 w ab ⟨eb,0,O⟩).mono;rintro e u f ⟨rfl,rfl,rfl⟩;have d:=(h.alloc (V #[] 113 (0,0))).right;exact ⟨_,rV h4 h5 d (d.aj.cell 0),hR _ d.right.right ((ak.refl w).alloc _)⟩
def G5 (a:Unit) (v:L):ai:=fact (v = .agg #[])
def Nx (w:M) (i:Nat) (j:Addr) :
    CallsD N 245 #[X (U ⟨i,0,O⟩),X (U j)] .returning w fun e u w'=>e = K (G #[])/\u = .returning/\w'=w.alloc (V #[Z Y 0,Z Y 0,Z Y 0,Z Y 0,Z Y 0,Z Y 0,Z Y 0,Z Y 0,Z Y 0,Z Y 0,Z Y 0,Z Y 0,Z Y 0,Z Y 0,Z Y 0,Z Y 0,Z Y 0,Z Y 0,Z Y 0,Z Y 0] 75 (0,0)):=by
  refine callsD_of_wpS func245 rfl fun d l f=>?_;apply wpS_seq;refine wpS_of_wp ?_
  simp only [ntmps245,E5,D7,E4,E3,E2,G3,
     H9,H8,H6,J7,J5]
  go_wp2
  simp only [Exit.thenS];apply wpS_seq;apply wpS_region;simp [wpOpsS,go_sem,recoverD,f,Exit.thenS];refine wpS_of_wp ?_
  go_wp2
  cases d
  simp_all [bodyPostS,results,Tryz.results245]
  try rfl
def Mo (w:M) (ab eb:Nat) (f:Array L) (hY:f.size=20) (c y:Int) (t:List PanicEntry) (P:ai) (h:ah w (pt ab (V f 75 (0,0))*(pt eb (V #[Z Y y] 31 (0,0))*P))) :
    CallsD N 245 #[X (U ⟨ab,0,O⟩),X (U ⟨eb,0,O⟩)] (.panicking ({ v:=.iface 236 (Z Y c),recovered:=E } :: t)) w fun c0 u w'=>
      c0 = K (G #[])/\u = .panicking ({ v:=.iface 236 (Z Y c),recovered:=H } :: t)/\ah w' (pt ab (V #[Z Y 0,Z Y 0,Z Y 0,Z Y 0,Z Y 0,Z Y 0,Z Y 0,Z Y 0,Z Y 0,Z Y 0,Z Y 0,Z Y 0,Z Y 0,Z Y 0,Z Y 0,Z Y 0,Z Y 0,Z Y 0,Z Y 0,Z Y 0] 75 (0,0))*(pt eb (V #[Z Y c] 31 (0,0))*P))/\ak w w':=by
  refine callsD_of_wpS func245 rfl fun d0 cs hu=>?_;apply wpS_seq;refine wpS_of_wp ?_
  simp only [ntmps245,E5,D7,E4,E3,E2,G3,
     H9,H8,H6,J7,J5]
  go_wp2
  simp only [Exit.thenS];apply wpS_seq;apply wpS_region;simp [wpOpsS,go_sem,recoverD,hu,Exit.thenS];refine wpS_of_wp ?_;have e0:=jO (Z Y c);have d:=h.alloc (V #[Z Y 0,Z Y 0,Z Y 0,Z Y 0,Z Y 0,Z Y 0,Z Y 0,Z Y 0,Z Y 0,Z Y 0,Z Y 0,Z Y 0,Z Y 0,Z Y 0,Z Y 0,Z Y 0,Z Y 0,Z Y 0,Z Y 0,Z Y 0] 75 (0,0));have i:=(ak.refl w).alloc (V #[Z Y 0,Z Y 0,Z Y 0,Z Y 0,Z Y 0,Z Y 0,Z Y 0,Z Y 0,Z Y 0,Z Y 0,Z Y 0,Z Y 0,Z Y 0,Z Y 0,Z Y 0,Z Y 0,Z Y 0,Z Y 0,Z Y 0,Z Y 0] 75 (0,0));have l:=d.heap;have q:=d.aj.heap;have e:=d.aj.setRow (cs':=#[Z Y 0,Z Y 0,Z Y 0,Z Y 0,Z Y 0,Z Y 0,Z Y 0,Z Y 0,Z Y 0,Z Y 0,Z Y 0,Z Y 0,Z Y 0,Z Y 0,Z Y 0,Z Y 0,Z Y 0,Z Y 0,Z Y 0,Z Y 0]);have x:=ae (((i.setRow ab #[Z Y 0,Z Y 0,Z Y 0,Z Y 0,Z Y 0,Z Y 0,Z Y 0,Z Y 0,Z Y 0,Z Y 0,Z Y 0,Z Y 0,Z Y 0,Z Y 0,Z Y 0,Z Y 0,Z Y 0,Z Y 0,Z Y 0,Z Y 0])).setCell ⟨eb,0,O⟩ (Z Y c));have j:=(e.au.setCell 0 (Z Y c))
  generalize w.alloc (V #[Z Y 0,Z Y 0,Z Y 0,Z Y 0,Z Y 0,Z Y 0,Z Y 0,Z Y 0,Z Y 0,Z Y 0,Z Y 0,Z Y 0,Z Y 0,Z Y 0,Z Y 0,Z Y 0,Z Y 0,Z Y 0,Z Y 0,Z Y 0] 75 (0,0))=w1 at *;generalize w.heap.size=r at *;have e1:=e.au.cell 0;have f1:=e.au.frozen 0;have S:=ae l;have b0:=ae q;have A:=ae j;clear h d e j i l q
  go_wp2_with (first|(refine wpList_load_row (by exact rfl) 75 (.tmp 2) (by exact rfl) r (by exact rfl) 75 #[Z Y 0,Z Y 0,Z Y 0,Z Y 0,Z Y 0,Z Y 0,Z Y 0,Z Y 0,Z Y 0,Z Y 0,Z Y 0,Z Y 0,Z Y 0,Z Y 0,Z Y 0,Z Y 0,Z Y 0,Z Y 0,Z Y 0,Z Y 0] (0,0) _ (by with_reducible exact S.o) underlying75 rfl bd ?_)|(refine wpList_store_row (by exact rfl) 75 (.tmp 0) (.tmp 12) (by exact rfl) ab #[Z Y 0,Z Y 0,Z Y 0,Z Y 0,Z Y 0,Z Y 0,Z Y 0,Z Y 0,Z Y 0,Z Y 0,Z Y 0,Z Y 0,Z Y 0,Z Y 0,Z Y 0,Z Y 0,Z Y 0,Z Y 0,Z Y 0,Z Y 0] (by exact rfl) (by exact rfl) 75 f (by with_reducible exact b0.o) bd hY IA ?_))
  exact ⟨rfl,_,rfl,_,results_none rfl _ _ _,rfl,rfl,(A.o.t00 (pt r (V #[Z Y 0,Z Y 0,Z Y 0,Z Y 0,Z Y 0,Z Y 0,Z Y 0,Z Y 0,Z Y 0,Z Y 0,Z Y 0,Z Y 0,Z Y 0,Z Y 0,Z Y 0,Z Y 0,Z Y 0,Z Y 0,Z Y 0,Z Y 0] 75 (0,0))*(pt ab (V #[Z Y 0,Z Y 0,Z Y 0,Z Y 0,Z Y 0,Z Y 0,Z Y 0,Z Y 0,Z Y 0,Z Y 0,Z Y 0,Z Y 0,Z Y 0,Z Y 0,Z Y 0,Z Y 0,Z Y 0,Z Y 0,Z Y 0,Z Y 0] 75 (0,0))*(pt eb (V #[Z Y c] 31 (0,0))*P)))).right,x.o⟩
def qY {w:M} {tmps:Array L} {a b:Nat} {e:L} {d:Array L} {F:ai} (h4:tmps[4]?=U (ax a)) (h5:tmps[5]?=U (ax b)) (i:ah w (pt a (V d 75 (0,0))*F)) (f:d.size=20) (j:w.cell? ⟨b,0,O⟩=U e) :
  (results Tryz.f173 tmps).run N w = .ok (G #[.agg d,e]) w:=by
 have l:=run_loadVar_row (P:=N) w a 75 75 d (0,0) _ i.heap underlying75 rfl (by rw [f];exact bd);have r:tmps.getD 4 undef = X (U ⟨a,0,O⟩):=by simp [h4]
 have t:tmps.getD 5 undef = X (U ⟨b,0,O⟩):=by simp [h5]
 have q:(loadVar 31 ⟨b,0,O⟩).run N w = .ok e w:=by simp [go_sem,j]
 simp [results,Tryz.results173,h4,h5,asAddr,l,q]
def JF {w:M} {tmps:Array L} {ab eb:Nat} {d:Array L} {z c:Int} {P:ai} {R:Ending->M->Prop} (h4:tmps[4]?=U (ax ab)) (h5:tmps[5]?=U (ax eb))
  (h:ah w (pt ab (V d 75 (0,0))*(pt eb (V #[Z Y z] 31 (0,0))*P))) (j:d.size=20) (hR:∀ w',ah w' P->ak w w'->R (K (G #[.agg #[Z Y 0,Z Y 0,Z Y 0,Z Y 0,Z Y 0,Z Y 0,Z Y 0,Z Y 0,Z Y 0,Z Y 0,Z Y 0,Z Y 0,Z Y 0,Z Y 0,Z Y 0,Z Y 0,Z Y 0,Z Y 0,Z Y 0,Z Y 0],Z Y c])) w') :
  bodyPostD N Tryz.f173 R (Exit.panic (Kf c)) { tmps:=tmps,defers:=[{ target:=.fn (.func 245) #[X (U ⟨ab,0,O⟩),X (U ⟨eb,0,O⟩)],args:=#[] }] } w:=by
 refine leaves_cons (f:=245) (args:=#[X (U ⟨ab,0,O⟩),X (U ⟨eb,0,O⟩)]) Si0 (by simp [go_sem]) ?_;apply (Mo w ab eb d j c z [] P h).mono;rintro e u l ⟨rfl,rfl,f,i⟩;exact ⟨_,qY h4 h5 f rfl (f.aj.cell 0),hR _ f.right.right i⟩
def LJ {w:M} {tmps:Array L} {ab eb:Nat} {d:Array L} {z:Int} {P:ai} {R:Ending->M->Prop} (h4:tmps[4]?=U (ax ab)) (h5:tmps[5]?=U (ax eb))
  (h:ah w (pt ab (V d 75 (0,0))*(pt eb (V #[Z Y z] 31 (0,0))*P))) (i:d.size=20) (hR:∀ w',ah w' P->ak w w'->R (K (G #[.agg d,Z Y z])) w') :
  bodyPostD N Tryz.f173 R Exit.ret { tmps:=tmps,defers:=[{ target:=.fn (.func 245) #[X (U ⟨ab,0,O⟩),X (U ⟨eb,0,O⟩)],args:=#[] }] } w:=by
 refine leaves_cons (f:=245) (args:=#[X (U ⟨ab,0,O⟩),X (U ⟨eb,0,O⟩)]) Si0 (by simp [go_sem]) ?_;apply (Nx w ab ⟨eb,0,O⟩).mono;rintro e u j ⟨rfl,rfl,rfl⟩;have f:=(h.alloc (V #[Z Y 0,Z Y 0,Z Y 0,Z Y 0,Z Y 0,Z Y 0,Z Y 0,Z Y 0,Z Y 0,Z Y 0,Z Y 0,Z Y 0,Z Y 0,Z Y 0,Z Y 0,Z Y 0,Z Y 0,Z Y 0,Z Y 0,Z Y 0] 75 (0,0))).right;exact ⟨_,qY h4 h5 f i (f.aj.cell 0),hR _ f.right.right ((ak.refl w).alloc _)⟩
def CT (a:Nd) (v:L):ai:=fact (v=a.v/\a.dr.length=16)
def GA {P:Program} {w:M} {g:Nat} {T:TypeId} {u v:L} (e:(P.info? T).map (·.size)=U 1) (hv:v.cells=#[v]) (f:v.oneCell'=H) (h:w.heap[g]?=U (V #[u] T (0,0))):(storeVar T ⟨g,0,O⟩ v).run P w = .ok () (w.setRow g #[v]):=by
 have:=run_storeCells_from (P:=P) g T [v] 0 #[u] w h rfl (by simpa using f)
 cases d:P.info? T with
 | none=>simp [d] at e
 | some i=>
  have hs:i.size=1:=by simpa [d] using e
  simp [storeVar,sizeOf,typeInfo,d,hv,hs,this]
def Xt:Wl 105 3 183 165 Tryz.f105 (Z Y 0) Jl D6 (fun v=>∃ z,v = Z Y z) where
 func:=func105
 body:=Kr0
 ntmps:=rfl
 new w:=by simp [go_sem,D6,ax]
 Vx:=⟨0,rfl⟩
 ok h:=⟨_,(ah.ao.1 h).1⟩
 st:=by rintro w g _ _ ⟨a,rfl⟩ ⟨b,rfl⟩ h;exact GA Kr0 rfl rfl h
 ld:=by
  rintro w g _ ⟨a,rfl⟩ h;have d:w.cell? ⟨g,0,O⟩=U (Z Y a):=by simp [World.cell?,h,D6]
  simp [go_sem,d]
 Vs h4 h5 hy h hR:=by obtain ⟨z,rfl⟩:=hy;exact Jo h4 h5 h hR
 ret h4 h5 hv h hR:=by obtain ⟨z,rfl⟩:=hv;exact LF h4 h5 (h.cell 0) (h.aj.cell 0) (hR _ h.right.right (ak.refl _))
def Xv:Wl 180 23 253 235 Tryz.f180 (I O 0 0) iv D6 (fun v=>∃ a n c,v = I a n c) where
 func:=func180
 body:=Kr0
 ntmps:=rfl
 new w:=by simp [go_sem,D6,ax]
 Vx:=⟨_,_,_,rfl⟩
 ok h:=by obtain ⟨a,c,e⟩:=(ah.mI h).shape;exact ⟨_,_,_,e⟩
 st:=by rintro w g _ _ ⟨a,n,c,rfl⟩ ⟨b,m,d,rfl⟩ h;exact GA Kr0 rfl rfl h
 ld:=by
  rintro w g _ ⟨a,n,c,rfl⟩ h;have f:w.cell? ⟨g,0,O⟩=U (I a n c):=by simp [World.cell?,h,D6]
  simp [go_sem,f]
 Vs h4 h5 hy h hR:=by obtain ⟨a,n,c,rfl⟩:=hy;exact KL h4 h5 h (.inr ⟨_,_,_,rfl⟩) hR
 ret h4 h5 hv h hR:=by obtain ⟨a,n,c,rfl⟩:=hv;exact Jq h4 h5 (h.cell 0) (h.aj.cell 0) (hR _ h.right.right (ak.refl _))
def XR:Wl 215 113 274 279 Tryz.f215 (.agg #[]) G5 D6 (fun v=>v = .agg #[]) where
 func:=func215
 body:=Kr0
 ntmps:=rfl
 new w:=by simp [go_sem,D6,ax]
 Vx:=rfl
 ok h:=(ah.ao.1 h).1
 st:=by rintro w g _ _ rfl rfl h;exact run_storeVar_row w g _ _ _ _ h gu rfl Si0
 ld:=by rintro w g _ rfl h;exact run_loadVar_row w g _ _ _ _ _ h underlying113 rfl gu
 Vs h4 h5 hy h hR:=by subst hy;exact Li h4 h5 h hR
 ret h4 h5 hv h hR:=by subst hv;exact Jh h4 h5 h hR
def XT:Wl 173 75 245 224 Tryz.f173 (.agg #[Z Y 0,Z Y 0,Z Y 0,Z Y 0,Z Y 0,Z Y 0,Z Y 0,Z Y 0,Z Y 0,Z Y 0,Z Y 0,Z Y 0,Z Y 0,Z Y 0,Z Y 0,Z Y 0,Z Y 0,Z Y 0,Z Y 0,Z Y 0]) CT D6 (fun v=>∃ d,v = .agg d/\d.size=20/\d.all (·.oneCell')=H) where
 func:=func173
 body:=Kr0
 ntmps:=rfl
 new w:=by simp [go_sem,D6,ax]
 Vx:=⟨_,rfl,rfl,by simp [K8]⟩
 ok h:=by
  obtain ⟨e,l⟩:=(ah.ao.1 h).1;exact ⟨_,e,by simp [ints,Nd.l,l],by simp [ints,K8]⟩
 st:=by rintro w g _ _ ⟨d,rfl,f,-⟩ ⟨q,rfl,i,j⟩ h;exact run_storeVar_row w g _ _ _ _ h (by rw [i];exact bd) (f.trans i.symm) j
 ld:=by rintro w g _ ⟨d,rfl,f,-⟩ h;exact run_loadVar_row w g _ _ _ _ _ h underlying75 rfl (by rw [f];exact bd)
 Vs h4 h5 hy h hR:=by obtain ⟨d,rfl,f,-⟩:=hy;exact JF h4 h5 h f hR
 ret h4 h5 hv h hR:=by obtain ⟨d,rfl,f,-⟩:=hv;exact LJ h4 h5 h f hR
def MH (c:Cx σ) (r:c.Ok) (n:Nat) (x:4<=n) (A:n<=3840) (d:FuncId) (l:Array L) (f:ai) (m:WM σ Nat)
  (lV:∀ (args:Array L) (w:M),(callFunc d args).run N w = .ok (.enter d args) w) (t:GL c n d l Jl f m)
  (i:Nat) (j:iM σ) (w:M) (S:Hp) (F:ai) (h:ah w (eu c S i j*(al S*(f*F)))) (Q:Ending->M->Prop)
  (q:∀ e w',Ap c i (Z Y 0) Jl S (f*F) w (eA m j) e w'->Q e w') :
  Calls N 105 #[iH i n,.func (.func d) #[] l] w Q:=uJ Xt c r n x A d l f m lV t i j w S F h Q q
def xf (c:Cx σ) (r:c.Ok) (n:Nat) (x:4<=n) (A:n<=3840) (d:FuncId) (l:Array L) (f:ai) (m:WM σ (List UInt8))
  (lV:∀ (args:Array L) (w:M),(callFunc d args).run N w = .ok (.enter d args) w) (t:GL c n d l iv f m)
  (i:Nat) (j:iM σ) (w:M) (S:Hp) (F:ai) (h:ah w (eu c S i j*(al S*(f*F)))) (Q:Ending->M->Prop)
  (q:∀ e w',Ap c i (I O 0 0) iv S (f*F) w (eA m j) e w'->Q e w') :
  Calls N 180 #[iH i n,.func (.func d) #[] l] w Q:=uJ Xv c r n x A d l f m lV t i j w S F h Q q
def Ng (c:Cx σ) (r:c.Ok) (n:Nat) (x:4<=n) (A:n<=3840) (d:FuncId) (l:Array L) (f:ai) (m:WM σ Unit)
  (lV:∀ (args:Array L) (w:M),(callFunc d args).run N w = .ok (.enter d args) w) (t:GL c n d l G5 f m)
  (i:Nat) (j:iM σ) (w:M) (S:Hp) (F:ai) (h:ah w (eu c S i j*(al S*(f*F)))) (Q:Ending->M->Prop)
  (q:∀ e w',Ap c i (.agg #[]) G5 S (f*F) w (eA m j) e w'->Q e w') :
  Calls N 215 #[iH i n,.func (.func d) #[] l] w Q:=uJ XR c r n x A d l f m lV t i j w S F h Q q
def NW (c:Cx σ) (r:c.Ok) (n:Nat) (x:4<=n) (A:n<=3840) (d:FuncId) (l:Array L) (f:ai) (m:WM σ Nd)
  (lV:∀ (args:Array L) (w:M),(callFunc d args).run N w = .ok (.enter d args) w) (t:GL c n d l CT f m)
  (i:Nat) (j:iM σ) (w:M) (S:Hp) (F:ai) (h:ah w (eu c S i j*(al S*(f*F)))) (Q:Ending->M->Prop)
  (q:∀ e w',Ap c i (.agg #[Z Y 0,Z Y 0,Z Y 0,Z Y 0,Z Y 0,Z Y 0,Z Y 0,Z Y 0,Z Y 0,Z Y 0,Z Y 0,Z Y 0,Z Y 0,Z Y 0,Z Y 0,Z Y 0,Z Y 0,Z Y 0,Z Y 0,Z Y 0]) CT S (f*F) w (eA m j) e w'->Q e w') :
  Calls N 173 #[iH i n,.func (.func d) #[] l] w Q:=uJ XT c r n x A d l f m lV t i j w S F h Q q
end
end Go.Proofs.Fs
namespace Go.SL
open RowKit
def Rs.code {α:Type}:Rs α->Int
 | .ok _=>0
 | .bad c=>c
end Go.SL
namespace Go.Proofs.Fs
open RowKit SL Proofs.Ba
section
variable {σ α:Type}
def xQ {w:M} {tmps:Array L} {a:Nat} {F:ai} (d:tmps[3]?=U (ax a)) (e:ah w (pt a (V #[] 113 (0,0))*F)) :
  (results Tryz.f216 tmps).run N w = .ok (.agg #[]) w:=by
 have f:=run_loadVar_row (P:=N) w a 113 113 #[] (0,0) _ e.heap underlying113 rfl gu;simp [results,Tryz.results216,d,asAddr,f]
def Qe (e:Nat) (f:FuncId) (d:Array L):ai:=pt e (V #[.func (.func f) #[] d] 195 (0,0))
def KD {c:Cx σ} {n:Nat} {d:FuncId} {i:Array L} {l:ai} {m:WM σ Unit} (lV:∀ (args:Array L) (w:M),(callFunc d args).run N w = .ok (.enter d args) w)
  (hj:GL c n d i ni l m) (e:Nat):GL c n 216 #[X (U ⟨e,0,O⟩)] G5 (Qe e d i*l) m:=by
 intro x w S st F c0 d0 h;have j:=fun w F h=>hj x w S st F c0 d0 h;have b0:=ae j;have hA:=h.alloc (V #[] 113 (0,0));have dA:=(ak.refl w).alloc (V #[] 113 (0,0));clear hj h j c0 d0;show Calls N 216 #[X (U ⟨x.k,0,O⟩),X (U ⟨e,0,O⟩)] w _
 go_in
 have A:ah (w.alloc (V #[] 113 (0,0))) (Qe e d i*(pt w.heap.size (V #[] 113 (0,0))*(aN x S st*(al S*(l*F))))):=hA.u00;have cj:(w.alloc (V #[] 113 (0,0))).cell? ⟨e,0,O⟩=U (.func (.func d) #[] i):=A.cell 0;have hC:ah (w.alloc (V #[] 113 (0,0))) (aN x S st*(al S*(l*(Qe e d i*(pt w.heap.size (V #[] 113 (0,0))*F))))):=A.u00;have j:=b0.o _ _ hC;clear b0 hA A hC;obtain ⟨⟨f0,bS⟩,hp⟩:∃ p,m st=p:=⟨_,rfl⟩
 rw [hp] at j ⊢;clear hp
 cases f0 with
 | bad cN=>
  go_wp2_with fail
  generalize w.alloc (V #[] 113 (0,0))=w1 at *;generalize w.heap.size=r at *
  (with_reducible apply j.mono)
  rintro e0 w2 ⟨f,hS,t,rfl,q⟩
  go_wp2_with fail
  exact ⟨rfl,f,hS,dA.trans t,rfl,(q.t00 (pt r (V #[] 113 (0,0))*(aN x f bS*(al f*(Qe e d i*l*F))))).right⟩
 | ok u=>
  go_wp2_with fail
  generalize w.alloc (V #[] 113 (0,0))=w1 at *;generalize w.heap.size=r at *
  (with_reducible apply j.mono)
  rintro e0 w2 ⟨f,v,hS,t,rfl,q⟩;obtain ⟨rfl,h3⟩:=ah.ao.1 q;have h4:ah w2 (pt r (V #[] 113 (0,0))*(aN x f bS*(al f*(Qe e d i*l*F)))):=h3.u00;have H4:=ae h4;clear q h3 h4 j cj
  go_wp2_with (refine wpList_store_mid (by exact rfl) 113 (.tmp 3) (.tmp 7) (by exact rfl) r 0 #[] (by exact rfl) (by exact rfl) (by exact fun g0 h=>absurd h (K9 _)) (by exact gu) (by exact rfl) ?_)
  exact bodyPost_ret (xQ rfl H4.o) rfl ⟨f,_,hS,dA.trans t,rfl,ah.ao.2 ⟨rfl,H4.o.right⟩⟩
def Qq (c:Cx σ) (f:Nat) (S:Hp) (F:ai) (w:M) (p:Rs Unit × iM σ) (e:Ending) (w':M):Prop:=
 ∃ d,Ext S d/\ak w w'/\e = K (Z Y p.1.code)/\ah w' (eu c d f p.2*(al d*F))
def EM (c:Cx σ) (hc:c.Ok) (n:Nat) (f0:4<=n) (g0:n<=3840) (f:FuncId) (i:Array L) (j:ai) (m:WM σ Unit)
  (lV:∀ (args:Array L) (w:M),(callFunc f args).run N w = .ok (.enter f args) w) (hj:GL c n f i ni j m)
  (d:Nat) (r:iM σ) (w:M) (S:Hp) (F:ai) (h:ah w (eu c S d r*(al S*(j*F)))) (Q:Ending->M->Prop)
  (hQ:∀ e w',Qq c d S (j*F) w (eA m r) e w'->Q e w') :
  Calls N 138 #[iH d n,.func (.func f) #[] i] w Q:=by
 have i0:=oq N;have HQ:=ae hQ;have d0:=fun q w F h=>Ng c hc n f0 g0 216 #[X (U ⟨q,0,O⟩)] (Qe q f i*j) m (fun args w=>enters func216 Kr0 rfl args w) (KD lV hj q) d r w S F h;have c0:=ae d0;have hA:=(h.alloc (V #[X (U ⟨d,0,O⟩),Z Y (n:Int)] 85 (0,0))).alloc (V #[.func (.func f) #[] i] 195 (0,0));have dA:=((ak.refl w).alloc (V #[X (U ⟨d,0,O⟩),Z Y (n:Int)] 85 (0,0))).alloc (V #[.func (.func f) #[] i] 195 (0,0));simp only [L5] at hA;clear hQ d0 hj h lV;unfold iH
 go_in
 go_wp2_with fail
 have hB:ah ((w.alloc (V #[X (U ⟨d,0,O⟩),Z Y (n:Int)] 85 (0,0))).alloc (V #[.func (.func f) #[] i] 195 (0,0)))
   (eu c S d r*(al S*(Qe (w.heap.size+1) f i*j*(pt w.heap.size (V #[X (U ⟨d,0,O⟩),Z Y (n:Int)] 85 (0,0))*F)))):=hA.to (by unfold Qe;ac_rfl)
 refine c0.o (w.heap.size+1) _ _ hB _ ?_;clear hA hB c0;generalize (w.alloc (V #[X (U ⟨d,0,O⟩),Z Y (n:Int)] 85 (0,0))).alloc (V #[.func (.func f) #[] i] 195 (0,0))=w1 at *;generalize w.heap.size+1=q at *;generalize w.heap.size=sp at *;have HP:=ae (fun e w'=>HQ.o e w');clear HQ;obtain ⟨⟨e0,A⟩,hp⟩:∃ p,eA m r=p:=⟨_,rfl⟩
 rw [hp];have b0:RowKit.Hid (∀ e w',Qq c d S (j*F) w (e0,A) e w'->Q e w'):=fun e w' h=>HP.o e w' (by rw [hp];exact h);clear HP hp
 cases e0 with
 | bad cN=>
  rintro e w2 ⟨l,hS,d2,rfl,t⟩;have x:=ae (t.t00 ((eu c l d A*(al l*(j*F)))*(Qe q f i*pt sp (V #[X (U ⟨d,0,O⟩),Z Y (n:Int)] 85 (0,0)))));clear t
  go_wp2_with (refine wpList_store_mid (by exact rfl) 113 (.tmp 5) (.tmp 11) (by exact rfl) w2.heap.size 0 #[] (by exact rfl) (by exact rfl) (by exact fun h0 h=>absurd h (K9 _)) (by exact gu) (by exact rfl) ?_)
  exact b0.o _ _ ⟨l,hS,(dA.trans d2).alloc _,rfl,(x.o.alloc _).right.left⟩
 | ok u=>
  rintro e w2 ⟨l,v,hS,d2,rfl,t⟩;obtain ⟨rfl,h3⟩:=ah.ao.1 t;have x:=ae (h3.t00 ((eu c l d A*(al l*(j*F)))*(Qe q f i*pt sp (V #[X (U ⟨d,0,O⟩),Z Y (n:Int)] 85 (0,0)))));clear t h3
  go_wp2_with (refine wpList_store_mid (by exact rfl) 113 (.tmp 5) (.tmp 11) (by exact rfl) w2.heap.size 0 #[] (by exact rfl) (by exact rfl) (by exact fun h0 h=>absurd h (K9 _)) (by exact gu) (by exact rfl) ?_)
  exact b0.o _ _ ⟨l,hS,(dA.trans d2).alloc _,rfl,(x.o.alloc _).right.left⟩
end
end Go.Proofs.Fs
namespace Go.SL
open RowKit
section
variable {σ:Type}
def cX (id:Nat) (d:Int):Hd:=⟨id,⟨d,1,0,D9 16 0,0⟩,D9 240 0⟩
def Ig (d:Int) (id:Nat):WM σ Nat:=WM.bind (ew (cX id d)) fun _=>WM.pure id
def xP (ask:dO σ) (n:Nat) (d:Int):WM σ Nat:=fun st=>if d=1\/d=2 then (WM.bind (jc ask n) (Ig d)) st else (.bad 1,st)
end
end Go.SL
namespace Go.Proofs.Fs
open RowKit SL Proofs.Ba
section
variable {σ α:Type}
def bM (b:Nat) (z:Int):ai:=pt b (V #[Z Y z] 3 (0,0))
def oJ (id:Nat) (d:Int):(cX id d).fit:=⟨rfl,rfl⟩
def RA {c:Cx σ} (hc:c.Ok) {n:Nat} (hn:n<=3840) (d:Int) (f:Nat):GL c n 187 #[X (U ⟨f,0,O⟩)] Jl (bM f d) (xP c.ask n d):=by
 intro x w S st F q0 r0 h;subst q0 r0;have ck:w.cell? ⟨f,0,O⟩=U (Z Y d):=(h.t00 (bM f d*(aN x S st*(al S*F)))).cell 0;show Calls N 187 #[X (U ⟨x.k,0,O⟩),X (U ⟨f,0,O⟩)] w _
 by_cases hk:d=1\/d=2
 .have ht:=oW x hc hn w S st _ h
  have hE:xP x.c.ask x.n d st=(WM.bind (jc x.c.ask x.n) (Ig d)) st:=if_pos hk;rw [hE];obtain ⟨⟨b0,A⟩,j⟩:∃ p,jc x.c.ask x.n st=p:=⟨_,rfl⟩
  rw [j] at ht;clear hE h
  cases b0 with
  | bad cN=>
   rw [WM.bN j];clear j;rcases hk with rfl|rfl
   all_goals
    go_in
    go_wp2_with fail
    (with_reducible apply (iT w).mono)
    rintro e i ⟨rfl,rfl⟩
    go_wp2_with fail
    (with_reducible apply ht.mono)
    rintro e i ⟨l,hS,d2,rfl,h2⟩
    go_wp2_with fail
    exact ⟨rfl,l,hS,d2,rfl,h2⟩
  | ok id=>
   rw [WM.bp j];clear j;have c0:=pX (id:Int) (cX id d).n (oJ id d).1;have o0:=ae c0;obtain ⟨t,d0⟩:=Mn0 (ints ((id:Int) :: ((cX id d).n.l++D9 240 0)))
   rw [<- d0] at c0;have k0:t=ints (cX id d).l:=d0;have n0:=ae k0;clear o0 d0 k0
   have l0:∀ p,ew (cX id d) A=p->∀ b0 r,p=(b0,r)->Ig d id A=(match b0 with | .ok _=>.ok id | .bad c=>.bad c,r):=by
    intro p j b0 r he;subst he
    cases b0 with
    | ok u=>exact WM.bp j
    | bad c=>exact WM.bN j
   obtain ⟨⟨r2,r⟩,f0⟩:∃ p,ew (cX id d) A=p:=⟨_,rfl⟩
   have i0:=l0 _ f0 r2 r rfl;rw [i0];have g0:=fun w S hb F h Q hQ=>Bw x w S A hb (cX id d) F h Q hQ;rw [f0] at g0;have h0:=ae g0;have m0:=oJ id d;have p0:=ae m0;clear l0 i0 f0 g0 m0;rcases hk with rfl|rfl
   all_goals
    have Hb:=ae c0;clear c0
    go_in
    go_wp2_with fail
    (with_reducible apply (iT w).mono)
    rintro e i ⟨rfl,rfl⟩
    go_wp2_with fail
    (with_reducible apply ht.mono)
    rintro e i ⟨l,v,hS,d2,rfl,h2⟩;obtain ⟨rfl,h3⟩:=ah.ao.1 h2;have s0:i.cell? ⟨f,0,O⟩=U _:=(h3.t00 (bM f _*(aN x l A*(al l*F)))).cell 0;clear ck;have h4:=h3.alloc (V t 193 (0,0));have h5:ah (i.alloc (V t 193 (0,0))) (aZ i.heap.size (cX id _)*(aN x l A*(al l*(bM f _*F)))):=ah.held.2 ⟨p0.o,by rw [n0.o] at h4 ⊢;exact h4⟩;have D5:=d2.alloc (V t 193 (0,0));have H5:=ae h5;clear h2 h3 h4 h5 ht
    go_wp2_with (refine gZ (by exact rfl) 193 #[(0,.tmp 15),(1,.tmp 17)] (by exact rfl) _ (by exact rfl) t (by exact Hb.o) ?_)
    refine h0.o _ l _ _ H5.o _ ?_;clear H5 h0;generalize i.alloc (V t 193 (0,0))=w3 at *
    cases r2 with
    | bad cN=>
     rintro e w4 ⟨q,e0,d4,rfl,h6⟩
     go_wp2_with fail
     exact ⟨rfl,q,hS.trans e0,D5.trans d4,rfl,(h6.t00 (aZ i.heap.size (cX id _)*(aN x q r*(al q*(bM f _*F))))).right⟩
    | ok u=>
     rintro e w4 ⟨q,v4,e0,d4,rfl,h6⟩;obtain ⟨rfl,h7⟩:=ah.ao.1 h6
     go_wp2_with fail
     go_ret
     exact ⟨q,_,hS.trans e0,D5.trans d4,rfl,ah.ao.2 ⟨rfl,(h7.t00 (aZ i.heap.size (cX id _)*(aN x q r*(al q*(bM f _*F))))).right⟩⟩
 .have hE:xP x.c.ask x.n d st=(.bad 1,st):=if_neg hk
  rw [hE];have h1:(d == 1)=E:=by simp;omega
  have h2:(d == 2)=E:=by simp;omega
  clear hE hk
  go_in
  go_wp2_with fail
  (with_reducible apply (jv w).mono)
  rintro e i ⟨rfl,rfl⟩
  go_wp2_with fail
  exact ⟨rfl,S,Ext.refl S,ak.refl w,rfl,h⟩
end
end Go.Proofs.Fs
namespace Go.SL
open RowKit
section
variable {σ α β:Type}
def Hd.pN (h:Hd) (z:Int):Hd:={ h with n:={ h.n with lk:=z } }
def uR (h:Hd) (z:Int):WM σ Unit:=fun st=>if 0<=z/\z<=65535 then ew (h.pN z) st else (.bad 1,st)
def lS (ask:dO σ) (n:Nat) (node d:Int):WM σ Unit:=WM.bind (iP ask n node) fun h=>uR h (wrap64 (h.n.lk+d))
def qX (ask:dO σ) (n:Nat) (node:Int):WM σ Nd:=WM.bind (iP ask n node) fun h=>WM.pure h.n
def Hd.Lh {h:Hd} (d:h.fit) (z:Int):(h.pN z).fit:=d
end
end Go.SL
namespace Go.Proofs.Fs
open RowKit SL Proofs.Ba
section
variable {σ α:Type}
def oP (x:Wk σ) (d:x.c.Ok) (w:M) (S:Hp) (st:fB σ) (id:Int) (F:ai) (h:ah w (aN x S st*(al S*F))) :
  Calls N 140 #[X (U ⟨x.k,0,O⟩),Z Y id] w (WQ x uj S F w (iP x.c.ask x.n id st)):=
 vW x d w S st id F h _ fun _ _ h=>h
def s6 (x:Wk σ) (w:M) (S:Hp) (st:fB σ) (d:Nat) (h:Hd) (F:ai) (hs:ah w (aZ d h*(aN x S st*(al S*F)))) :
  Calls N 144 #[X (U ⟨x.k,0,O⟩),X (U ⟨d,0,O⟩)] w (WQ x ni S (aZ d h*F) w (ew h st)):=
 Bw x w S st d h F hs _ fun _ _ h=>h
def ah.uj {w:M} {h:Hd} {v:L} {F:ai} (hs:ah w (uj h v*F)):∃ d,v = X (U ⟨d,0,O⟩)/\ah w (aZ d h*F):=by
 obtain ⟨d,e⟩:=ah.aq.1 hs;obtain ⟨f,i⟩:=ah.ao.1 (e.to (ar _ _ _));exact ⟨d,f,i⟩
def iB {w:M} {d:Nat} {h:Hd} {F:ai} (hs:ah w (aZ d h*F)) {j:Nat} (i:j<261):w.cell? ⟨d,j,O⟩=U (Z Y (h.l.getD j 0))/\w.frozen? ⟨d,j,O⟩=E:=by
 obtain ⟨f,e⟩:=ah.held.1 hs;exact ⟨by rw [e.cell,aY (by rw [Hd.vr f];exact i)],e.frozen j⟩
def xl {w:M} {d:Nat} {h h':Hd} {F:ai} (hs:ah w (aZ d h*F)) {j:Nat} {z:Int} (f:h'.fit) (i:h'.l=h.l.set j z):ah (w.setCell ⟨d,j,O⟩ (Z Y z)) (aZ d h'*F):=by
 obtain ⟨_,e⟩:=ah.held.1 hs;refine ah.held.2 ⟨f,?_⟩;have:=e.setCell j (Z Y z);rw [eS] at this;rw [i];exact this
def ah.A5 {w:M} {d:Nat} {h:Hd} {F:ai} (hs:ah w (aZ d h*F)):h.fit:=(ah.held.1 hs).1
def KX {c:Cx σ} (hc:c.Ok) {n:Nat} (node d:Int) (j i:Nat):GL c n 148 #[X (U ⟨j,0,O⟩),X (U ⟨i,0,O⟩)] ni (bM j node*bM i d) (lS c.ask n node d):=by
 intro x w e0 st F o0 p0 h;subst o0 p0;have cn:w.cell? ⟨j,0,O⟩=U (Z Y node):=(h.t00 (bM j node*(bM i d*(aN x e0 st*(al e0*F))))).cell 0;show Calls N 148 #[X (U ⟨x.k,0,O⟩),X (U ⟨j,0,O⟩),X (U ⟨i,0,O⟩)] w _
 have hl:=oP x hc w e0 st node _ h;obtain ⟨⟨r0,r⟩,hp⟩:∃ p,iP x.c.ask x.n node st=p:=⟨_,rfl⟩
 rw [hp] at hl
 cases r0 with
 | bad cN=>
  have hE:lS x.c.ask x.n node d st=(.bad cN,r):=WM.bN hp;rw [hE];clear hE hp h
  go_in
  go_wp2_with fail
  (with_reducible apply hl.mono)
  rintro e w2 ⟨l,A,d2,rfl,h2⟩
  go_wp2_with fail
  exact ⟨rfl,l,A,d2,rfl,h2⟩
 | ok f=>
  have hE:lS x.c.ask x.n node d st=uR f (wrap64 (f.n.lk+d)) r:=WM.bp hp;rw [hE];clear hE hp h;obtain ⟨z,hz⟩:=Nm (wrap64 (f.n.lk+d))
  rw [hz];have l0:f.l.getD 2 0=f.n.lk:=rfl;have Hz:=ae hz;obtain ⟨r2,h0⟩:=Nm (uR f z r)
  rw [h0];have c0:=ae h0;clear hz h0
  go_in
  go_wp2_with fail
  (with_reducible apply hl.mono)
  rintro e w2 ⟨l,v,A,d2,rfl,h2⟩;obtain ⟨S,rfl,h3⟩:=ah.uj h2;have g0:=(iB h3 (j:=2) De0).1;rw [l0] at g0;have cd:w2.cell? ⟨i,0,O⟩=U (Z Y d):=(h3.t00 (bM i d*(bM j node*(aZ S f*(aN x l r*(al l*F)))))).cell 0;clear hl h2 cn l0
  go_wp2_with fail
  go_region_held3 (fun w'=>w'.cell? ⟨S,2,O⟩=U (Z Y f.n.lk)/\w'.cell? ⟨i,0,O⟩=U (Z Y d)) (first|exact ⟨g0,cd⟩|go_keep) (fail)
  rename_i n0;have t:=ae h3.drew;have D2:=ae d2.drew;clear n0 h3 d2 g0 cd;rw [show IntKind.i64.wrap (f.n.lk+d)=z from by rw [<- Hz.o,IntKind.wrap_i64];unfold wrap64;omega];generalize w2.drew=w3 at *
  by_cases b0:0<=z/\z<=65535
  .have d0:ew (f.pN z) r=r2:=by rw [<- c0.o];exact (if_pos b0).symm
   have g2:=(iB t.o (j:=2) De0).1;have f2:=(iB t.o (j:=2) De0).2;have h4:=xl (h':=f.pN z) t.o (j:=2) (z:=z) (Hd.Lh (ah.A5 t.o) z) rfl;have i0:=s6 x _ l r S (f.pN z) _ h4;rw [d0] at i0;have k0:=ae i0;have D4:=ae (D2.o.setCell ⟨S,2,O⟩ (Z Y z));obtain ⟨z1,z2⟩:=b0;clear h4 i0 d0 c0;generalize f.l.getD 2 0=y at *;obtain ⟨r3,m0⟩:=r2
   go_wp2_with fail
   (with_reducible apply (iT w3).mono)
   rintro e w4 ⟨rfl,rfl⟩
   cases r3 with
   | bad cN=>
    go_wp2_with fail
    apply k0.o.mono;rintro e w5 ⟨q,f0,d5,rfl,h6⟩
    go_wp2_with fail
    exact ⟨rfl,q,A.trans f0,D4.o.trans d5,rfl,(h6.t00 (aZ S (f.pN z)*(aN x q m0*(al q*(bM j node*bM i d*F))))).right⟩
   | ok u=>
    go_wp2_with fail
    apply k0.o.mono;rintro e w5 ⟨q,v5,f0,d5,rfl,h6⟩;obtain ⟨rfl,h7⟩:=ah.ao.1 h6
    go_wp2_with fail
    go_end0
    exact ⟨q,_,A.trans f0,D4.o.trans d5,rfl,ah.ao.2 ⟨rfl,(h7.t00 (aZ S (f.pN z)*(aN x q m0*(al q*(bM j node*bM i d*F))))).right⟩⟩
  .have d0:r2=(.bad 1,r):=by rw [<- c0.o];exact if_neg b0
   subst d0;clear c0
   by_cases s0:0<=z
   .have q0:decide (z<=65535)=E:=decide_eq_false Om0
    clear b0
    go_wp2_with fail
    (with_reducible apply (jv w3).mono)
    rintro e w4 ⟨rfl,rfl⟩
    go_wp2_with fail
    exact ⟨rfl,l,A,D2.o,rfl,t.o.right⟩
   .have q0:z<0:=Om0
    clear b0
    go_wp2_with fail
    (with_reducible apply (jv w3).mono)
    rintro e w4 ⟨rfl,rfl⟩
    go_wp2_with fail
    exact ⟨rfl,l,A,D2.o,rfl,t.o.right⟩
def uz {w:M} {tmps:Array L} {a:Nat} {d:Array L} {F:ai} (e:tmps[3]?=U (ax a)) (i:ah w (pt a (V d 75 (0,0))*F)) (f:d.size=20) :
  (results Tryz.f174 tmps).run N w = .ok (.agg d) w:=by
 have j:=run_loadVar_row (P:=N) w a 75 75 d (0,0) _ i.heap underlying75 rfl (by rw [f];exact bd);simp [results,Tryz.results174,e,asAddr,j]
def Mh {c:Cx σ} (hc:c.Ok) {n:Nat} (node:Int) (i:Nat):GL c n 174 #[X (U ⟨i,0,O⟩)] CT (bM i node) (qX c.ask n node):=by
 intro x w b0 st F o0 p0 h;subst o0 p0;show Calls N 174 #[X (U ⟨x.k,0,O⟩),X (U ⟨i,0,O⟩)] w _
 have h1:=h.alloc (V #[Z Y 0,Z Y 0,Z Y 0,Z Y 0,Z Y 0,Z Y 0,Z Y 0,Z Y 0,Z Y 0,Z Y 0,Z Y 0,Z Y 0,Z Y 0,Z Y 0,Z Y 0,Z Y 0,Z Y 0,Z Y 0,Z Y 0,Z Y 0] 75 (0,0));have D1:=(ak.refl w).alloc (V #[Z Y 0,Z Y 0,Z Y 0,Z Y 0,Z Y 0,Z Y 0,Z Y 0,Z Y 0,Z Y 0,Z Y 0,Z Y 0,Z Y 0,Z Y 0,Z Y 0,Z Y 0,Z Y 0,Z Y 0,Z Y 0,Z Y 0,Z Y 0] 75 (0,0));have e:=h1.t00 (aN x b0 st*(al b0*(bM i node*(pt w.heap.size (V #[Z Y 0,Z Y 0,Z Y 0,Z Y 0,Z Y 0,Z Y 0,Z Y 0,Z Y 0,Z Y 0,Z Y 0,Z Y 0,Z Y 0,Z Y 0,Z Y 0,Z Y 0,Z Y 0,Z Y 0,Z Y 0,Z Y 0,Z Y 0] 75 (0,0))*F))));have cn:(w.alloc (V #[Z Y 0,Z Y 0,Z Y 0,Z Y 0,Z Y 0,Z Y 0,Z Y 0,Z Y 0,Z Y 0,Z Y 0,Z Y 0,Z Y 0,Z Y 0,Z Y 0,Z Y 0,Z Y 0,Z Y 0,Z Y 0,Z Y 0,Z Y 0] 75 (0,0))).cell? ⟨i,0,O⟩=U (Z Y node):=e.au.cell 0;have S:=oP x hc _ b0 st node _ e;obtain ⟨⟨q0,r⟩,q⟩:∃ p,iP x.c.ask x.n node st=p:=⟨_,rfl⟩
 rw [q] at S;have hz:=ae h1.heap;clear h1 e h
 cases q0 with
 | bad cN=>
  have j:qX x.c.ask x.n node st=(.bad cN,r):=WM.bN q;rw [j];clear j q
  go_in
  go_wp2_with fail
  (with_reducible apply S.mono)
  rintro m0 w2 ⟨f,hS,t,rfl,e⟩
  go_wp2_with fail
  exact ⟨rfl,f,hS,D1.trans t,rfl,(e.t00 (pt w.heap.size (V #[Z Y 0,Z Y 0,Z Y 0,Z Y 0,Z Y 0,Z Y 0,Z Y 0,Z Y 0,Z Y 0,Z Y 0,Z Y 0,Z Y 0,Z Y 0,Z Y 0,Z Y 0,Z Y 0,Z Y 0,Z Y 0,Z Y 0,Z Y 0] 75 (0,0))*(aN x f r*(al f*(bM i node*F))))).right⟩
 | ok d=>
  have j:qX x.c.ask x.n node st=(.ok d.n,r):=WM.bp q;rw [j];clear j q
  go_in
  go_wp2_with fail
  (with_reducible apply S.mono)
  rintro m0 w2 ⟨f,v,hS,t,rfl,e⟩;obtain ⟨hb,rfl,A⟩:=ah.uj e;have l:=ah.A5 A;have n0:=ae (th l (ah.held.1 A).2);have e0:(prog.info? 75).map (·.size)=U (d.n.l.map (B3 Y)).length:=by rw [J4,Nd.cells l.1];exact bd
  have c0:(d.n.l.map (B3 Y)).toArray.size=20:=by simp [Nd.cells l.1]
  have f0:(prog.info? 75).map (·.size)=U (d.n.l.map (B3 Y)).toArray.size:=by rw [c0];exact bd
  have g0:(d.n.l.map (B3 Y)).toArray.all (·.oneCell')=H:=by simp [K8]
  have h4:ah w2 (pt w.heap.size (V #[Z Y 0,Z Y 0,Z Y 0,Z Y 0,Z Y 0,Z Y 0,Z Y 0,Z Y 0,Z Y 0,Z Y 0,Z Y 0,Z Y 0,Z Y 0,Z Y 0,Z Y 0,Z Y 0,Z Y 0,Z Y 0,Z Y 0,Z Y 0] 75 (0,0))*(aZ hb d*(aN x f r*(al f*(bM i node*F))))):=A.u00;have l0:=ae h4.heap;have h5:=h4.setRow (cs':=(d.n.l.map (B3 Y)).toArray);have D5:=ae ((D1.trans t).setRow w.heap.size (d.n.l.map (B3 Y)).toArray);have H5:=ae h5;have h0:=ae e0;have i0:=ae f0;have k0:=ae g0;have d0:=ae c0;have Hf:=ae l;clear e A h4 h5 e0 f0 g0 l S hz cn t c0
  go_wp2_with (first
   | (refine wpList_load_mid (by exact rfl) 75 (.tmp 8) (by exact rfl) hb 1 (by exact rfl) (d.n.l.map (B3 Y)) _ (by with_reducible exact n0.o) underlying75 rfl (by with_reducible exact h0.o) ?_)
   | (refine wpList_store_row (by exact rfl) 75 (.tmp 3) (.tmp 9) (by exact rfl) w.heap.size (d.n.l.map (B3 Y)).toArray (by exact rfl) (by exact rfl) 75 #[Z Y 0,Z Y 0,Z Y 0,Z Y 0,Z Y 0,Z Y 0,Z Y 0,Z Y 0,Z Y 0,Z Y 0,Z Y 0,Z Y 0,Z Y 0,Z Y 0,Z Y 0,Z Y 0,Z Y 0,Z Y 0,Z Y 0,Z Y 0] (by with_reducible exact l0.o) i0.o (by rw [d0.o];rfl) k0.o ?_))
  exact bodyPost_ret (uz rfl H5.o d0.o) rfl ⟨f,_,hS,D5.o,rfl,ah.ao.2 ⟨⟨rfl,Hf.o.1⟩,H5.o.right.right⟩⟩
end
end Go.Proofs.Fs
namespace Go.SL
open RowKit
section
variable {σ:Type}
def jq (ask:dO σ):WM σ Unit:=fun st=>(WM.bind (fP ask 0 H) fun _=>WM.bind (fP ask 1 H) fun _=>ew (cX 1 2)) { st with bits:=U (zs 480) }
def Hd.VW (h:Hd):List Int:=h.n.dr++h.row
end
end Go.SL
namespace Go.Proofs.Fs
open RowKit SL Proofs.Ba
section
variable {σ α:Type}
def aK {P:Program} {f:FuncId} {args:Array L} {w:M} {R:Ending->M->Prop} (h:∀ Q:Ending->M->Prop,RowKit.Hid (∀ e w',R e w'->Q e w')->Calls P f args w Q):Calls P f args w R:=h R (fun _ _ h=>h)
def Gm {c:Cx σ} (hc:c.Ok) {n:Nat}:GL c n 159 #[] ni emp (jq c.ask):=by
 intro x w S st F S0 T0 h;subst S0 T0;show Calls N 159 #[X (U ⟨x.k,0,O⟩)] w _
 refine aK fun Q HQ=>?_;obtain ⟨v0,h1⟩:=ah.iS h;have H0:=PM w;obtain ⟨Kt,hA⟩:=Mn0 (({ st with bits:=U (zs 480) }:fB σ))
 have d:jq x.c.ask st=(WM.bind (fP x.c.ask 0 H) fun _=>WM.bind (fP x.c.ask 1 H) fun _=>ew (cX 1 2)) Kt:=by rw [hA];rfl
 have r0:=ae d;have HA:=ae hA;have m0:=pX 1 (cX 1 2).n (oJ 1 2).1;obtain ⟨HL,k0⟩:=Mn0 (ints ((1:Int) :: ((cX 1 2).n.l++D9 240 0)))
 rw [<- k0] at m0;have N0:=ae (show HL=ints (cX 1 2).l from k0);have Hb:=ae m0;have G0:(zs 480).length=480:=aX 480;have u0:=ae G0;clear m0 k0 d hA h G0;generalize zs 480=g0 at *;obtain ⟨⟨r1,f⟩,b0⟩:∃ p,fP x.c.ask 0 H Kt=p:=⟨_,rfl⟩
 have n0:∀ (w:M) (S:Hp) (F:ai),ah w (aN x S Kt*(al S*F))->Calls N 152 #[X (U ⟨x.k,0,O⟩),Z Y 0,B H] w (WQ x ni S F w (fP x.c.ask 0 H Kt)):=fun w S F h=>DC x hc w S Kt 0 H F De0 h;rw [b0] at n0
 go_in
 go_wp2_with fail
 (with_reducible apply H0.mono)
 rintro e w2 ⟨v,rfl,h2,d2⟩;have h3:=h2.under h1;obtain ⟨q,r,rfl⟩:=az h3;rw [u0.o] at h3 ⊢;have h4:ah w2 (pt x.k (V (x.cells v0 st.dt) 162 (0,0))*(eu x.c S x.b st.b*(bs 5 (I q 480 r) g0*(al S*(emp*F))))):=(h3.to (by unfold cD;ac_rfl:_=fG st.bits v0*(pt x.k (V (x.cells v0 st.dt) 162 (0,0))*(eu x.c S x.b st.b*(bs 5 (I q 480 r) g0*(al S*(emp*F))))))).right
 obtain ⟨v1,n1,k1,rfl⟩:∃ a n c,v0 = I a n c:=by
  rcases ah.oS (h3.t00 (fG st.bits v0*(bs 5 (I q 480 r) g0*(cD x v0 S st*(al S*(emp*F)))))) with ⟨_,rfl,_⟩|⟨l,_,_,hx⟩
  .exact ⟨_,_,_,rfl⟩
  .obtain ⟨a,b,e⟩:=az hx;exact ⟨_,_,_,e⟩
 have g2:w2.cell? ⟨x.k,2,O⟩=U (I v1 n1 k1):=h4.cell 2;have f2:w2.frozen? ⟨x.k,2,O⟩=E:=h4.frozen 2;have h5:=h4.setCell 2 (I q 480 r);have D5:=d2.setCell ⟨x.k,2,O⟩ (I q 480 r)
 have h6:ah (w2.setCell ⟨x.k,2,O⟩ (I q 480 r)) (aN x S Kt*(al S*(emp*F))):=by
  rw [HA.o];refine ah.jz (I q 480 r) ?_;have i:=ah.qQ u0.o h5.au;exact i.to (by unfold cD Wk.cells;simp only [K4,K7,K3];ac_rfl)
 have hm:=n0 _ S _ h6;clear H0 h1 h2 h3 h4 h5 h6 n0
 cases r1 with
 | bad cN=>
  have d:(WM.bind (fP x.c.ask 0 H) fun _=>WM.bind (fP x.c.ask 1 H) fun _=>ew (cX 1 2)) Kt=(.bad cN,f):=WM.bN b0;have t:=ae (r0.o.trans d);clear d b0
  go_wp2_with fail
  (with_reducible apply hm.mono)
  rintro e w3 ⟨S',hS,A,rfl,i⟩
  go_wp2_with fail
  exact ⟨rfl,HQ.o _ _ (by rw [t.o];exact ⟨S',hS,D5.trans A,rfl,i⟩)⟩
 | ok u=>
  have d:(WM.bind (fP x.c.ask 0 H) fun _=>WM.bind (fP x.c.ask 1 H) fun _=>ew (cX 1 2)) Kt=(WM.bind (fP x.c.ask 1 H) fun _=>ew (cX 1 2)) f:=WM.bp b0;have s0:=ae (r0.o.trans d);clear d b0;obtain ⟨⟨r2,d0⟩,c0⟩:∃ p,fP x.c.ask 1 H f=p:=⟨_,rfl⟩
  have f0:∀ (w:M) (S:Hp) (F:ai),ah w (aN x S f*(al S*F))->Calls N 152 #[X (U ⟨x.k,0,O⟩),Z Y 1,B H] w (WQ x ni S F w (fP x.c.ask 1 H f)):=fun w S F h=>DC x hc w S f 1 H F De0 h;rw [c0] at f0
  cases r2 with
  | bad cN=>
   have d:(WM.bind (fP x.c.ask 1 H) fun _=>ew (cX 1 2)) f=(.bad cN,d0):=WM.bN c0;have t:=ae (s0.o.trans d);clear d c0
   go_wp2_with fail
   (with_reducible apply hm.mono)
   rintro e w3 ⟨S',v3,hS,A,rfl,i⟩;obtain ⟨rfl,h8⟩:=ah.ao.1 i
   go_wp2_with fail
   (with_reducible apply (f0 w3 S' _ h8).mono)
   rintro e w4 ⟨S2,e0,d4,rfl,h9⟩
   go_wp2_with fail
   exact ⟨rfl,HQ.o _ _ (by rw [t.o];exact ⟨S2,hS.trans e0,(D5.trans A).trans d4,rfl,h9⟩)⟩
  | ok u2=>
   have d:(WM.bind (fP x.c.ask 1 H) fun _=>ew (cX 1 2)) f=ew (cX 1 2) d0:=WM.bp c0;have L0:=ae (s0.o.trans d);clear d c0;have p0:=fun w S hb F h=>s6 x w S d0 hb (cX 1 2) F h;obtain ⟨⟨r3,K0⟩,o0⟩:∃ p,ew (cX 1 2) d0=p:=⟨_,rfl⟩
   rw [o0] at p0;have t:=ae (L0.o.trans o0);have x0:=ae p0;clear o0 p0
   go_wp2_with fail
   (with_reducible apply hm.mono)
   rintro e w3 ⟨S',v3,hS,A,rfl,i⟩;obtain ⟨rfl,h8⟩:=ah.ao.1 i
   go_wp2_with fail
   (with_reducible apply (f0 w3 S' _ h8).mono)
   rintro e w4 ⟨S2,v4,e0,d4,rfl,h9⟩;obtain ⟨rfl,D0⟩:=ah.ao.1 h9;have h0:=D0.alloc (V HL 193 (0,0));have F0:ah (w4.alloc (V HL 193 (0,0))) (aZ w4.heap.size (cX 1 2)*(aN x S2 d0*(al S2*(emp*F)))):=ah.held.2 ⟨oJ 1 2,by rw [N0.o] at h0 ⊢;exact h0⟩;have q0:=ae (((D5.trans A).trans d4).alloc (V HL 193 (0,0)));have HS:=ae (hS.trans e0);have hs:=ae (x0.o _ _ _ _ F0);clear hm f0 i h8 h9 D0 h0 F0 x0 D5 A d4 hS e0
   go_wp2_with (refine gZ (by exact rfl) 193 #[(0,.const (Z Y 1)),(1,.tmp 11)] (by exact rfl) _ (by exact rfl) HL (by exact Hb.o) ?_)
   apply hs.o.mono
   cases r3 with
   | bad cN=>
    rintro e w5 ⟨j,l0,d5,rfl,i0⟩
    go_wp2_with fail
    exact ⟨rfl,HQ.o _ _ (by rw [t.o];exact ⟨j,HS.o.trans l0,q0.o.trans d5,rfl,(i0.t00 (aZ w4.heap.size (cX 1 2)*(aN x j K0*(al j*(emp*F))))).right⟩)⟩
   | ok u3=>
    rintro e w5 ⟨j,v5,l0,d5,rfl,i0⟩;obtain ⟨rfl,R0⟩:=ah.ao.1 i0
    go_wp2_with fail
    go_end0
    exact HQ.o _ _ (by rw [t.o];exact ⟨j,_,HS.o.trans l0,q0.o.trans d5,rfl,ah.ao.2 ⟨rfl,(R0.t00 (aZ w4.heap.size (cX 1 2)*(aN x j K0*(al j*(emp*F))))).right⟩⟩)
end
end Go.Proofs.Fs
namespace Go.SL
open RowKit
section
variable {σ α β:Type}
def WM.nZ {m:WM σ α} {k:α->WM σ β} {st st':fB σ} {b:β} (h:WM.bind m k st=(.ok b,st')):∃ a d,m st=(.ok a,d)/\k a d=(.ok b,st'):=by
 unfold WM.bind at h
 match hm:m st,h with
 | (.ok a,d),h=>exact ⟨a,d,rfl,h⟩
 | (.bad c,d),h=>cases h
structure Hd.Yl (n:Nat) (h:Hd):Prop where
 fit:h.fit
 ok:h.n.ok=true
 YM:1<=h.id
 YL:h.id<n
 Ss:0<=h.n.rw
 TS:h.n.rw<n
 pg:∀ p ∈ h.VW,0<=p/\p<n
def Ia {l:List Int} (h:l.all cT=H):∀ p ∈ l,0<=p/\p<3840:=fun p d=>jC (List.all_eq_true.1 h p d)
def KP {ask:dO σ} {n:Nat} {id:Int} {st st':fB σ} {h:Hd} (q:iP ask n id st=(.ok h,st')):h.Yl n:=by
 unfold iP at q
 split at q
 .rename_i m0
  obtain ⟨j,bS,h1,e⟩:=WM.nZ q;unfold UT at e
  split at e
  .rename_i A
   have r:(kU j).1.ok=H/\(kU j).1.dr.length=16:=by
    refine ⟨?_,GR j⟩;unfold kU at A ⊢
    split at A
    .rename_i i;rw [if_pos i];simp only [Bool.and_eq_true] at i;exact i.1
    .cases A
   generalize (kU j).1=nd at *;obtain ⟨r,d0⟩:=r;have hf:=Nd.rF r;have i0:=jC hf.2.2.2.2.2.2.1
   have b0:∀ row c0,row.length=240->(∀ p ∈ row,0<=p)->(nd.rw<n)->jo n id.toNat nd row c0=(.ok h,st')->h.Yl n:=by
    intro row c0 e0 h0 f0 h3;obtain ⟨_,k0,h4,h5⟩:=WM.nZ h3;obtain ⟨_,l0,l,f⟩:=WM.nZ h5;simp only [WM.pure,Prod.mk.injEq,Rs.ok.injEq] at f;obtain ⟨rfl,rfl⟩:=f
    have t:nd.dr.all (fun x=>decide (x<n))=H:=by
     unfold eE at h4;split at h4
     .assumption
     .cases h4
    have a2:row.all (fun x=>decide (x<n))=H:=by
     unfold eE at l;split at l
     .assumption
     .cases l
    refine ⟨⟨d0,e0⟩,r,by show 1<=id.toNat;omega,by show id.toNat<n;omega,i0.1,f0,fun p d=>?_⟩;rcases List.mem_append.1 d with d|d
    .exact ⟨(Ia hf.2.2.2.2.2.1 p d).1,by simpa using List.all_eq_true.1 t p d⟩
    .exact ⟨h0 p d,by simpa using List.all_eq_true.1 a2 p d⟩
   unfold lH at e
   split at e
   .rename_i hz
    exact b0 _ _ rfl (fun p d=>by rw [(List.mem_replicate.1 d).2];omega) (by rw [hz];omega) e
   .obtain ⟨_,k0,h4,h5⟩:=WM.nZ e
    obtain ⟨L2,l0,l,f⟩:=WM.nZ h5
    have t:[nd.rw].all (fun x=>decide (x<n))=H:=by
     unfold eE at h4;split at h4
     .assumption
     .cases h4
    unfold Ov at f
    split at f
    .rename_i S
     have g0:(mj L2).1.all cT=H:=by
      unfold mj at S ⊢
      split at S
      .rename_i i;rw [if_pos i];exact i
      .cases S
     exact b0 _ _ (Ch L2) (fun p d=>(Ia g0 p d).1) (by simpa using t) f
    .cases f
  .cases e
 .cases q
end
end Go.SL

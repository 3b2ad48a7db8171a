/- Steps. -/
import Derived.Test.YtacliaemfegopaaGreatDoorKP22
import Derived.Test.YtacliaemfegopaaGreatDoorKP4
import Derived.Test.YtacliaemfegopaaGreatDoorKP13
import Derived.Test.YtacliaemfegopaaGreatDoorKP6
set_option linter.unusedVariables false
set_option linter.unusedSimpArgs false
set_option maxRecDepth 100000
set_option maxHeartbeats 40000000
open Go.Proofs Go.SL
namespace Go.SL
open Go.RowKit
inductive Rs (α:Type) where
 | ok (a:α)
 | bad (c:Int)
structure gW (σ:Type) where
 err:Int
 W:List (Int × List UInt8)
 D:List (Int × List UInt8)
 s:σ
structure eV (σ:Type) where
 b:gW σ
 bits:Option (List UInt8)
 dt:Bool
abbrev dx (σ:Type):=σ→Int→(Int × List UInt8) × σ
abbrev WM (σ α:Type):=eV σ→Rs α × eV σ
def WM.bind {σ α β:Type} (m:WM σ α) (k:α→WM σ β):WM σ β:=fun st=>match m st with|(.ok a,st')=>k a st'|(.bad c,st')=>(.bad c,st')
def WM.pure {σ α:Type} (a:α):WM σ α:=fun st=>(.ok a,st)
section
variable {σ α β:Type} {m:WM σ α} {k:α→WM σ β} {st st':eV σ}
theorem WM.aZ {a:α} (h:m st=(.ok a,st')):WM.bind m k st=k a st':=by unfold WM.bind;rw [h]
theorem WM.bG {c:Int} (h:m st=(.bad c,st')):WM.bind m k st=(.bad c,st'):=by unfold WM.bind;rw [h]
end
def qA {σ:Type} (ask:dx σ) (b:gW σ) (id:Int):(Int × List UInt8) × gW σ:=
 if (ask b.s id).1.1=0 then ((0,(ask b.s id).1.2),{ b with D:=SL.fw b.D id (ask b.s id).1.2,s:=(ask b.s id).2 })
 else (((ask b.s id).1.1,(ask b.s id).1.2),{ b with err:=(ask b.s id).1.1,s:=(ask b.s id).2 })
def fy {σ:Type} (ask:dx σ) (b:gW σ) (id:Int):(Int × List UInt8) × gW σ:=
 if b.err≠0 then ((b.err,[]),b) else
 match aH b.W id with
 | some l=>((0,l),b)
 | none=>match aH b.D id with
  | some l=>((0,l),b)
  | none=>qA ask b id
def cS {σ:Type} (ask:dx σ) (id:Int):WM σ (List UInt8):=fun st=>
 if (fy ask st.b id).1.1≠0 then (.bad (fy ask st.b id).1.1,{ st with b:=(fy ask st.b id).2 })
 else if (fy ask st.b id).1.2.length≠480 then (.bad 4,{ st with b:=(fy ask st.b id).2 })
 else (.ok (fy ask st.b id).1.2,{ st with b:=(fy ask st.b id).2 })
end Go.SL
namespace Go.Fs
open Go.RowKit Go.SL Go.Ba
structure Cx (σ:Type) where
 T:TypeId
 rv:Value
 fr:FuncId
 rr:Value
 Mq:World→Prop
 ask:dx σ
 RI:σ→ah
def Cx.rd {σ:Type} (c:Cx σ):Value:=.iface c.T c.rv
structure Cx.Ok {σ:Type} (c:Cx σ):Prop where
 hM:∀ (s:σ) (F:ah) (w:World),Sat w (c.RI s*F)→c.Mq w
 hm : ∀ (k : Nat) (w : World), c.Mq w → (method (k + 1) c.T c.rv "Read").run Tryz.prog w = .ok (c.fr, c.rr) w
 hcf:∀ (args:Array Value) (w:World),(callFunc c.fr args).run Tryz.prog w = .ok (.enter c.fr args) w
 hR:∀ (s:σ) (id:Int) (F:ah) (w:World),Sat w (c.RI s*F)→Calls Tryz.prog c.fr #[c.rr,.int .i64 id] w (mZ (c.ask s id).1 (c.RI (c.ask s id).2) F w)
 hs:∀ (s:σ) (id:Int),(c.ask s id).1.1=0→small (c.ask s id).1.2
def cC {σ:Type} (c:Cx σ) (S:Hp) (b:Nat) (x:gW σ):ah:=az 176 5 S b c.rd x.err x.W x.D*c.RI x.s
def NA {σ:Type} (c:Cx σ) (b:Nat) (S:Hp) (p:(Int × List UInt8) × gW σ) (F:ah) (w:World) (e:Ending) (w':World):Prop:=
 ∃ S' dv,Ext S S'∧e = .returned (.tuple #[dv,.int .i64 p.1.1])∧Sat w' (nM 5 p.1 dv*(cC c S' b p.2*(aj S'*F)))∧ai w w'
theorem ED {σ:Type} {c:Cx σ} (hc:c.Ok) (w:World) (S:Hp) (b:Nat) (x:gW σ) (id:Int) (F:ah) (h:Sat w (cC c S b x*(aj S*F))) :
  Calls Tryz.prog 202 #[.pointer (some ⟨b,0,none⟩),.int .i64 id] w (NA c b S (fy c.ask x id) F w):=by
 obtain ⟨err,W,D,s⟩:=x;have h':Sat w (az 176 5 S b c.rd err W D*(aj S*(c.RI s*F))):=h.to (by unfold cC;ac_rfl)
 by_cases he:err=0
 ·subst he
  cases hw:aH W id with
  | some l=>
   have e1:fy c.ask ⟨0,W,D,s⟩ id=((0,l),⟨0,W,D,s⟩):=by unfold fy;simp only [ne_eq,not_true_eq_false,if_false,hw]
   rw [e1];refine (NG w S b c.rd W D id l _ h' hw).mono ?_;rintro e w' ⟨S',dv,h1,rfl,h2,h3⟩;exact ⟨S',dv,h1,rfl,h2.to (by unfold cC;ac_rfl),h3⟩
  | none=>
   cases hd:aH D id with
   | some l=>
    have e1:fy c.ask ⟨0,W,D,s⟩ id=((0,l),⟨0,W,D,s⟩):=by unfold fy;simp only [ne_eq,not_true_eq_false,if_false,hw,hd]
    rw [e1];refine (NZ w S b c.rd W D id l _ h' hw hd).mono ?_;rintro e w' ⟨S',dv,h1,rfl,h2,h3⟩;exact ⟨S',dv,h1,rfl,h2.to (by unfold cC;ac_rfl),h3⟩
   | none=>
    have e1:fy c.ask ⟨0,W,D,s⟩ id=qA c.ask ⟨0,W,D,s⟩ id:=by unfold fy;simp only [ne_eq,not_true_eq_false,if_false,hw,hd]
    have hR:=fun F w=>hc.hR s id F w;have hs:=hc.hs s id;rw [e1];unfold qA;generalize c.ask s id=p at *;obtain ⟨⟨c1,l⟩,s'⟩:=p
    by_cases h1:c1=0
    ·subst h1
     rw [if_pos rfl];refine (KK w S b c.T c.rv c.fr W D id l (c.RI s) (c.RI s') F c.rr c.Mq (hc.hM s) (hc.hM s') hc.hm hc.hcf hR h' hw hd (hs rfl)).mono ?_;rintro e w' ⟨S',dv,h1,rfl,h2,h3⟩;exact ⟨S',dv,h1,rfl,h2.to (by unfold cC Cx.rd;ac_rfl),h3⟩
    ·rw [if_neg h1]
     refine (wE w S b c.T c.rv c.fr W D id c1 l (c.RI s) (c.RI s') F c.rr c.Mq (hc.hM s) (hc.hM s') hc.hm hc.hcf hR h1 h' hw hd).mono ?_;rintro e w' ⟨S',dv,h1,rfl,h2,h3⟩;exact ⟨S',dv,h1,rfl,h2.to (by unfold cC Cx.rd;ac_rfl),h3⟩
 ·have e1:fy c.ask ⟨err,W,D,s⟩ id=((err,[]),⟨err,W,D,s⟩):=by unfold fy;rw [if_pos he]
  rw [e1];refine (IQ w S b c.rd err W D id _ h' he).mono ?_;rintro e w' ⟨S',dv,h1,rfl,h2,h3⟩;exact ⟨S',dv,h1,rfl,h2.to (by unfold cC;ac_rfl),h3⟩
def FR (c:Int):List PanicEntry:=[{ v:=.iface 219 (.int .i64 c),recovered:=false }]
theorem jj (w:World):Calls Tryz.prog 143 #[.int .i64 0] w fun e w'=>e = .returned (.tuple #[])∧w=w':=by
 go_enter Tryz.func143,Tryz.ntmps143
 go_wp2
 go_end0
 exact ⟨rfl,rfl⟩
theorem eZ (w:World) (c:Int) (hc:c≠0):Calls Tryz.prog 143 #[.int .i64 c] w fun e w'=>e = .panicked (FR c)∧w=w':=by
 go_enter Tryz.func143,Tryz.ntmps143
 go_wp2
 exact ⟨rfl,rfl,rfl⟩
theorem gT (w:World):Calls Tryz.prog 83 #[.bool true] w fun e w'=>e = .returned (.tuple #[])∧w=w':=by
 go_enter Tryz.func83,Tryz.ntmps83
 go_wp2
 go_end0
 exact ⟨rfl,rfl⟩
theorem iB (w:World):Calls Tryz.prog 83 #[.bool false] w fun e w'=>e = .panicked (FR 1)∧w=w':=by
 have hc:=eZ w 1 (by decide)
 go_enter Tryz.func83,Tryz.ntmps83
 go_wp2_with fail
 (refine hc.mono ?_)
 rintro e w2 ⟨rfl,rfl⟩
 go_wp2
 exact ⟨rfl,rfl,rfl⟩
def bS (o:Option (List UInt8)) (v:Value):ah:=fun h=>(o=none∧v = .slice none 0 0∧h=fun _=>none)∨∃ l,o=some l∧l.length=480∧bs 5 v l h
structure Wk (σ:Type) where
 c:Cx σ
 n:Nat
 k:Nat
 b:Nat
def Wk.cells {σ:Type} (x:Wk σ) (v:Value) (t:Bool):Array Value:=#[.pointer (some ⟨x.b,0,none⟩),.int .i64 (x.n:Int),v,.bool t]
def bh {σ:Type} (x:Wk σ) (v:Value) (S:Hp) (st:eV σ):ah:=pt x.k (.cells (x.cells v st.dt) 149 (0,0))*cC x.c S x.b st.b
def aL {σ:Type} (x:Wk σ) (S:Hp) (st:eV σ):ah:=ex fun v=>bh x v S st*bS st.bits v
def WQ {σ α:Type} (x:Wk σ) (R:α→Value→ah) (S:Hp) (F:ah) (w:World):Rs α × eV σ→Ending→World→Prop
 | (.ok a,st'),e,w'=>∃ S' v,Ext S S'∧ai w w'∧e = .returned v∧Sat w' (R a v*(aL x S' st'*(aj S'*F)))
 | (.bad c,st'),e,w'=>∃ S',Ext S S'∧ai w w'∧e = .panicked (FR c)∧Sat w' (aL x S' st'*(aj S'*F))
def Pf {σ α:Type} (x:Wk σ) (bv:Value) (R:α→Value→ah) (S:Hp) (F:ah) (w:World):Rs α × eV σ→Ending→World→Prop
 | (.ok a,st'),e,w'=>∃ S' v,Ext S S'∧ai w w'∧e = .returned v∧Sat w' (R a v*(bh x bv S' st'*(aj S'*F)))
 | (.bad c,st'),e,w'=>∃ S',Ext S S'∧ai w w'∧e = .panicked (FR c)∧Sat w' (bh x bv S' st'*(aj S'*F))
def lu (a:Unit) (v:Value):ah:=fact (v = .tuple #[])
def fB (l:List UInt8) (v:Value):ah:=bs 5 v l
theorem wi {σ:Type} (x:Wk σ) (hc:x.c.Ok) (w:World) (bv:Value) (S:Hp) (st:eV σ) (id:Int) (F:ah) (h:Sat w (bh x bv S st*(aj S*F))) :
  Calls Tryz.prog 142 #[.pointer (some ⟨x.k,0,none⟩),.int .i64 id] w (Pf x bv fB S F w (cS x.c.ask id st)):=by
 have h0:Sat w (cC x.c S x.b st.b*(aj S*(pt x.k (.cells (x.cells bv st.dt) 149 (0,0))*F))):=h.to (by unfold bh;ac_rfl);have c0:w.cell? ⟨x.k,0,none⟩=some (.pointer (some ⟨x.b,0,none⟩)):=h0.aq.cell 0;have hr:=ED hc w S x.b st.b id _ h0;have hE:∀ p,fy x.c.ask st.b id=p→cS x.c.ask id st=if p.1.1≠0 then (.bad p.1.1,{ st with b:=p.2 }) else if p.1.2.length≠480 then (.bad 4,{ st with b:=p.2 }) else (.ok p.1.2,{ st with b:=p.2 }):=fun p hp=>by subst hp;rfl
 obtain ⟨⟨⟨c1,l⟩,b'⟩,hp⟩:∃ p,fy x.c.ask st.b id=p:=⟨_,rfl⟩
 have hE2:=hE _ hp;rw [hp] at hr;rw [hE2]
 by_cases h1:c1=0
 ·subst h1
  rw [if_neg (by simp)]
  by_cases hl:l.length=480
  ·rw [if_neg (by simp [hl])]
   have hb1:((480:Int) != 480)=false:=by decide
   have Hl:=ae hl
   go_enter Tryz.func142,Tryz.ntmps142
   go_wp2_with fail
   (refine hr.mono ?_)
   rintro e w1 ⟨S',dv,hS,rfl,h2,d2⟩;have h3:=h2.sm;obtain ⟨va,vc,rfl⟩:=aB h3;rw [Hl.out] at h3 ⊢
   go_wp2_with fail
   (refine (jj w1).mono ?_)
   rintro e w2 ⟨rfl,rfl⟩
   go_wp2_with fail
   go_ret
   exact ⟨S',_,hS,d2,rfl,by unfold bh cC fB;exact h3.to (by unfold cC;ac_rfl)⟩
  ·rw [if_pos hl]
   have hb1:((l.length:Int) != 480)=true:=by rw [bne_iff_ne];omega
   have Hl:=ae hl
   go_enter Tryz.func142,Tryz.ntmps142
   go_wp2_with fail
   (refine hr.mono ?_)
   rintro e w1 ⟨S',dv,hS,rfl,h2,d2⟩;have h3:=h2.sm;obtain ⟨va,vc,rfl⟩:=aB h3
   go_wp2_with fail
   (refine (jj w1).mono ?_)
   rintro e w2 ⟨rfl,rfl⟩
   go_wp2_with fail
   (refine (eZ w1 4 (by decide)).mono ?_)
   rintro e w2 ⟨rfl,rfl⟩
   go_wp2_with fail
   exact ⟨rfl,S',hS,d2,rfl,by unfold bh;exact h3.right.to (by ac_rfl)⟩
 ·rw [if_pos h1]
  have H1:=ae h1
  go_enter Tryz.func142,Tryz.ntmps142
  go_wp2_with fail
  (refine hr.mono ?_)
  rintro e w1 ⟨S',dv,hS,rfl,h2,d2⟩;obtain ⟨rfl,h3⟩:=h2.y6 H1.out
  go_wp2_with fail
  (refine (eZ w1 c1 H1.out).mono ?_)
  rintro e w2 ⟨rfl,rfl⟩
  go_wp2_with fail
  exact ⟨rfl,S',hS,d2,rfl,by unfold bh;exact h3.to (by ac_rfl)⟩
end Go.Fs
namespace Go.SL
open Go.RowKit
section
variable {σ:Type}
def jw (err id:Int) (l:List UInt8):Int:=if err≠0 then err else if id<0∨l.length≠480 then 1 else 0
def bN (id:Int) (l:List UInt8):WM σ Unit:=fun st=>
 if jw st.b.err id l=0 then (.ok (),{ st with b:={ st.b with W:=SL.fw st.b.W id l } }) else (.bad (jw st.b.err id l),st)
def kG (ask:dx σ):WM σ (List UInt8):=fun st=>match st.bits with
 | some l=>(.ok l,st)
 | none=>match cS ask 0 st with
  | (.ok l,st')=>(.ok l,{ st' with bits:=some l })
  | (.bad c,st')=>(.bad c,st')
def xC (id:Nat) (t:Bool) (l:List UInt8):WM σ Unit:=fun st=>(.ok (),{ st with bits:=some (dV l id t),dt:=true })
def fq (ask:dx σ) (id:Nat) (t:Bool):WM σ Unit:=WM.bind (kG ask) (xC id t)
def O8 (l:List UInt8) (st:eV σ):Option Nat→Rs Nat × eV σ
 | some k=>(.ok k,{ st with bits:=some (dV l k true),dt:=true })
 | none=>(.bad 7,st)
def pU (n:Nat) (l:List UInt8):WM σ Nat:=fun st=>O8 l st (eL l n)
def ib (ask:dx σ) (n:Nat):WM σ Nat:=WM.bind (kG ask) (pU n)
theorem se (ask:dx σ) (id:Int) (st:eV σ):(cS ask id st).2.bits=st.bits:=by
 unfold cS;split
 ·rfl
 ·split <;> rfl
theorem jd {ask:dx σ} {id:Int} {st st':eV σ} {l:List UInt8} (h:cS ask id st=(.ok l,st')):l.length=480:=by
 unfold cS at h
 split at h
 ·cases h
 ·split at h
  ·cases h
  ·rename_i h9;simp only [Prod.mk.injEq,Rs.ok.injEq] at h;rw [← h.1];exact Decidable.of_not_not h9
theorem Ad (id:Int) (l:List UInt8) (st:eV σ):(bN id l st).2.bits=st.bits:=by
 unfold bN;split <;> rfl
theorem JY {ask:dx σ} {st st':eV σ} {l:List UInt8} (h:kG ask st=(.ok l,st')) (hb:∀ l,st.bits=some l→l.length=480):st'.bits=some l∧l.length=480:=by
 unfold kG at h
 split at h
 ·rename_i l0 h0
  obtain ⟨rfl,rfl⟩:=h;exact ⟨h0,hb _ h0⟩
 ·split at h
  ·rename_i l1 st1 h1
   obtain ⟨rfl,rfl⟩:=h;exact ⟨rfl,jd h1⟩
  ·cases h
end
end Go.SL
namespace Go.Fs
open Go.RowKit Go.SL Go.Ba
section
variable {σ α:Type}
theorem Sat.eQ {w:World} {x:Wk σ} {S:Hp} {st:eV σ} {F:ah} (h:Sat w (aL x S st*F)):∃ v,Sat w (bh x v S st*(bS st.bits v*F)):=by
 obtain ⟨v,h⟩:=Sat.au.1 h;exact ⟨v,h.to (by ac_rfl)⟩
theorem Sat.iG {w:World} {x:Wk σ} {S:Hp} {st:eV σ} {F:ah} (v:Value) (h:Sat w (bh x v S st*(bS st.bits v*F))):Sat w (aL x S st*F):=
 Sat.au.2 ⟨v,h.to (by ac_rfl)⟩
theorem Sat.CA {w:World} {F:ah} (h:Sat w F):Sat w (bS none (.slice none 0 0)*F):=
 (h.to (cU _).symm).fh fun k hk=>.inl ⟨rfl,rfl,hk⟩
theorem Sat.oM {w:World} {F:ah} {v:Value} {l:List UInt8} (hl:l.length=480) (h:Sat w (bs 5 v l*F)):Sat w (bS (some l) v*F):=
 h.fh fun k hk=>.inr ⟨l,rfl,hl,hk⟩
theorem Sat.mL {w:World} {o:Option (List UInt8)} {v:Value} {F:ah} (h:Sat w (bS o v*F)) :
  (o=none∧v = .slice none 0 0∧Sat w F)∨∃ l,o=some l∧l.length=480∧Sat w (bs 5 v l*F):=by
 obtain ⟨k,a,h1,h2,p,q,d,rfl⟩:=h;rcases p with ⟨rfl,rfl,rfl⟩|⟨l,rfl,hl,hb⟩
 ·refine .inl ⟨rfl,rfl,_,a,?_⟩
  have:join (fun _=>none) h2=h2:=by funext c;simp [join]
  rw [this];exact q
 ·exact .inr ⟨l,rfl,hl,_,a,h1,h2,hb,q,d,rfl⟩
theorem Pf.lift {x:Wk σ} {bv:Value} {R:α→Value→ah} {S:Hp} {F:ah} {w:World} {st:eV σ}:∀ {p:Rs α × eV σ} {e:Ending} {w':World},
  Pf x bv R S (bS st.bits bv*F) w p e w'→p.2.bits=st.bits→WQ x R S F w p e w'
 | (.ok a,st'),e,w',⟨S',v,h1,h2,h3,h4⟩,hb=>by
  refine ⟨S',v,h1,h2,h3,?_⟩;dsimp only at hb;rw [← hb] at h4;exact (Sat.iG bv (h4.to (by ac_rfl):Sat w' (bh x bv S' st'*(bS st'.bits bv*(R a v*(aj S'*F)))))).to (by ac_rfl)
 | (.bad c,st'),e,w',⟨S',h1,h2,h3,h4⟩,hb=>by
  refine ⟨S',h1,h2,h3,?_⟩;dsimp only at hb;rw [← hb] at h4;exact (Sat.iG bv (h4.to (by ac_rfl):Sat w' (bh x bv S' st'*(bS st'.bits bv*(aj S'*F)))))
theorem mQ (x:Wk σ) (hc:x.c.Ok) (w:World) (S:Hp) (st:eV σ) (id:Int) (F:ah) (h:Sat w (aL x S st*(aj S*F))) :
  Calls Tryz.prog 142 #[.pointer (some ⟨x.k,0,none⟩),.int .i64 id] w (WQ x fB S F w (cS x.c.ask id st)):=by
 obtain ⟨v,h1⟩:=Sat.eQ h;refine (wi x hc w v S st id (bS st.bits v*F) (h1.to (by ac_rfl))).mono fun e w' h2=>Pf.lift h2 (se _ _ _)
theorem GI (err id:Int) (l:List UInt8):fR err id l=jw err id l:=rfl
theorem js (x:Wk σ) (w:World) (bv:Value) (S:Hp) (st:eV σ) (id:Int) (dv:Value) (l:List UInt8) (F:ah) (h:Sat w (bh x bv S st*(aj S*F))) (hr:Rd w dv l) :
  Calls Tryz.prog 90 #[.pointer (some ⟨x.k,0,none⟩),.int .i64 id,dv] w (Pf x bv lu S F w (bN id l st)):=by
 have h0:Sat w (az 176 5 S x.b x.c.rd st.b.err st.b.W st.b.D*(aj S*(x.c.RI st.b.s*(pt x.k (.cells (x.cells bv st.dt) 149 (0,0))*F)))):=h.to (by unfold bh cC;ac_rfl);have c0:w.cell? ⟨x.k,0,none⟩=some (.pointer (some ⟨x.b,0,none⟩)):=(h.to (by unfold bh;ac_rfl:_=pt x.k (.cells (x.cells bv st.dt) 149 (0,0))*(cC x.c S x.b st.b*(aj S*F)))).cell 0;have hw:=mO w S x.b x.c.rd st.b.err st.b.W st.b.D id dv l _ h0 hr;unfold gp at hw;rw [GI] at hw;unfold bN
 by_cases hz:jw st.b.err id l=0
 ·rw [if_pos hz]
  have hW:sn st.b.err id l st.b.W=SL.fw st.b.W id l:=uu (by
   unfold jw at hz
   split at hz
   ·rename_i h9;exact absurd hz h9
   ·rename_i h9
    split at hz
    ·cases hz
    ·rename_i h8
     exact ⟨Decidable.of_not_not h9,by omega,by omega⟩)
  rw [hz,hW] at hw;have Hz:=ae hz
  go_enter Tryz.func90,Tryz.ntmps90
  go_wp2_with fail
  (refine hw.mono ?_)
  rintro e w1 ⟨S',hS,rfl,h2,d2⟩
  go_wp2_with fail
  (refine (jj w1).mono ?_)
  rintro e w2 ⟨rfl,rfl⟩
  go_wp2_with fail
  go_end0
  exact ⟨S',_,hS,d2,rfl,Sat.ak.2 ⟨rfl,by unfold bh cC;exact h2.to (by ac_rfl)⟩⟩
 ·rw [if_neg hz]
  have hW:sn st.b.err id l st.b.W=st.b.W:=ng (by
   rintro ⟨h1,h2,h3⟩;apply hz;unfold jw;rw [if_neg (by simp [h1]),if_neg (by omega)])
  rw [hW] at hw;have Hz:=ae hz;generalize jw st.b.err id l=c at *
  go_enter Tryz.func90,Tryz.ntmps90
  go_wp2_with fail
  (refine hw.mono ?_)
  rintro e w1 ⟨S',hS,rfl,h2,d2⟩
  go_wp2_with fail
  (refine (eZ w1 c Hz.out).mono ?_)
  rintro e w2 ⟨rfl,rfl⟩
  go_wp2_with fail
  exact ⟨rfl,S',hS,d2,rfl,by unfold bh cC;exact h2.to (by ac_rfl)⟩
theorem nY (x:Wk σ) (w:World) (S:Hp) (st:eV σ) (id:Int) (dv:Value) (l:List UInt8) (F:ah) (h:Sat w (aL x S st*(aj S*F))) (hr:Rd w dv l) :
  Calls Tryz.prog 90 #[.pointer (some ⟨x.k,0,none⟩),.int .i64 id,dv] w (WQ x lu S F w (bN id l st)):=by
 obtain ⟨v,h1⟩:=Sat.eQ h;refine (js x w v S st id dv l (bS st.bits v*F) (h1.to (by ac_rfl)) hr).mono fun e w' h2=>Pf.lift h2 (Ad _ _ _)
def Pu (x:Wk σ) (S:Hp) (F:ah) (w:World):Rs (List UInt8) × eV σ→Ending→World→Prop
 | (.ok l,st'),e,w'=>∃ S' v,Ext S S'∧ai w w'∧e = .returned v∧l.length=480∧Sat w' (bh x v S' st'*(bs 5 v l*(aj S'*F)))
 | (.bad c,st'),e,w'=>∃ S',Ext S S'∧ai w w'∧e = .panicked (FR c)∧Sat w' (aL x S' st'*(aj S'*F))
theorem su (x:Wk σ) (hc:x.c.Ok) (w:World) (S:Hp) (st:eV σ) (F:ah) (h:Sat w (aL x S st*(aj S*F))) :
  Calls Tryz.prog 96 #[.pointer (some ⟨x.k,0,none⟩)] w (Pu x S F w (kG x.c.ask st)):=by
 obtain ⟨v,h1⟩:=Sat.eQ h;obtain ⟨b,o,dt⟩:=st;have c2:w.cell? ⟨x.k,2,none⟩=some v:=(h1.to (by unfold bh;ac_rfl:_=pt x.k (.cells (x.cells v dt) 149 (0,0))*(cC x.c S x.b b*(bS o v*(aj S*F))))).cell 2;rcases Sat.mL (h1.to (by ac_rfl:_=bS o v*(bh x v S ⟨b,o,dt⟩*(aj S*F)))) with ⟨rfl,rfl,h2⟩|⟨l,rfl,hl,h2⟩
 ·have hr:=wi x hc w (.slice none 0 0) S ⟨b,none,dt⟩ 0 F h2
  have hq:=fun w=>Lib.run_eql_slice_nil (P:=Tryz.prog) w 37 5 none 0 0 0 0 Tryz.underlying37;have hl:=fun l st'=>jd (ask:=x.c.ask) (id:=0) (st:=⟨b,none,dt⟩) (st':=st') (l:=l);have hE:kG x.c.ask ⟨b,none,dt⟩=match cS x.c.ask 0 ⟨b,none,dt⟩ with|(.ok l,st')=>(.ok l,{ st' with bits:=some l })|(.bad c,st')=>(.bad c,st'):=rfl
  have hb:=se x.c.ask 0 ⟨b,none,dt⟩;rw [hE];generalize cS x.c.ask 0 ⟨b,none,dt⟩=p at *;obtain ⟨r,st'⟩:=p
  cases r with
  | ok l=>
   have hl2:=hl l st' rfl;have Hl:=ae hl2
   go_enter Tryz.func96,Tryz.ntmps96
   go_wp2_with fail
   (refine hr.mono ?_)
   rintro e w1 ⟨S',v,hS,d2,rfl,h3⟩;unfold fB at h3;obtain ⟨va,vc,rfl⟩:=aB h3;rw [Hl.out] at h3 ⊢;have h4:Sat w1 (pt x.k (.cells (x.cells (.slice none 0 0) st'.dt) 149 (0,0))*(bs 5 (.slice va 480 vc) l*(cC x.c S' x.b st'.b*(aj S'*F)))):=h3.to (by unfold bh;ac_rfl);have f2:=h4.frozen 2;have h5:=h4.setCell 2 (.slice va 480 vc);have g2:=h4.cell 2
   go_wp2_with fail
   go_ret
   exact ⟨S',_,hS,d2.setCell _ _,rfl,Hl.out,by unfold bh;exact h5.to (by unfold Wk.cells;ac_rfl)⟩
  | bad c=>
   go_enter Tryz.func96,Tryz.ntmps96
   go_wp2_with fail
   (refine hr.mono ?_)
   rintro e w1 ⟨S',hS,d2,rfl,h3⟩
   go_wp2_with fail
   refine ⟨rfl,S',hS,d2,rfl,Sat.iG (.slice none 0 0) ?_⟩;rw [hb];exact (Sat.CA h3).to (by ac_rfl)
 ·have hE:kG x.c.ask ⟨b,some l,dt⟩=(.ok l,⟨b,some l,dt⟩):=rfl
  rw [hE];obtain ⟨va,vc,rfl⟩:=aB h2
  obtain ⟨g,rfl⟩:∃ g,va=some g:=by
   rcases h2.cX with ⟨_,h0,_⟩|⟨g,cap,cur,he,_⟩
   ·omega
   ·cases he;exact ⟨_,rfl⟩
  have Hl:=ae hl;rw [hl] at h2 c2;have hq:=fun w=>Lib.run_eql_slice_nil (P:=Tryz.prog) w 37 5 (some g) 480 vc 0 0 Tryz.underlying37
  go_enter Tryz.func96,Tryz.ntmps96
  go_wp2_with fail
  go_ret
  exact ⟨S,_,Ext.refl S,ai.refl w,rfl,Hl.out,h2.to (by ac_rfl)⟩
theorem yB (x:Wk σ) (hc:x.c.Ok) (w:World) (S:Hp) (st:eV σ) (id:Nat) (t:Bool) (F:ah) (hid:id<3840) (h:Sat w (aL x S st*(aj S*F))) :
  Calls Tryz.prog 87 #[.pointer (some ⟨x.k,0,none⟩),.int .i64 (id:Int),.bool t] w (WQ x lu S F w (fq x.c.ask id t st)):=by
 have hb:=su x hc w S st F h;obtain ⟨⟨r,st'⟩,hp⟩:∃ p,kG x.c.ask st=p:=⟨_,rfl⟩
 rw [hp] at hb
 cases r with
 | ok l=>
  have hE:fq x.c.ask id t st=xC id t l st':=WM.aZ hp;rw [hE]
  go_enter Tryz.func87,Tryz.ntmps87
  go_wp2_with fail
  (refine hb.mono ?_)
  rintro e w1 ⟨S',v,hS,d1,rfl,hl,h2⟩;have hs:=sa w1 v l (bh x v S' st'*(aj S'*F)) (h2.to (by ac_rfl)) hl id hid t;have hsl:=aB (h2.ag);obtain ⟨va,vc,rfl⟩:=hsl;have Hl:=ae hl;rw [hl] at hs h2 ⊢
  go_wp2_with fail
  (refine hs.mono ?_)
  rintro e w2 ⟨rfl,h3,d2⟩;have h4:Sat w2 (pt x.k (.cells (x.cells (.slice va 480 vc) st'.dt) 149 (0,0))*(cC x.c S' x.b st'.b*(bs 5 (.slice va 480 vc) (dV l id t)*(aj S'*F)))):=h3.to (by unfold bh;ac_rfl);have f3:=h4.frozen 3;have g3:=h4.cell 3;have h5:=h4.setCell 3 (.bool true)
  go_wp2_with fail
  go_end0
  refine ⟨S',_,hS,(d1.trans d2).setCell _ _,rfl,Sat.ak.2 ⟨rfl,Sat.iG (.slice va 480 vc) ?_⟩⟩;have h6:=Sat.oM (l:=dV l id t) (by rw [eJ];exact Hl.out) h5.aq;exact h6.to (by unfold bh Wk.cells;simp only [List.setIfInBounds_toArray,List.set_cons_succ,List.set_cons_zero];ac_rfl)
 | bad c=>
  have hE:fq x.c.ask id t st=(.bad c,st'):=WM.bG hp;rw [hE]
  go_enter Tryz.func87,Tryz.ntmps87
  go_wp2_with fail
  (refine hb.mono ?_)
  rintro e w1 ⟨S',hS,d1,rfl,h2⟩
  go_wp2_with fail
  exact ⟨rfl,S',hS,d1,rfl,h2⟩
theorem bitsLen {w:World} {x:Wk σ} {S:Hp} {st:eV σ} {F:ah} (h:Sat w (aL x S st*F)):∀ l,st.bits=some l→l.length=480:=by
 intro l hl;obtain ⟨v,h1⟩:=Sat.eQ h;rcases Sat.mL (h1.to (by ac_rfl:_=bS st.bits v*(bh x v S st*F))) with ⟨h2,_⟩|⟨l2,h2,h3,_⟩
 ·rw [hl] at h2;cases h2
 ·rw [hl] at h2;cases h2;exact h3
def Pn (v:Value) (l:List UInt8) (F:ah) (w:World):Option Nat→Ending→World→Prop
 | none,e,w'=>e = .returned (.tuple #[.int .i64 0,.bool false])∧Sat w' (bs 5 v l*F)∧ai w w'
 | some n,e,w'=>e = .returned (.tuple #[.int .i64 (n:Int),.bool true])∧Sat w' (bs 5 v (dV l n true)*F)∧ai w w'
theorem FK (w:World) (v:Value) (l:List UInt8) (F:ah) (h:Sat w (bs 5 v l*F)) (hl:l.length=480) (e:Nat) (he:e≤3840) :
  Calls Tryz.prog 168 #[v,.int .i64 (e:Int)] w (Pn v l F w (eL l e)):=by
 refine Ka w v l F h hl e he _ (fun h1 w' h2 h3=>?_) (fun n h1 w' h2 h3=>?_)
 ·rw [h1];exact ⟨rfl,h2,h3⟩
 ·rw [h1];exact ⟨rfl,h2,h3⟩
def Jc (a:Nat) (v:Value):ah:=fact (v = .int .i64 (a:Int))
theorem mW (x:Wk σ) (hc:x.c.Ok) (hn:x.n≤3840) (w:World) (S:Hp) (st:eV σ) (F:ah) (h:Sat w (aL x S st*(aj S*F))) :
  Calls Tryz.prog 122 #[.pointer (some ⟨x.k,0,none⟩)] w (WQ x Jc S F w (ib x.c.ask x.n st)):=by
 have hb:=fun (w:World) h=>su x hc w S st F h;obtain ⟨v0,h1⟩:=Sat.eQ h;have c1:=(h1.to (by unfold bh;ac_rfl:_=pt x.k (.cells (x.cells v0 st.dt) 149 (0,0))*(cC x.c S x.b st.b*(bS st.bits v0*(aj S*F))))).cell 1;obtain ⟨⟨r,st'⟩,hp⟩:∃ p,kG x.c.ask st=p:=⟨_,rfl⟩
 rw [hp] at hb
 cases r with
 | ok l=>
  have hE:ib x.c.ask x.n st=pU x.n l st':=WM.aZ hp;have Hst:=JY hp (bitsLen h);rw [hE];unfold pU;have ht:=fun w v F h hl=>FK w v l F h hl x.n hn;obtain ⟨o,ho⟩:∃ o,eL l x.n=o:=⟨_,rfl⟩
  rw [ho];rw [ho] at ht
  cases o with
  | some n=>
   go_enter Tryz.func122,Tryz.ntmps122
   go_wp2_with fail
   go_region_held3 (fun w'=>w'.cell? ⟨x.k,1,none⟩=some (.int .i64 (x.n:Int)))
    (first|exact c1|exact k1|exact k2|go_keep)
    (first
     | (go_at_call 96;refine (hb w.drew h.drew).mono ?_;rintro e w1 ⟨S',v,hS,d1,rfl,hl,h2⟩;have k1:w1.cell? ⟨x.k,1,none⟩=some (.int .i64 (x.n:Int)):=(h2.to (by unfold bh;ac_rfl:_=pt x.k (.cells (x.cells v st'.dt) 149 (0,0))*(cC x.c S' x.b st'.b*(bs 5 v l*(aj S'*F))))).cell 1)
     | (go_at_call 168;refine (ht w1 v (bh x v S' st'*(aj S'*F)) (h2.to (by ac_rfl)) hl).mono ?_;rintro e w2 ⟨rfl,h3,d2⟩;have k2:w2.cell? ⟨x.k,1,none⟩=some (.int .i64 (x.n:Int)):=(h3.to (by unfold bh;ac_rfl:_=pt x.k (.cells (x.cells v st'.dt) 149 (0,0))*(cC x.c S' x.b st'.b*(bs 5 v (dV l n true)*(aj S'*F))))).cell 1))
   have h4:Sat w2 (pt x.k (.cells (x.cells v st'.dt) 149 (0,0))*(cC x.c S' x.b st'.b*(bs 5 v (dV l n true)*(aj S'*F)))):=h3.to (by unfold bh;ac_rfl);have f3:=h4.frozen 3;have g3:=h4.cell 3;have h5:=h4.setCell 3 (.bool true);have Hl:=ae hl
   go_wp2_with fail
   go_ret
   refine ⟨S',_,hS,(((ai.refl w).drew.trans d1).trans d2).setCell _ _,rfl,Sat.ak.2 ⟨rfl,Sat.iG v ?_⟩⟩;have h6:=Sat.oM (l:=dV l n true) (by rw [eJ];exact Hl.out) h5.aq;exact h6.to (by unfold bh Wk.cells;simp only [List.setIfInBounds_toArray,List.set_cons_succ,List.set_cons_zero];ac_rfl)
  | none=>
   go_enter Tryz.func122,Tryz.ntmps122
   go_wp2_with fail
   go_region_held3 (fun w'=>w'.cell? ⟨x.k,1,none⟩=some (.int .i64 (x.n:Int)))
    (first|exact c1|exact k1|exact k2|go_keep)
    (first
     | (go_at_call 96;refine (hb w.drew h.drew).mono ?_;rintro e w1 ⟨S',v,hS,d1,rfl,hl,h2⟩;have k1:w1.cell? ⟨x.k,1,none⟩=some (.int .i64 (x.n:Int)):=(h2.to (by unfold bh;ac_rfl:_=pt x.k (.cells (x.cells v st'.dt) 149 (0,0))*(cC x.c S' x.b st'.b*(bs 5 v l*(aj S'*F))))).cell 1)
     | (go_at_call 168;refine (ht w1 v (bh x v S' st'*(aj S'*F)) (h2.to (by ac_rfl)) hl).mono ?_;rintro e w2 ⟨rfl,h3,d2⟩;have k2:w2.cell? ⟨x.k,1,none⟩=some (.int .i64 (x.n:Int)):=(h3.to (by unfold bh;ac_rfl:_=pt x.k (.cells (x.cells v st'.dt) 149 (0,0))*(cC x.c S' x.b st'.b*(bs 5 v (l)*(aj S'*F))))).cell 1))
   have Hl:=ae hl
   go_wp2_with fail
   (refine (eZ w2 7 (by decide)).mono ?_)
   rintro e w3 ⟨rfl,rfl⟩
   go_wp2_with fail
   refine ⟨rfl,S',hS,((ai.refl w).drew.trans d1).trans d2,rfl,Sat.iG v ?_⟩;obtain ⟨h8,_⟩:=Hst;rw [h8];exact (Sat.oM Hl.out h3).to (by ac_rfl)
 | bad c=>
  have hE:ib x.c.ask x.n st=(.bad c,st'):=WM.bG hp;rw [hE]
  go_enter Tryz.func122,Tryz.ntmps122
  go_wp2_with fail
  refine wp_region_held_drew (S:=(fun w'=>w'.cell? ⟨x.k,1,none⟩=some (.int .i64 (x.n:Int)))) (by kernel_rfl) ?_ (fun hHeld=>?_)
  ·(first|exact c1|go_keep)
  refine tk 0 ?_;refine tk 2 ?_;refine tk 3 ?_;refine tk 4 ?_;refine tk 5 ?_;refine tr 1 fun K hK=>?_
  go_simp
  go_wp2_with (go_at_call 96;refine (hb w.drew h.drew).mono ?_;rintro e w1 ⟨S',hS,d1,rfl,h2⟩)
  exact ⟨rfl,S',hS,(ai.refl w).drew.trans d1,rfl,h2⟩
end
end Go.Fs
namespace Go.SL
open Go.RowKit
structure Hd where
 id:Nat
 n:Nd
 row:List Int
def Hd.l (h:Hd):List Int:=(h.id:Int) :: (h.n.l++h.row)
def Hd.fit (h:Hd):Prop:=h.n.dr.length=16∧h.row.length=240
def Hd.bg (h:Hd) (i:Nat):Int:=if i<16 then h.n.dr.getD i 0 else h.row.getD (i-16) 0
def Hd.put (h:Hd) (i:Nat) (b:Int):Hd:=if i<16 then { h with n:={ h.n with dr:=h.n.dr.set i b } } else { h with row:=h.row.set (i-16) b }
theorem Hd.CD {h:Hd} (hf:h.fit) (i:Nat) (b:Int):(h.put i b).fit:=by
 unfold Hd.put;split
 ·exact ⟨by simpa using hf.1,hf.2⟩
 ·exact ⟨hf.1,by simpa using hf.2⟩
theorem Hd.tu {h:Hd} (hf:h.fit):h.l.length=261:=by
 simp [Hd.l,Nd.cells hf.1,hf.2]
theorem Hd.QR {h:Hd} (hf:h.fit) {i:Nat} (hi:i<16):h.l.getD (4+i) 0=h.bg i:=by
 have e:h.l=(h.id:Int) :: h.n.kd :: h.n.lk :: h.n.sz :: (h.n.dr++([h.n.rw]++h.row)):=by simp [Hd.l,Nd.l]
 unfold Hd.bg;rw [if_pos hi,e,Nat.add_comm 4 i];simp only [List.getD,List.getElem?_cons_succ];rw [List.getElem?_append_left (by rw [hf.1];exact hi)]
theorem Hd.Pw {h:Hd} (hf:h.fit) {i:Nat} (hi:16≤i):h.l.getD (21+(i-16)) 0=h.bg i:=by
 have e:h.l=((h.id:Int) :: h.n.l)++h.row:=rfl;unfold Hd.bg;rw [if_neg (by omega),e,List.getD,List.getD,List.getElem?_append_right (by simp [Nd.cells hf.1])];simp [Nd.cells hf.1]
theorem Hd.Pr {h:Hd} (hf:h.fit) {i:Nat} (b:Int):(h.put i b).l=h.l.set (if i<16 then 4+i else 21+(i-16)) b:=by
 unfold Hd.put
 split
 ·rename_i hi
  have e:h.l=(h.id:Int) :: h.n.kd :: h.n.lk :: h.n.sz :: (h.n.dr++([h.n.rw]++h.row)):=by simp [Hd.l,Nd.l]
  rw [e,Nat.add_comm 4 i];simp only [List.set_cons_succ];rw [List.set_append,if_pos (by rw [hf.1];exact hi)];simp [Hd.l,Nd.l]
 ·rename_i hi
  have e:h.l=((h.id:Int) :: h.n.l)++h.row:=rfl;have hl:((h.id:Int) :: h.n.l).length=21:=by simp [Nd.cells hf.1]
  rw [e,List.set_append,hl,if_neg (by omega),show 21+(i-16)-21=i-16 by omega]
  rfl
section
variable {σ:Type}
def ed (n:Nat) (l:List Int):WM σ Unit:=fun st=>(if l.all (fun x=>decide (x<n))=true then .ok () else .bad 4,st)
end
end Go.SL
namespace Go.Fs
open Go.RowKit Go.SL Go.Ba
def aW (hb:Nat) (h:Hd):ah:=fact h.fit*pt hb (.cells (ints h.l) 137 (0,0))
theorem Sat.held {w:World} {hb:Nat} {h:Hd} {F:ah}:Sat w (aW hb h*F)↔h.fit∧Sat w (pt hb (.cells (ints h.l) 137 (0,0))*F):=by
 constructor
 ·intro h1;exact Sat.ak.1 (h1.to (aw _ _ _))
 ·intro h1;exact (Sat.ak.2 h1).to (aw _ _ _).symm
def LS (n:Nat) (l:List Int) (w:World) (u:Value) (wr:World):Prop:=
 ∃ k:Nat,k≤l.length∧u = .int .i64 (k:Int)∧(∀ j,j<k→l.getD j 0<n)∧w=wr
theorem iH (w:World) (k n:Nat) (v:Value) (l:List Int) (hl:l.length≤1000) (hr:nC w v l) (h1:w.cell? ⟨k,1,none⟩=some (.int .i64 (n:Int)))
  (Q:Ending→World→Prop) (hY:l.all (fun x=>decide (x<n))=true→Q (.returned (.tuple #[])) w) (hN:l.all (fun x=>decide (x<n))=false→Q (.panicked (FR 4)) w) :
  Calls Tryz.prog 144 #[.pointer (some ⟨k,0,none⟩),v] w Q:=by
 have HY:=ae hY;have HN:=ae hN;have hl':(l.length:Int)≤1000:=by omega
 have hat:=fun j (hj:j<l.length)=>hr.QO hj;obtain ⟨va,vc,rfl⟩:=hr.Bn;obtain ⟨m,hm⟩:∃ m,l.length=m:=⟨_,rfl⟩
 rw [hm] at hl' hat ⊢;have Hm:=ae hm;clear hm hl
 go_enter Tryz.func144,Tryz.ntmps144
 go_wp2_with fail
 go_loopw [8] (fun u wr=>LS n l w u wr) (fun u _=>m-(intOf u).toNat)
 case atStart=>exact ⟨0,Nat.zero_le _,rfl,fun j hj=>absurd hj (Nat.not_lt_zero _),rfl⟩
 case round=>
  obtain ⟨j,hj,rfl,hall,rfl⟩:=hrel;rw [Hm.out] at hj
  by_cases hlt:j<m
  ·have hlt':(j:Int)<(m:Int):=by omega
   obtain ⟨g,o,c,e,hc⟩:=hat j hlt;obtain ⟨rfl,-,rfl⟩:=e;have hmem:l.getD j 0 ∈ l:=by rw [List.getD,List.getElem?_eq_getElem (by rw [Hm.out];exact hlt)];exact List.getElem_mem _
   by_cases hx:l.getD j 0<n
   ·have hnx:∀ i,i<j+1→l.getD i 0<n:=fun i hi=>by
     rcases Nat.lt_or_eq_of_le (Nat.le_of_lt_succ hi) with h9|h9
     ·exact hall i h9
     ·rw [h9];exact hx
    have Hnx:=ae hnx;have hx2:¬ ((n:Int)≤l.getD j 0):=by omega
    go_wp2_with fail
    go_roundw
    case rel=>exact ⟨j+1,by rw [Hm.out];omega,by go_num,Hnx.out,rfl⟩
    case measure=>simp [intOf];omega
   ·have hx2:(n:Int)≤l.getD j 0:=by omega
    have hno:l.all (fun x=>decide (x<n))=false:=by grind
    have Hq:=ae (HN.out hno)
    go_wp2_with fail
    (refine (eZ _ 4 (by decide)).mono ?_)
    rintro e w2 ⟨rfl,rfl⟩
    go_wp2_with fail
    exact ⟨rfl,Hq.out⟩
  ·obtain rfl:j=m:=by omega
   have hyes:l.all (fun x=>decide (x<n))=true:=by
    rw [List.all_eq_true];intro x hx;obtain ⟨i,hi,rfl⟩:=List.getElem_of_mem hx;have:=hall i (by rw [← Hm.out];exact hi);rw [List.getD,List.getElem?_eq_getElem hi] at this;simpa using this
   have Hq:=ae (HY.out hyes)
   go_wp2_with fail
   go_end0
   exact Hq.out
def Oe (z:Int) (w:World) (e:Ending) (w':World):Prop:=e = .returned (.int .i64 z)∧w=w'
theorem yU (w:World) (hb:Nat) (h:Hd) (F:ah) (hs:Sat w (aW hb h*F)) (i:Nat) (hi:i<256) :
  Calls Tryz.prog 86 #[.pointer (some ⟨hb,0,none⟩),.int .i64 (i:Int)] w (Oe (h.bg i) w):=by
 obtain ⟨hf,h2⟩:=Sat.held.1 hs
 have hcell:∀ j,j<261→w.cell? ⟨hb,j,none⟩=some (.int .i64 (h.l.getD j 0)):=fun j hj=>by
  rw [h2.cell,bA (by rw [Hd.tu hf];exact hj)]
 by_cases h16:i<16
 ·have hc:=hcell (4+i) (by omega)
  rw [Hd.QR hf h16] at hc
  go_enter Tryz.func86,Tryz.ntmps86
  go_wp2_with fail
  go_ret
  exact ⟨rfl,rfl⟩
 ·have hc:=hcell (21+(i-16)) (by omega)
  rw [Hd.Pw hf (by omega)] at hc
  go_enter Tryz.func86,Tryz.ntmps86
  go_wp2_with fail
  go_ret
  exact ⟨rfl,rfl⟩
def Pk (hb:Nat) (h:Hd) (F:ah) (w:World) (e:Ending) (w':World):Prop:=e = .returned (.tuple #[])∧Sat w' (aW hb h*F)∧ai w w'
theorem sD (w:World) (hb:Nat) (h:Hd) (F:ah) (hs:Sat w (aW hb h*F)) (i:Nat) (hi:i<256) (b:Int) :
  Calls Tryz.prog 149 #[.pointer (some ⟨hb,0,none⟩),.int .i64 (i:Int),.int .i64 b] w (Pk hb (h.put i b) F w):=by
 obtain ⟨hf,h2⟩:=Sat.held.1 hs
 have hcell:∀ j,j<261→w.cell? ⟨hb,j,none⟩=some (.int .i64 (h.l.getD j 0)):=fun j hj=>by
  rw [h2.cell,bA (by rw [Hd.tu hf];exact hj)]
 have hset:∀ j,Sat (w.setCell ⟨hb,j,none⟩ (.int .i64 b)) (pt hb (.cells (ints (h.l.set j b)) 137 (0,0))*F):=fun j=>by
  have:=h2.setCell j (.int .i64 b)
  rwa [fZ] at this
 have hpl:=Hd.Pr hf (i:=i) b;have hpf:=Hd.CD hf i b
 by_cases h16:i<16
 ·have hc:=hcell (4+i) (by omega)
  have hz:=h2.frozen (4+i);rw [if_pos h16] at hpl;have hst:=Sat.held.2 ⟨hpf,by rw [hpl];exact hset (4+i)⟩;have Hst:=ae hst
  go_enter Tryz.func149,Tryz.ntmps149
  go_wp2_with fail
  go_end0
  exact ⟨rfl,Hst.out,(ai.refl w).setCell _ _⟩
 ·have hc:=hcell (21+(i-16)) (by omega)
  have hz:=h2.frozen (21+(i-16));rw [if_neg h16] at hpl;have hst:=Sat.held.2 ⟨hpf,by rw [hpl];exact hset _⟩;have Hst:=ae hst
  go_enter Tryz.func149,Tryz.ntmps149
  go_wp2_with fail
  go_end0
  exact ⟨rfl,Hst.out,(ai.refl w).setCell _ _⟩
end Go.Fs
namespace Go.SL
open Go.RowKit
def jA (L:List UInt8):Nd × Int:=if ((gP L).ok && (L.drop 41).all (· == 0))=true then (gP L,0) else (⟨0,0,0,List.replicate 16 0,0⟩,4)
def kq (L:List UInt8):List Int × Int:=if (bu L 0 240).all cP=true then (bu L 0 240,0) else (List.replicate 240 0,4)
theorem Cs (L:List UInt8):(jA L).1.dr.length=16:=by
 unfold jA;split
 ·exact bf _ _ _
 ·rfl
theorem yd (L:List UInt8):(kq L).1.length=240:=by
 unfold kq;split
 ·exact bf _ _ _
 ·rfl
theorem O0 (L:List UInt8):(jA L).2=0∨(jA L).2=4:=by unfold jA;split;exact .inl rfl;exact .inr rfl
theorem OQ (L:List UInt8):(kq L).2=0∨(kq L).2=4:=by unfold kq;split;exact .inl rfl;exact .inr rfl
section
variable {σ:Type}
def ik (n:Nat) (id:Nat) (nd:Nd) (row:List Int):WM σ Hd:=WM.bind (ed n nd.dr) fun _=>WM.bind (ed n row) fun _=>WM.pure ⟨id,nd,row⟩
def NH (p:Nd × Int) (k:Nd→WM σ Hd):WM σ Hd:=fun st=>if p.2=0 then k p.1 st else (.bad p.2,st)
def JF (p:List Int × Int) (k:List Int→WM σ Hd):WM σ Hd:=fun st=>if p.2=0 then k p.1 st else (.bad p.2,st)
def jS (ask:dx σ) (n:Nat) (id:Nat) (nd:Nd):WM σ Hd:=fun st=>
 if nd.rw=0 then ik n id nd (List.replicate 240 0) st
 else (WM.bind (ed n [nd.rw]) fun _=>WM.bind (cS ask nd.rw) fun L=>JF (kq L) (ik n id nd)) st
def gQ (ask:dx σ) (n:Nat) (id:Int):WM σ Hd:=fun st=>
 if 1≤id∧id<n then (WM.bind (cS ask id) fun L=>NH (jA L) (jS ask n id.toNat)) st else (.bad 1,st)
end
end Go.SL
namespace Go.Fs
open Go.RowKit Go.SL Go.Ba
theorem xR (d x0 x1 x2 x3 x4 x5 x6 x7 x8 x9 x10 x11 x12 x13 x14 x15 x16 x17 x18 x19:Int):Tryz.prog.built 137 [(0,.int .i64 d),(1,.agg #[.int .i64 x0,.int .i64 x1,.int .i64 x2,.int .i64 x3,.int .i64 x4,.int .i64 x5,.int .i64 x6,.int .i64 x7,.int .i64 x8,.int .i64 x9,.int .i64 x10,.int .i64 x11,.int .i64 x12,.int .i64 x13,.int .i64 x14,.int .i64 x15,.int .i64 x16,.int .i64 x17,.int .i64 x18,.int .i64 x19])]=some (ints ([d,x0,x1,x2,x3,x4,x5,x6,x7,x8,x9,x10,x11,x12,x13,x14,x15,x16,x17,x18,x19]++List.replicate 240 0)):=by kernel_rfl
theorem On {l:List Int} (h:l.length=16):∃ a0 a1 a2 a3 a4 a5 a6 a7 a8 a9 a10 a11 a12 a13 a14 a15,l=[a0,a1,a2,a3,a4,a5,a6,a7,a8,a9,a10,a11,a12,a13,a14,a15]:=by
 match l,h with
 | [a0,a1,a2,a3,a4,a5,a6,a7,a8,a9,a10,a11,a12,a13,a14,a15],_=>exact ⟨a0,a1,a2,a3,a4,a5,a6,a7,a8,a9,a10,a11,a12,a13,a14,a15,rfl⟩
theorem nW (d:Int) (n:Nd) (h:n.dr.length=16):Tryz.prog.built 137 [(0,.int .i64 d),(1,.agg (n.l.map (Value.int .i64)).toArray)]=some (ints (d :: (n.l++List.replicate 240 0))):=by
 obtain ⟨kd,lk,sz,dr,rw⟩:=n;obtain ⟨a0,a1,a2,a3,a4,a5,a6,a7,a8,a9,a10,a11,a12,a13,a14,a15,rfl⟩:=On h;exact xR d kd lk sz a0 a1 a2 a3 a4 a5 a6 a7 a8 a9 a10 a11 a12 a13 a14 a15 rw
theorem gh {P:Program} {ops:Array Oper} {rest:List Oper} {o:Oper} {a:Act} {w:World} {Q:Exit→Act→World→Prop} (hg:o.guard=none) (t:TypeId) (parts:Array (Nat × Operand)) (ho:o.op = .build t parts)
  (l:List (Nat × Value)) (hl:parts.toList.map (fun p=>(p.1,a.eval p.2))=l) (C:Array Value) (hb:P.built t l=some C) (h:wpList P ops Q rest (a.put o.dst (.agg C)) w):wpList P ops Q (o :: rest) a w:=by
 have e:P.built t (parts.map fun (i,x)=>(i,a.eval x)).toList=some C:=by rw [Array.toList_map];exact hl▸hb
 exact wpList_build hg t parts ho (by rw [e];rfl) (by rw [e];exact h)
def Qs (L:List UInt8) (w:World) (e:Ending) (w':World):Prop:=e = .returned (.tuple #[(jA L).1.v,.int .i64 (jA L).2])∧Sat w' (whole w)∧ai w w'
def M4 (L:List UInt8) (w:World) (e:Ending) (w':World):Prop:=e = .returned (.tuple #[.agg (ints (kq L).1),.int .i64 (kq L).2])∧Sat w' (whole w)∧ai w w'
theorem LX (w:World) (v:Value) (L:List UInt8) (hr:Rd w v L) (hL:L.length=480):Calls Tryz.prog 141 #[v] w (Qs L w):=by
 refine nU w v L hr hL _ (fun h1 h2 w' h3 h4=>?_) (fun h1 w' h3 h4=>?_)
 ·have e:jA L=(gP L,0):=if_pos (by rw [h1,h2];rfl)
  exact ⟨by rw [e],h3,h4⟩
 ·have e:jA L=(⟨0,0,0,List.replicate 16 0,0⟩,4):=if_neg (by rcases h1 with h|h <;> rw [h] <;> simp)
  exact ⟨by rw [e];rfl,h3,h4⟩
theorem Kv (w:World) (v:Value) (L:List UInt8) (hr:Rd w v L) (hL:L.length=480):Calls Tryz.prog 145 #[v] w (M4 L w):=by
 refine uO w v L hr hL _ (fun h1 w' h3 h4=>?_) (fun h1 w' h3 h4=>?_)
 ·have e:kq L=(bu L 0 240,0):=if_pos h1
  exact ⟨by rw [e],h3,h4⟩
 ·have e:kq L=(List.replicate 240 0,4):=if_neg (by rw [h1];simp)
  exact ⟨by rw [e];rfl,h3,h4⟩
section
variable {σ α:Type}
theorem xz {w:World} {x:Wk σ} {S:Hp} {st:eV σ} {F:ah} (h:Sat w (aL x S st*F)):w.cell? ⟨x.k,1,none⟩=some (.int .i64 (x.n:Int)):=by
 obtain ⟨v,h1⟩:=Sat.eQ h;exact (h1.to (by unfold bh;ac_rfl:_=pt x.k (.cells (x.cells v st.dt) 149 (0,0))*(cC x.c S x.b st.b*(bS st.bits v*F)))).cell 1
def rF (h:Hd) (v:Value):ah:=ex fun hb=>fact (v=ax hb)*aW hb h
theorem G4 {ask:dx σ} {n:Nat} {id:Int} {st:eV σ} (h:¬ (1≤id∧id<n)):gQ ask n id st=(.bad 1,st):=if_neg h
theorem DL {ask:dx σ} {n:Nat} {id:Int} {st st1:eV σ} {c:Int} (h:1≤id∧id<n) (hp:cS ask id st=(.bad c,st1)):gQ ask n id st=(.bad c,st1):=
 (if_pos h).trans (WM.bG hp)
theorem Ed {ask:dx σ} {n:Nat} {id:Int} {st st1:eV σ} {L:List UInt8} {nd:Nd} (h:1≤id∧id<n) (hp:cS ask id st=(.ok L,st1)) (hd:jA L=(nd,4)):gQ ask n id st=(.bad 4,st1):=by
 refine ((if_pos h).trans (WM.aZ hp)).trans ?_;rw [hd];exact if_neg (show ¬ (4:Int)=0 by decide)
theorem Gc {ask:dx σ} {n:Nat} {id:Int} {st st1:eV σ} {L:List UInt8} {nd:Nd} (h:1≤id∧id<n) (hp:cS ask id st=(.ok L,st1)) (hd:jA L=(nd,0)):gQ ask n id st=jS ask n id.toNat nd st1:=by
 refine ((if_pos h).trans (WM.aZ hp)).trans ?_;rw [hd];exact if_pos rfl
theorem gB {n:Nat} {l:List Int} {st:eV σ} (h:l.all (fun x=>decide (x<n))=true):ed n l st=(.ok (),st):=by unfold ed;rw [if_pos h]
theorem og {n:Nat} {l:List Int} {st:eV σ} (h:l.all (fun x=>decide (x<n))=false):ed n l st=(.bad 4,st):=by unfold ed;rw [if_neg (by rw [h];simp)]
theorem vI {n id:Nat} {nd:Nd} {row:List Int} {st:eV σ} (h1:nd.dr.all (fun x=>decide (x<n))=true) (h2:row.all (fun x=>decide (x<n))=true):ik n id nd row st=(.ok ⟨id,nd,row⟩,st):=
 (WM.aZ (gB h1)).trans (WM.aZ (gB h2))
theorem s6 {n id:Nat} {nd:Nd} {row:List Int} {st:eV σ} (h1:nd.dr.all (fun x=>decide (x<n))=true) (h2:row.all (fun x=>decide (x<n))=false):ik n id nd row st=(.bad 4,st):=
 (WM.aZ (gB h1)).trans (WM.bG (og h2))
theorem tJ {n id:Nat} {nd:Nd} {row:List Int} {st:eV σ} (h1:nd.dr.all (fun x=>decide (x<n))=false):ik n id nd row st=(.bad 4,st):=
 WM.bG (og h1)
theorem JN {ask:dx σ} {n id:Nat} {nd:Nd} {st:eV σ} (h:nd.rw=0):jS ask n id nd st=ik n id nd (List.replicate 240 0) st:=if_pos h
theorem I0 {ask:dx σ} {n id:Nat} {nd:Nd} {st:eV σ} (h:nd.rw≠0) (h1:[nd.rw].all (fun x=>decide (x<n))=false):jS ask n id nd st=(.bad 4,st):=
 (if_neg h).trans (WM.bG (og h1))
theorem Jg {ask:dx σ} {n id:Nat} {nd:Nd} {st st2:eV σ} {c:Int} (h:nd.rw≠0) (h1:[nd.rw].all (fun x=>decide (x<n))=true) (h2:cS ask nd.rw st=(.bad c,st2)):jS ask n id nd st=(.bad c,st2):=
 (if_neg h).trans ((WM.aZ (gB h1)).trans (WM.bG h2))
theorem Is {ask:dx σ} {n id:Nat} {nd:Nd} {st st2:eV σ} {L:List UInt8} {row:List Int} (h:nd.rw≠0) (h1:[nd.rw].all (fun x=>decide (x<n))=true) (h2:cS ask nd.rw st=(.ok L,st2)) (h3:kq L=(row,4)):jS ask n id nd st=(.bad 4,st2):=by
 refine (if_neg h).trans ((WM.aZ (gB h1)).trans ((WM.aZ h2).trans ?_));rw [h3];exact if_neg (show ¬ (4:Int)=0 by decide)
theorem JR {ask:dx σ} {n id:Nat} {nd:Nd} {st st2:eV σ} {L:List UInt8} {row:List Int} (h:nd.rw≠0) (h1:[nd.rw].all (fun x=>decide (x<n))=true) (h2:cS ask nd.rw st=(.ok L,st2)) (h3:kq L=(row,0)):jS ask n id nd st=ik n id nd row st2:=by
 refine (if_neg h).trans ((WM.aZ (gB h1)).trans ((WM.aZ h2).trans ?_));rw [h3];exact if_pos rfl
theorem Af (id:Int) (nl z r:List Int) (hn:nl.length=20) (hz:z.length=240) (hr:r.length=240):fp (ints (id :: (nl++z))) 21 (r.map (Value.int .i64))=ints (id :: (nl++r)):=by
 have hsz:(ints (id :: (nl++z))).size=261:=by rw [dw];simp [hn,hz]
 apply Array.ext_getElem?;intro k;rw [il _ _ _ _ (by rw [List.length_map,hr,hsz];decide),List.length_map,hr,dm,dm]
 by_cases hk:21≤k∧k<21+240
 ·rw [if_pos hk,List.getElem?_map]
  obtain ⟨j,rfl⟩:∃ j,k=j+1:=⟨k-1,by omega⟩
  rw [List.getElem?_cons_succ,List.getElem?_append_right (by omega),hn];congr 2
 ·rw [if_neg hk]
  rcases Nat.lt_or_ge k 21 with h9|h9
  ·cases k with
   | zero=>rfl
   | succ j=>rw [List.getElem?_cons_succ,List.getElem?_cons_succ,List.getElem?_append_left (by omega),List.getElem?_append_left (by omega)]
  ·rw [List.getElem?_eq_none (by simp [hn,hz];omega),List.getElem?_eq_none (by simp [hn,hr];omega)]
theorem tj (x:Wk σ) (hc:x.c.Ok) (w:World) (S:Hp) (st:eV σ) (id:Int) (F:ah) (h:Sat w (aL x S st*(aj S*F))) (Q:Ending→World→Prop)
  (hQ:∀ e w',WQ x rF S F w (gQ x.c.ask x.n id st) e w'→Q e w') :
  Calls Tryz.prog 82 #[.pointer (some ⟨x.k,0,none⟩),.int .i64 id] w Q:=by
 have c1:=xz h
 by_cases hid:1≤id∧id<x.n
 ·have hr:=mQ x hc w S st id F h
  have Hid:=ae hid;obtain ⟨i1,i2⟩:=hid;clear h;obtain ⟨⟨r,st1⟩,hp⟩:∃ p,cS x.c.ask id st=p:=⟨_,rfl⟩
  rw [hp] at hr
  cases r with
  | bad c=>
   have HQ:=ae hQ;have Hp:=ae (DL Hid.out hp);clear hp hQ
   go_enter Tryz.func82,Tryz.ntmps82
   go_wp2_with fail
   (with_reducible refine (gT w).mono ?_)
   rintro e w2 ⟨rfl,rfl⟩
   go_wp2_with fail
   (with_reducible refine hr.mono ?_)
   rintro e w1 ⟨S',hS,d1,rfl,h2⟩
   go_wp2_with fail
   exact ⟨rfl,HQ.out _ _ (by rw [Hp.out];exact ⟨S',hS,d1,rfl,h2⟩)⟩
  | ok L=>
   have hL:=jd hp;have Hnd16:=ae (Cs L);have hpc:=O0 L;have hd:=fun w1 v1 hr=>LX w1 v1 L hr hL;unfold Qs at hd;have HQ:=ae hQ;have hE0:=fun nd=>Gc (nd:=nd) Hid.out hp;have hE4:=fun nd=>Ed (nd:=nd) Hid.out hp;generalize jA L=p at *;obtain ⟨nd,c⟩:=p;dsimp only at hpc Hnd16 hd;have HE0:=ae (hE0 nd);have HE4:=ae (hE4 nd);have hvl:nd.v = .agg (nd.l.map (Value.int .i64)).toArray:=rfl;rw [hvl] at hd;clear hp hQ hE0 hE4 hL hvl
   go_enter Tryz.func82,Tryz.ntmps82
   go_wp2_with fail
   (with_reducible refine (gT w).mono ?_)
   rintro e w2 ⟨rfl,rfl⟩
   go_wp2_with fail
   (with_reducible refine hr.mono ?_)
   rintro e w1 ⟨S1,v1,hS1,d1,rfl,h1⟩;have hd1:=hd w1 v1 h1.nB;have Hk:=ae (fun w' (h:Sat w' (whole w1))=>Sat.dO h h1);clear hr c1 hd
   go_wp2_with fail
   (with_reducible refine hd1.mono ?_)
   rintro e w2 ⟨rfl,h2,d2⟩;have H2:=(Hk.out w2 h2).right;have D2:=d1.trans d2;clear hd1 Hk h1 h2 d1 d2;have hZ:=H2.alloc (.cells #[.int .i64 0,.int .i64 0,.int .i64 0,.int .i64 0,.int .i64 0,.int .i64 0,.int .i64 0,.int .i64 0,.int .i64 0,.int .i64 0,.int .i64 0,.int .i64 0,.int .i64 0,.int .i64 0,.int .i64 0,.int .i64 0,.int .i64 0,.int .i64 0,.int .i64 0,.int .i64 0] 73 (0,0));have DZ:=D2.alloc (.cells #[.int .i64 0,.int .i64 0,.int .i64 0,.int .i64 0,.int .i64 0,.int .i64 0,.int .i64 0,.int .i64 0,.int .i64 0,.int .i64 0,.int .i64 0,.int .i64 0,.int .i64 0,.int .i64 0,.int .i64 0,.int .i64 0,.int .i64 0,.int .i64 0,.int .i64 0,.int .i64 0] 73 (0,0));have hlen:(nd.l.map (Value.int .i64)).toArray.size=20:=by simp [Nd.cells Hnd16.out]
   have hone:(nd.l.map (Value.int .i64)).toArray.all (·.oneCell')=true:=by simp [Value.oneCell']
   have hst:(Tryz.prog.info? 73).map (·.size)=some (nd.l.map (Value.int .i64)).toArray.size:=by rw [hlen];exact aY
   have Hlen:=ae hlen;have Hone:=ae hone;have Hst:=ae hst;have hset:=hZ.setRow (cs':=(nd.l.map (Value.int .i64)).toArray);have Dset:=ae (DZ.setRow w2.heap.size (nd.l.map (Value.int .i64)).toArray);have Hz:=ae hZ.heap;clear hlen hone hst H2 D2 DZ hZ
   go_wp2_with (refine wpList_store_row (by exact rfl) 73 (.tmp 5) (.tmp 24) (by exact rfl) w2.heap.size (nd.l.map (Value.int .i64)).toArray (by exact rfl) (by exact rfl) 73 _ (by with_reducible exact Hz.out) Hst.out (by rw [Hlen.out];rfl) Hone.out ?_)
   generalize w2.heap.size=zb at *;generalize World.setRow _ _ _=w3 at *;clear Hz;rcases hpc with rfl|rfl
   ·have HE:=ae (HE0.out rfl)
    clear HE0 HE4;have hbu:=nW id nd Hnd16.out;obtain ⟨ZR,hZR⟩:∃ Z,Z=List.replicate 240 (0:Int):=⟨_,rfl⟩
    rw [← hZR] at hbu;have HR240:RowKit.Hid (ZR.length=240):=by show ZR.length=240;rw [hZR];rfl
    have HZR:=ae hZR;clear hZR;have Hbu:=ae hbu
    have hrow:w3.rangeAt zb 0 (nd.l.map (Value.int .i64)):=fun j v hv=>by
     rw [Nat.zero_add,hset.cell,List.getElem?_toArray];exact hv
    have hinfo:(Tryz.prog.info? 73).map (·.size)=some (nd.l.map (Value.int .i64)).length:=by rw [List.length_map,Nd.cells Hnd16.out];exact aY
    have Hrow:=ae hrow;have Hinfo:=ae hinfo;clear hbu hrow hinfo;have c4:w3.cell? ⟨zb,19,none⟩=some (.int .i64 nd.rw):=(hset.cell 19).trans (Nd.Ev Hnd16.out);have Hset:=ae hset;have hlt:zb<w3.heap.size:=hset.lt;clear hset;have hT0:Sat (w3.alloc (.cells (ints (id :: (nd.l++ZR))) 137 (0,0))) (pt w3.heap.size (.cells (ints (id :: (nd.l++ZR))) 137 (0,0))*(pt zb (.cells (nd.l.map (Value.int .i64)).toArray 73 (0,0))*(aL x S1 st1*(aj S1*F)))):=Hset.out.alloc _;have D0:=ae (Dset.out.alloc (.cells (ints (id :: (nd.l++ZR))) 137 (0,0)));have HT0:=ae hT0;have hlt2:w3.heap.size<(w3.alloc (.cells (ints (id :: (nd.l++ZR))) 137 (0,0))).heap.size:=hT0.lt;have c40:(w3.alloc (.cells (ints (id :: (nd.l++ZR))) 137 (0,0))).cell? ⟨zb,19,none⟩=some (.int .i64 nd.rw):=(hT0.ag.cell 19).trans (Nd.Ev Hnd16.out);clear hT0
    (with_reducible refine (jj _).mono ?_)
    rintro e w4 ⟨rfl,rfl⟩
    by_cases hrw:nd.rw=0
    ·have HE2:=ae ((JN (ask:=x.c.ask) (n:=x.n) (id:=id.toNat) (st:=st1) hrw).trans (by rw [← HZR.out]))
     rw [hrw] at c4 c40
     go_wp2_with (first
      | (refine wpList_load_mid (by exact rfl) 73 (.tmp 5) (by exact rfl) zb 0 (by exact rfl) (nd.l.map (Value.int .i64)) _ (by with_reducible exact Hrow.out) Tryz.underlying73 rfl (by with_reducible exact Hinfo.out) ?_)
      | (refine gh (by exact rfl) 137 #[(0,.tmp 28),(1,.tmp 29)] (by exact rfl) _ (by exact rfl) _ (by exact Hbu.out) ?_))
     have hT:=HT0.out;generalize w3.alloc (.cells (ints (id :: (nd.l++ZR))) 137 (0,0))=w5 at *;generalize w3.heap.size=hb at *;clear c4 c40 Hrow Hinfo hlt hlt2 Hbu
     have hrA:nC w5 (.slice (some ⟨zb,3,none⟩) 16 16) nd.dr:=by
      have h9:Sat w5 (pt zb (.cells (ints nd.l) 73 (0,0))*_):=hT.ag;have:=nC.row h9 3 16 (by rw [Nd.cells Hnd16.out];decide) (by decide)
      rwa [Nd.kD Hnd16.out] at this
     have hrB:nC w5 (.slice (some ⟨hb,21,none⟩) 240 240) ZR:=by
      have:=nC.row hT 21 240 (by rw [List.length_cons,List.length_append,Nd.cells Hnd16.out,HR240.out];decide) (by decide)
      rwa [show ((id :: (nd.l++ZR)).drop 21).take 240=ZR from by rw [List.drop_succ_cons,List.drop_left' (Nd.cells Hnd16.out),List.take_of_length_le (by rw [HR240.out];decide)]] at this
     have c1:w5.cell? ⟨x.k,1,none⟩=some (.int .i64 (x.n:Int)):=xz hT.right.right;have hA:∀ Q,_→_→Calls Tryz.prog 144 #[.pointer (some ⟨x.k,0,none⟩),.slice (some ⟨zb,3,none⟩) 16 16] w5 Q:=iH w5 x.k x.n _ nd.dr (by rw [Hnd16.out];decide) hrA c1;have hB:∀ Q,_→_→Calls Tryz.prog 144 #[.pointer (some ⟨x.k,0,none⟩),.slice (some ⟨hb,21,none⟩) 240 240] w5 Q:=iH w5 x.k x.n _ ZR (by rw [HR240.out];decide) hrB c1;have HT:=ae hT;clear hrA hrB c1 hT
     go_wp2_with fail
     refine hA _ (fun hy1=>?_) (fun hn1=>?_)
     ·have Hy1:=ae hy1
      clear hy1 hA
      go_wp2_with fail
      refine hB _ (fun hy2=>?_) (fun hn2=>?_)
      ·have Hy2:=ae hy2
       clear hy2 hB
       go_wp2_with fail
       refine HQ.out _ _ ?_;rw [HE.out.trans (HE2.out.trans (vI Hy1.out Hy2.out))];refine ⟨S1,_,hS1,D0.out,rfl,?_⟩;refine Sat.au.2 ⟨hb,(Sat.ak.2 ⟨rfl,Sat.held.2 ⟨⟨Hnd16.out,HR240.out⟩,?_⟩⟩:Sat _ (fact _*_)).to (aw _ _ _).symm⟩;have e:(Hd.l ⟨id.toNat,nd,ZR⟩)=id :: (nd.l++ZR):=by show ((id.toNat:Int) :: _)=_;rw [Int.toNat_of_nonneg (by omega)]
       rw [e];exact (HT.out.to (by ac_rfl:_=pt zb (.cells (nd.l.map (Value.int .i64)).toArray 73 (0,0))*(pt hb (.cells (ints (id :: (nd.l++ZR))) 137 (0,0))*(aL x S1 st1*(aj S1*F))))).right
      ·have Hn2:=ae hn2
       clear hn2 hB
       go_wp2_with fail
       exact ⟨rfl,HQ.out _ _ (by rw [HE.out.trans (HE2.out.trans (s6 Hy1.out Hn2.out))];exact ⟨S1,hS1,D0.out,rfl,HT.out.right.right⟩)⟩
     ·have Hn1:=ae hn1
      clear hn1 hA hB
      go_wp2_with fail
      exact ⟨rfl,HQ.out _ _ (by rw [HE.out.trans (HE2.out.trans (tJ Hn1.out))];exact ⟨S1,hS1,D0.out,rfl,HT.out.right.right⟩)⟩
    ·have hrw2:(nd.rw != 0)=true:=by simpa using hrw
     have Hrw:=ae hrw;have HE2:=ae (I0 (ask:=x.c.ask) (n:=x.n) (id:=id.toNat) (st:=st1) hrw);have hT1:=HT0.out.alloc (.cells #[.int .i64 nd.rw] 3 (0,0));have D1:=ae (D0.out.alloc (.cells #[.int .i64 nd.rw] 3 (0,0)));have HT1:=ae hT1
     have hrC:nC ((w3.alloc (.cells (ints (id :: (nd.l++ZR))) 137 (0,0))).alloc (.cells #[.int .i64 nd.rw] 3 (0,0))) (.slice (some ⟨w3.heap.size+1,0,none⟩) 1 1) [nd.rw]:=by
      have h8:=hT1;rw [World.size_alloc] at h8;exact nC.row (xs:=[nd.rw]) h8 0 1 (Nat.le_refl _) (by decide)
     have c1:=xz hT1.right.right.right;have hC:∀ Q,_→_→Calls Tryz.prog 144 #[.pointer (some ⟨x.k,0,none⟩),.slice (some ⟨w3.heap.size+1,0,none⟩) 1 1] _ Q:=iH _ x.k x.n _ [nd.rw] (by show 1≤1000;decide) hrC c1;have c41:=(hT1.aq.cell 19).trans (Nd.Ev Hnd16.out);clear hT1 hrC c1 hrw
     go_wp2_with (first
      | (refine wpList_load_mid (by exact rfl) 73 (.tmp 5) (by exact rfl) zb 0 (by exact rfl) (nd.l.map (Value.int .i64)) _ (by with_reducible exact Hrow.out) Tryz.underlying73 rfl (by with_reducible exact Hinfo.out) ?_)
      | (refine gh (by exact rfl) 137 #[(0,.tmp 28),(1,.tmp 29)] (by exact rfl) _ (by exact rfl) _ (by exact Hbu.out) ?_))
     refine hC _ (fun hy=>?_) (fun hn=>?_)
     ·have Hy:=ae hy
      have hr2:=mQ x hc _ S1 st1 nd.rw _ (HT1.out.right.to (by ac_rfl:_=aL x S1 st1*(aj S1*(pt w3.heap.size (.cells (ints (id :: (nd.l++ZR))) 137 (0,0))*(pt zb (.cells (nd.l.map (Value.int .i64)).toArray 73 (0,0))*F)))));clear hy hC;generalize w3.alloc (.cells (ints (id :: (nd.l++ZR))) 137 (0,0))=w4 at *;generalize w3.heap.size=hb at *;clear c4 c40 Hrow Hinfo hlt hlt2 Hbu HT0;obtain ⟨⟨r2,st2⟩,hp2⟩:∃ p,cS x.c.ask nd.rw st1=p:=⟨_,rfl⟩
      rw [hp2] at hr2
      cases r2 with
      | bad c=>
       have HE3:=ae (Jg (id:=id.toNat) Hrw.out Hy.out hp2);clear hp2
       go_wp2_with fail
       (with_reducible refine hr2.mono ?_)
       rintro e w6 ⟨S2,hS2,d6,rfl,h6⟩
       go_wp2_with fail
       exact ⟨rfl,HQ.out _ _ (by rw [HE.out.trans HE3.out];exact ⟨S2,hS1.trans hS2,D1.out.trans d6,rfl,h6.to (by ac_rfl:_=(aL x S2 st2*(aj S2*F))*(pt hb (.cells (ints (id :: (nd.l++ZR))) 137 (0,0))*pt zb (.cells (nd.l.map (Value.int .i64)).toArray 73 (0,0)))) |>.left⟩)⟩
      | ok L2=>
       have hL2:=jd hp2;have hE3:=fun row=>Is (row:=row) (id:=id.toNat) Hrw.out Hy.out hp2;have hE4:=fun row=>JR (row:=row) (id:=id.toNat) Hrw.out Hy.out hp2;have hd:=fun w1 v1 hr=>Kv w1 v1 L2 hr hL2;have h240:=yd L2;have hrc:=OQ L2;unfold M4 at hd;generalize kq L2=p at *;obtain ⟨row,c⟩:=p;dsimp only at hd h240 hrc;have HE3:=ae (hE3 row);have HE4:=ae (hE4 row);have H240:=ae h240;clear hE3 hE4 hp2 hL2 h240
       go_wp2_with fail
       (with_reducible refine hr2.mono ?_)
       rintro e w6 ⟨S2,v2,hS2,d6,rfl,h6⟩;have hd2:=hd w6 v2 h6.nB;have Hk:=ae (fun w' (h:Sat w' (whole w6))=>Sat.dO h h6);clear hr2 hd
       go_wp2_with fail
       (with_reducible refine hd2.mono ?_)
       rintro e w7 ⟨rfl,h7,d7⟩;have h8:Sat w7 (pt hb (.cells (ints (id :: (nd.l++ZR))) 137 (0,0))*(pt zb (.cells (nd.l.map (Value.int .i64)).toArray 73 (0,0))*(aL x S2 st2*(aj S2*F)))):=(Hk.out w7 h7).right.to (by ac_rfl);have D8:=ae (ai.setCells (row.map (Value.int .i64)) 21 hb ((D1.out.trans d6).trans d7));have hS3:=hS1.trans hS2;have hset:=Sat.setCells (row.map (Value.int .i64)) 21 h8;rw [Af id nd.l ZR row (Nd.cells Hnd16.out) HR240.out H240.out] at hset
       have hth:w7.there hb 21 (row.map (Value.int .i64)).toArray.size:=by
        have hz:(row.map (Value.int .i64)).toArray.size=240:=by simp [H240.out]
        rw [hz];exact Sat.there h8 (by rw [dw,List.length_cons,List.length_append,Nd.cells Hnd16.out,HR240.out];decide)
       have hinf:(Tryz.prog.info? 135).map (·.size)=some (row.map (Value.int .i64)).toArray.size:=by
        have hz:(row.map (Value.int .i64)).toArray.size=240:=by simp [H240.out]
        rw [hz];exact kn
       have hone2:(row.map (Value.int .i64)).toArray.all (·.oneCell')=true:=by simp [Value.oneCell']
       have hio:Value.agg (ints row) = .agg (row.map (Value.int .i64)).toArray:=rfl;have Hth:=ae hth;have Hinf:=ae hinf;have Hone2:=ae hone2;have Hset2:=ae hset;rw [hio];clear hd2 Hk h6 h7 d6 d7 h8 hth hinf hone2 hio hset HT1 D1 hS1 hS2 c41
       go_wp2_with (refine wpList_store_mid (by exact rfl) 135 (.tmp 50) (.tmp 47) (by exact rfl) hb 21 (row.map (Value.int .i64)).toArray (by exact rfl) (by exact rfl) (by with_reducible exact Hth.out) Hinf.out Hone2.out ?_)
       rcases hrc with rfl|rfl
       ·have HE5:=ae (HE.out.trans (HE4.out rfl))
        (with_reducible refine (jj _).mono ?_)
        rintro e w9 ⟨rfl,rfl⟩;have hT:Sat (w7.setCells hb 21 (row.map (Value.int .i64)).toArray.toList) _:=Hset2.out;clear HR240;have HR240:=H240;have DD:RowKit.Hid (ai w (w7.setCells hb 21 (row.map (Value.int .i64)).toArray.toList)):=D8;clear Hth Hset2 D8;generalize w7.setCells hb 21 (row.map (Value.int .i64)).toArray.toList=w8 at *
        have hrA:nC w8 (.slice (some ⟨zb,3,none⟩) 16 16) nd.dr:=by
         have h9:Sat w8 (pt zb (.cells (ints nd.l) 73 (0,0))*_):=hT.ag;have:=nC.row h9 3 16 (by rw [Nd.cells Hnd16.out];decide) (by decide)
         rwa [Nd.kD Hnd16.out] at this
        have hrB:nC w8 (.slice (some ⟨hb,21,none⟩) 240 240) row:=by
         have:=nC.row hT 21 240 (by rw [List.length_cons,List.length_append,Nd.cells Hnd16.out,HR240.out];decide) (by decide)
         rwa [show ((id :: (nd.l++row)).drop 21).take 240=row from by rw [List.drop_succ_cons,List.drop_left' (Nd.cells Hnd16.out),List.take_of_length_le (by rw [HR240.out];decide)]] at this
        have c1:w8.cell? ⟨x.k,1,none⟩=some (.int .i64 (x.n:Int)):=xz hT.right.right;have hA:∀ Q,_→_→Calls Tryz.prog 144 #[.pointer (some ⟨x.k,0,none⟩),.slice (some ⟨zb,3,none⟩) 16 16] w8 Q:=iH w8 x.k x.n _ nd.dr (by rw [Hnd16.out];decide) hrA c1;have hB:∀ Q,_→_→Calls Tryz.prog 144 #[.pointer (some ⟨x.k,0,none⟩),.slice (some ⟨hb,21,none⟩) 240 240] w8 Q:=iH w8 x.k x.n _ row (by rw [HR240.out];decide) hrB c1;have HT:=ae hT;clear hrA hrB c1 hT
        go_wp2_with fail
        refine hA _ (fun hy1=>?_) (fun hn1=>?_)
        ·have Hy1:=ae hy1
         clear hy1 hA
         go_wp2_with fail
         refine hB _ (fun hy2=>?_) (fun hn2=>?_)
         ·have Hy2:=ae hy2
          clear hy2 hB
          go_wp2_with fail
          refine HQ.out _ _ ?_;rw [HE5.out.trans (vI Hy1.out Hy2.out)];refine ⟨S2,_,hS3,DD.out,rfl,?_⟩;refine Sat.au.2 ⟨hb,(Sat.ak.2 ⟨rfl,Sat.held.2 ⟨⟨Hnd16.out,HR240.out⟩,?_⟩⟩:Sat _ (fact _*_)).to (aw _ _ _).symm⟩;have e:(Hd.l ⟨id.toNat,nd,row⟩)=id :: (nd.l++row):=by show ((id.toNat:Int) :: _)=_;rw [Int.toNat_of_nonneg (by omega)]
          rw [e];exact (HT.out.to (by ac_rfl:_=pt zb (.cells (nd.l.map (Value.int .i64)).toArray 73 (0,0))*(pt hb (.cells (ints (id :: (nd.l++row))) 137 (0,0))*(aL x S2 st2*(aj S2*F))))).right
         ·have Hn2:=ae hn2
          clear hn2 hB
          go_wp2_with fail
          exact ⟨rfl,HQ.out _ _ (by rw [HE5.out.trans (s6 Hy1.out Hn2.out)];exact ⟨S2,hS3,DD.out,rfl,HT.out.right.right⟩)⟩
        ·have Hn1:=ae hn1
         clear hn1 hA hB
         go_wp2_with fail
         exact ⟨rfl,HQ.out _ _ (by rw [HE5.out.trans (tJ Hn1.out)];exact ⟨S2,hS3,DD.out,rfl,HT.out.right.right⟩)⟩
       ·have HE5:=ae (HE.out.trans (HE3.out rfl))
        (with_reducible refine (eZ _ 4 (by decide)).mono ?_)
        rintro e w9 ⟨rfl,rfl⟩
        go_wp2_with fail
        exact ⟨rfl,HQ.out _ _ (by rw [HE5.out];exact ⟨S2,hS3,D8.out,rfl,Hset2.out.right.right⟩)⟩
     ·have Hn:=ae hn
      clear hn hC
      go_wp2_with fail
      exact ⟨rfl,HQ.out _ _ (by rw [HE.out.trans (HE2.out Hn.out)];exact ⟨S1,hS1,D1.out,rfl,HT1.out.right.right.right⟩)⟩
   ·have HE:=ae (HE4.out rfl)
    clear HE0 HE4
    (with_reducible refine (eZ _ 4 (by decide)).mono ?_)
    rintro e w4 ⟨rfl,rfl⟩
    go_wp2_with fail
    exact ⟨rfl,HQ.out _ _ (by rw [HE.out];exact ⟨S1,hS1,Dset.out,rfl,hset.right⟩)⟩
 ·have Hp:=ae (G4 (ask:=x.c.ask) (st:=st) hid)
  have HQ:=ae hQ;have HL:=ae (show Q (.panicked (FR 1)) w from hQ _ _ (by rw [Hp.out];exact ⟨S,Ext.refl S,ai.refl w,rfl,h⟩));clear hQ
  by_cases h1:1≤id
  ·have h2:decide (id<(x.n:Int))=false:=decide_eq_false (by omega)
   clear hid
   go_enter Tryz.func82,Tryz.ntmps82
   go_wp2_with fail
   (with_reducible refine (iB w).mono ?_)
   rintro e w2 ⟨rfl,rfl⟩
   go_wp2_with fail
   exact ⟨rfl,HL.out⟩
  ·have h2:id<1:=by omega
   clear hid
   go_enter Tryz.func82,Tryz.ntmps82
   go_wp2_with fail
   (with_reducible refine (iB w).mono ?_)
   rintro e w2 ⟨rfl,rfl⟩
   go_wp2_with fail
   exact ⟨rfl,HL.out⟩
end
end Go.Fs
namespace Go.SL
open Go.RowKit
section
variable {σ:Type}
def F9 (h:Hd):WM σ Unit:=fun st=>
 if h.n.rw=0 then (.ok (),st) else if h.row.all cP=true then bN h.n.rw (jg h.row) st else (.bad 1,st)
def dS (h:Hd):WM σ Unit:=fun st=>
 if h.n.ok=true then (WM.bind (bN (h.id:Int) (ic h.n)) fun _=>F9 h) st else (.bad 1,st)
theorem JJ {h:Hd} {st:eV σ} (h1:h.n.ok=false):dS h st=(.bad 1,st):=if_neg (by rw [h1];decide)
theorem DK {h:Hd} {st st1:eV σ} {c:Int} (h1:h.n.ok=true) (h2:bN (h.id:Int) (ic h.n) st=(.bad c,st1)):dS h st=(.bad c,st1):=(if_pos h1).trans (WM.bG h2)
theorem Lc {h:Hd} {st st1:eV σ} (h1:h.n.ok=true) (h2:bN (h.id:Int) (ic h.n) st=(.ok (),st1)) (h3:h.n.rw=0):dS h st=(.ok (),st1):=(if_pos h1).trans ((WM.aZ h2).trans (if_pos h3))
theorem FX {h:Hd} {st st1:eV σ} (h1:h.n.ok=true) (h2:bN (h.id:Int) (ic h.n) st=(.ok (),st1)) (h3:h.n.rw≠0) (h4:h.row.all cP=false):dS h st=(.bad 1,st1):=
 (if_pos h1).trans ((WM.aZ h2).trans ((if_neg h3).trans (if_neg (by rw [h4];decide))))
theorem JU {h:Hd} {st st1:eV σ} (h1:h.n.ok=true) (h2:bN (h.id:Int) (ic h.n) st=(.ok (),st1)) (h3:h.n.rw≠0) (h4:h.row.all cP=true):dS h st=bN h.n.rw (jg h.row) st1:=
 (if_pos h1).trans ((WM.aZ h2).trans ((if_neg h3).trans (if_pos h4)))
end
end Go.SL
namespace Go.Fs
open Go.RowKit Go.SL Go.Ba
section
variable {σ α:Type}
theorem qD {w:World} {hb:Nat} {h:Hd} {F:ah} (hf:h.fit) (hs:Sat w (pt hb (.cells (ints h.l) 137 (0,0))*F)):w.rangeAt hb 1 (h.n.l.map (Value.int .i64)):=fun j v hv=>by
 rw [hs.cell,dm,← List.getElem?_map,Nat.add_comm];show (List.map (Value.int .i64) ((h.id:Int) :: (h.n.l++h.row)))[j+1]?=some v
 rw [List.map_cons,List.getElem?_cons_succ,List.map_append,List.getElem?_append_left (List.getElem?_eq_some_iff.1 hv).1];exact hv
theorem Iw {w:World} {hb:Nat} {h:Hd} {F:ah} (hf:h.fit) (hs:Sat w (pt hb (.cells (ints h.l) 137 (0,0))*F)):w.rangeAt hb 21 (h.row.map (Value.int .i64)):=fun j v hv=>by
 rw [hs.cell,dm,← List.getElem?_map,show 21+j=(20+j)+1 by omega];show (List.map (Value.int .i64) ((h.id:Int) :: (h.n.l++h.row)))[20+j+1]?=some v
 rw [List.map_cons,List.getElem?_cons_succ,List.map_append,List.getElem?_append_right (by rw [List.length_map,Nd.cells hf.1];omega),List.length_map,Nd.cells hf.1,Nat.add_sub_cancel_left];exact hv
theorem xu {w:World} {hb:Nat} {h:Hd} {F:ah} (hf:h.fit) (hs:Sat w (pt hb (.cells (ints h.l) 137 (0,0))*F)):w.cell? ⟨hb,20,none⟩=some (.int .i64 h.n.rw):=by
 have:=qD hf hs 19 (.int .i64 h.n.rw) (by
  have:=Nd.Ev hf.1
  rwa [dm,← List.getElem?_map] at this)
 exact this
theorem KD {w:World} {hb:Nat} {h:Hd} {F:ah} (hs:Sat w (pt hb (.cells (ints h.l) 137 (0,0))*F)):w.cell? ⟨hb,0,none⟩=some (.int .i64 (h.id:Int)):=hs.cell 0
theorem z7 (x:Wk σ) (w:World) (S:Hp) (st:eV σ) (hb:Nat) (h:Hd) (F:ah) (hs:Sat w (aW hb h*(aL x S st*(aj S*F)))) (Q:Ending→World→Prop)
  (hQ:∀ e w',WQ x lu S (aW hb h*F) w (dS h st) e w'→Q e w') :
  Calls Tryz.prog 84 #[.pointer (some ⟨x.k,0,none⟩),.pointer (some ⟨hb,0,none⟩)] w Q:=by
 obtain ⟨hf,h0⟩:=Sat.held.1 hs;have HQ:=ae hQ;have Hf:=ae hf;have hrow:=ae (qD hf h0);have hinf:(Tryz.prog.info? 73).map (·.size)=some (h.n.l.map (Value.int .i64)).length:=by rw [List.length_map,Nd.cells hf.1];exact aY
 have Hinf:=ae hinf;have hvl:h.n.v = .agg (h.n.l.map (Value.int .i64)).toArray:=rfl;have Hs:=ae hs
 cases hok:h.n.ok with
 | false=>
  have he:=pV w h.n hf.1 hok;rw [hvl] at he;have HE:=ae (JJ (st:=st) hok)
  go_enter Tryz.func84,Tryz.ntmps84
  go_wp2_with (refine wpList_load_mid (by exact rfl) 73 (.tmp 9) (by exact rfl) hb 1 (by exact rfl) (h.n.l.map (Value.int .i64)) _ (by with_reducible exact hrow.out) Tryz.underlying73 rfl (by with_reducible exact Hinf.out) ?_)
  (refine he.mono ?_)
  rintro e w2 ⟨rfl,h2,d2⟩;have H2:=h2.dO Hs.out
  go_wp2_with fail
  (refine (eZ _ 1 (by decide)).mono ?_)
  rintro e w3 ⟨rfl,rfl⟩
  go_wp2_with fail
  exact ⟨rfl,HQ.out _ _ (by rw [HE.out];exact ⟨S,Ext.refl S,d2,rfl,H2.to (by ac_rfl)⟩)⟩
 | true=>
  have he:=lj w h.n hf.1 hok;have hz1:=fun st1 c=>DK (h:=h) (st:=st) (st1:=st1) (c:=c) hok;have hz2:=fun st1=>Lc (h:=h) (st:=st) (st1:=st1) hok;have hz3:=fun st1=>FX (h:=h) (st:=st) (st1:=st1) hok;have hz4:=fun st1=>JU (h:=h) (st:=st) (st1:=st1) hok;rw [hvl] at he;have Hz1:=ae hz1;have Hz2:=ae hz2;have Hz3:=ae hz3;have Hz4:=ae hz4
  go_enter Tryz.func84,Tryz.ntmps84
  go_wp2_with (refine wpList_load_mid (by exact rfl) 73 (.tmp 9) (by exact rfl) hb 1 (by exact rfl) (h.n.l.map (Value.int .i64)) _ (by with_reducible exact hrow.out) Tryz.underlying73 rfl (by with_reducible exact Hinf.out) ?_)
  (refine he.mono ?_)
  rintro e w2 ⟨v2,rfl,h2,d2⟩;have H2:=h2.under Hs.out;have hr2:=H2.nB;have H3:=H2.right.to (by ac_rfl:_=aL x S st*(aj S*(aW hb h*F)));have c0:=KD (Sat.held.1 H2.right).2;have hw:=nY x w2 S st (h.id:Int) _ (ic h.n) _ H3 hr2;obtain ⟨⟨r,st1⟩,hp⟩:∃ p,bN (h.id:Int) (ic h.n) st=p:=⟨_,rfl⟩
  rw [hp] at hw
  go_wp2_with fail
  (refine (jj _).mono ?_)
  rintro e w3 ⟨rfl,rfl⟩
  cases r with
  | bad c=>
   have HE:=ae (Hz1.out _ _ hp)
   go_wp2_with fail
   (refine hw.mono ?_)
   rintro e w3 ⟨S',hS,d3,rfl,h3⟩
   go_wp2_with fail
   exact ⟨rfl,HQ.out _ _ (by rw [HE.out];exact ⟨S',hS,d2.trans d3,rfl,h3⟩)⟩
  | ok u=>
   have Hz2:=ae (Hz2.out _ hp);have Hz3:=ae (Hz3.out _ hp);have Hz4:=ae (Hz4.out _ hp)
   go_wp2_with fail
   (with_reducible refine hw.mono ?_)
   rintro e w3 ⟨S',v3,hS,d3,rfl,h3⟩;obtain ⟨rfl,h4⟩:=Sat.ak.1 h3;have h5:Sat w3 (aW hb h*(aL x S' st1*(aj S'*F))):=h4.to (by ac_rfl);obtain ⟨hf,h6⟩:=Sat.held.1 h5;have c20:=xu hf h6;have D3:=ae (d2.trans d3);have HS:=ae hS
   by_cases hrw:h.n.rw=0
   ·have HE:=ae (Hz2.out hrw)
    have H4:=ae h4;rw [hrw] at c20
    go_wp2_with fail
    go_end0
    refine HQ.out _ _ ?_;rw [HE.out];exact ⟨S',_,HS.out,D3.out,rfl,Sat.ak.2 ⟨rfl,H4.out⟩⟩
   ·have hrw2:(h.n.rw != 0)=true:=by simpa using hrw
    have hrow:=ae (Iw hf h6);have hinf2:(Tryz.prog.info? 135).map (·.size)=some (h.row.map (Value.int .i64)).length:=by rw [List.length_map,hf.2];exact kn
    have Hinf2:=ae hinf2;have hio:Value.agg (ints h.row) = .agg (h.row.map (Value.int .i64)).toArray:=rfl;have H5:=ae h5
    cases hra:h.row.all cP with
    | false=>
     have HE:=ae (Hz3.out hrw hra);have he:=wQ w3 h.row hf.2 hra;rw [hio] at he
     go_wp2_with (refine wpList_load_mid (by exact rfl) 135 (.tmp 32) (by exact rfl) hb 21 (by exact rfl) (h.row.map (Value.int .i64)) _ (by with_reducible exact hrow.out) Tryz.underlying135 rfl (by with_reducible exact Hinf2.out) ?_)
     (with_reducible refine he.mono ?_)
     rintro e w4 ⟨rfl,h7,d7⟩;have H7:=h7.dO H5.out
     go_wp2_with fail
     (with_reducible refine (eZ _ 1 (by decide)).mono ?_)
     rintro e w5 ⟨rfl,rfl⟩
     go_wp2_with fail
     exact ⟨rfl,HQ.out _ _ (by rw [HE.out];exact ⟨S',HS.out,D3.out.trans d7,rfl,H7.to (by ac_rfl)⟩)⟩
    | true=>
     have HE:=ae (Hz4.out hrw hra);have he:=uz w3 h.row hf.2 hra;rw [hio] at he
     go_wp2_with (refine wpList_load_mid (by exact rfl) 135 (.tmp 32) (by exact rfl) hb 21 (by exact rfl) (h.row.map (Value.int .i64)) _ (by with_reducible exact hrow.out) Tryz.underlying135 rfl (by with_reducible exact Hinf2.out) ?_)
     (with_reducible refine he.mono ?_)
     rintro e w4 ⟨v4,rfl,h7,d7⟩;have H7:=h7.under H5.out;have hr7:=H7.nB;have c20b:=xu Hf.out (Sat.held.1 H7.right).2;have hw:=nY x w4 S' st1 h.n.rw _ (jg h.row) _ (H7.right.to (by ac_rfl:_=aL x S' st1*(aj S'*(aW hb h*F)))) hr7;obtain ⟨⟨r,st2⟩,hp⟩:∃ p,bN h.n.rw (jg h.row) st1=p:=⟨_,rfl⟩
     rw [hp] at hw;have HE2:=ae (HE.out.trans hp)
     go_wp2_with fail
     (with_reducible refine (jj _).mono ?_)
     rintro e w5 ⟨rfl,rfl⟩
     cases r with
     | bad c=>
      go_wp2_with fail
      (with_reducible refine hw.mono ?_)
      rintro e w5 ⟨S2,hS2,d5,rfl,h8⟩
      go_wp2_with fail
      exact ⟨rfl,HQ.out _ _ (by rw [HE2.out];exact ⟨S2,HS.out.trans hS2,(D3.out.trans d7).trans d5,rfl,h8⟩)⟩
     | ok u=>
      go_wp2_with fail
      (with_reducible refine hw.mono ?_)
      rintro e w5 ⟨S2,v5,hS2,d5,rfl,h8⟩;obtain ⟨rfl,h9⟩:=Sat.ak.1 h8
      go_wp2_with fail
      go_end0
      refine HQ.out _ _ ?_;rw [HE2.out];exact ⟨S2,_,HS.out.trans hS2,(D3.out.trans d7).trans d5,rfl,Sat.ak.2 ⟨rfl,h9⟩⟩
end
end Go.Fs
namespace Go.SL
open Go.RowKit
section
variable {σ α:Type}
def lW:WM σ Unit:=fun st=>if st.dt=true then bN 0 (st.bits.getD []) st else (.ok (),st)
def Pp (M:gW σ):Rs α × eV σ→Rs α × gW σ
 | (.ok a,st)=>(.ok a,st.b)
 | (.bad c,st)=>(.bad c,{ M with s:=st.b.s })
def eh (m:WM σ α) (M:gW σ):Rs α × gW σ:=Pp M ((WM.bind m fun a=>WM.bind lW fun _=>WM.pure a) ⟨M,none,false⟩)
theorem kF {m:WM σ α} {M:gW σ} {st:eV σ} {c:Int} (h:m ⟨M,none,false⟩=(.bad c,st)):eh m M=(.bad c,{ M with s:=st.b.s }):=by
 unfold eh;rw [WM.bG h];rfl
theorem mz {m:WM σ α} {M:gW σ} {st:eV σ} {a:α} (h:m ⟨M,none,false⟩=(.ok a,st)) (hd:st.dt=false):eh m M=(.ok a,st.b):=by
 have e:(WM.bind lW fun _=>WM.pure a) st=(.ok a,st):=WM.aZ (if_neg (by rw [hd];decide));unfold eh;rw [WM.aZ h,e];rfl
theorem oP {m:WM σ α} {M:gW σ} {st st':eV σ} {a:α} (h:m ⟨M,none,false⟩=(.ok a,st)) (hd:st.dt=true) (hw:bN 0 (st.bits.getD []) st=(.ok (),st')):eh m M=(.ok a,st'.b):=by
 have e:(WM.bind lW fun _=>WM.pure a) st=(.ok a,st'):=WM.aZ ((if_pos hd).trans hw);unfold eh;rw [WM.aZ h,e];rfl
theorem rR {m:WM σ α} {M:gW σ} {st st':eV σ} {a:α} {c:Int} (h:m ⟨M,none,false⟩=(.ok a,st)) (hd:st.dt=true) (hw:bN 0 (st.bits.getD []) st=(.bad c,st')):eh m M=(.bad c,{ M with s:=st'.b.s }):=by
 have e:(WM.bind lW fun _=>WM.pure a) st=(.bad c,st'):=WM.bG ((if_pos hd).trans hw);unfold eh;rw [WM.aZ h,e];rfl
end
end Go.SL
namespace Go.Fs
open Go.RowKit Go.SL Go.Ba
theorem iT (v:Value) (w:World):(Instr.typeAssert (.iface 219 v) 20 219 true).run Tryz.prog w = .ok (.tuple #[v,.bool true]) w:=by
 simp [Instr.typeAssert,run_underlying Tryz.underlying219,go_sem,Result.andThen]
section
variable {σ α:Type}
theorem J6 (w:World) (pa pe:Addr) :
    CallsD Tryz.prog 155 #[.pointer (some pa),.pointer (some pe)] .returning w fun e u w'=>e = .returned (.tuple #[])∧u = .returning∧w=w':=by
  refine callsD_of_wpS Tryz.func155 rfl fun c₀ cs hu=>?_;apply wpS_seq;refine wpS_of_wp ?_
  simp only [Tryz.ntmps155,List.size_toArray,List.length_cons,List.length_nil,Nat.reduceAdd,Nat.reduceSub,Array.replicate_succ,
     Array.replicate_zero,List.push_toArray,List.append_toArray,List.nil_append,List.cons_append]
  go_wp2
  apply wpS_seq;apply wpS_region;simp [wpOpsS,go_sem,recoverD,hu,Exit.thenS];refine wpS_of_wp ?_
  go_wp2
  cases c₀
  simp_all [bodyPostS,results,Tryz.results155]
theorem I5 (w:World) (pa pe:Addr) (c x y:Int) (older:List PanicEntry) (ha:w.cell? pa=some (.int .i64 x)) (he:w.cell? pe=some (.int .i64 y)) (fa:w.frozen? pa=false) (fe:w.frozen? pe=false) (hne:pa≠pe) :
    CallsD Tryz.prog 155 #[.pointer (some pa),.pointer (some pe)] (.panicking ({ v:=.iface 219 (.int .i64 c),recovered:=false } :: older)) w fun e u w'=>
      e = .returned (.tuple #[])∧u = .panicking ({ v:=.iface 219 (.int .i64 c),recovered:=true } :: older)∧w'=(w.setCell pa (.int .i64 0)).setCell pe (.int .i64 c):=by
  refine callsD_of_wpS Tryz.func155 rfl fun c₀ cs hu=>?_;apply wpS_seq;refine wpS_of_wp ?_
  simp only [Tryz.ntmps155,List.size_toArray,List.length_cons,List.length_nil,Nat.reduceAdd,Nat.reduceSub,Array.replicate_succ,
     Array.replicate_zero,List.push_toArray,List.append_toArray,List.nil_append,List.cons_append]
  go_wp2
  apply wpS_seq;apply wpS_region;simp [wpOpsS,go_sem,recoverD,hu,Exit.thenS];refine wpS_of_wp ?_;have hta:=iT (.int .i64 c)
  go_wp2
  exact ⟨rfl,_,rfl,_,results_none rfl _ _ _,rfl,rfl,rfl⟩
def zv (c:Cx σ) (mb:Nat) (zero:Value) (R:α→Value→ah) (S:Hp) (F:ah) (w:World):Rs α × gW σ→Ending→World→Prop
 | (.ok a,M'),e,w'=>∃ S' v,Ext S S'∧ai w w'∧e = .returned (.tuple #[v,.int .i64 0])∧Sat w' (R a v*(cC c S' mb M'*(aj S'*F)))
 | (.bad n,M'),e,w'=>∃ S',Ext S S'∧ai w w'∧e = .returned (.tuple #[zero,.int .i64 n])∧Sat w' (cC c S' mb M'*(aj S'*F))
def DC (c:Cx σ) (n:Nat) (jf:FuncId) (caps:Array Value) (R:α→Value→ah) (G:ah) (m:WM σ α):Prop:=
 ∀ (x:Wk σ) (w:World) (S:Hp) (st:eV σ) (F:ah),x.c=c→x.n=n→Sat w (aL x S st*(aj S*(G*F)))→Calls Tryz.prog jf (#[.pointer (some ⟨x.k,0,none⟩)]++caps) w (WQ x R S (G*F) w (m st))
def gm (mb n:Nat):Value:=.agg #[.pointer (some ⟨mb,0,none⟩),.int .i64 (n:Int)]
theorem oK {w:World} {tmps:Array Value} {a b:Nat} {v e:Value} (h4:tmps[4]?=some (ax a)) (h5:tmps[5]?=some (ax b)) (ha:w.cell? ⟨a,0,none⟩=some v) (hb:w.cell? ⟨b,0,none⟩=some e) :
  (results Tryz.f93 tmps).run Tryz.prog w = .ok (.tuple #[v,e]) w:=by
 simp [results,Tryz.results93,h4,h5,go_sem,ha,hb]
theorem rT {w:World} {x:Wk σ} {S:Hp} {st:eV σ} {F:ah} (h:Sat w (aL x S st*F)):Sat w (x.c.RI st.b.s*F):=by
 obtain ⟨v,h1⟩:=Sat.eQ h;have h2:Sat w ((pt x.k (.cells (x.cells v st.dt) 149 (0,0))*(az 176 5 S x.b x.c.rd st.b.err st.b.W st.b.D*bS st.bits v))*(x.c.RI st.b.s*F)):=h1.to (by unfold bh cC;ac_rfl);exact h2.right
theorem lK {w:World} {c:Cx σ} {S S':Hp} {mb:Nat} {M:gW σ} {s:σ} {F:ah} (hE:Ext S S') (h:Sat w (c.RI s*(az 176 5 S mb c.rd M.err M.W M.D*F))):Sat w (cC c S' mb { M with s:=s }*F):=
 ((h.ag).fh (dD hE)).to (by unfold cC;ac_rfl)
theorem rS {w:World} {c:Cx σ} {n k f:Nat} {S:Hp} {M:gW σ} {F:ah} (h:Sat w (pt k (.cells #[.pointer (some ⟨f,0,none⟩),.int .i64 (n:Int),.slice none 0 0,.bool false] 149 (0,0))*(az 176 5 S f c.rd M.err M.W M.D*(c.RI M.s*F)))) :
  Sat w (aL (⟨c,n,k,f⟩:Wk σ) S ⟨M,none,false⟩*F):=
 Sat.iG (.slice none 0 0) ((Sat.CA h).to (by unfold bh cC Wk.cells;ac_rfl))
theorem we {w:World} {tmps:Array Value} {ab eb:Nat} {y z c:Int} {P:ah} {R:Ending→World→Prop} (h4:tmps[4]?=some (ax ab)) (h5:tmps[5]?=some (ax eb))
  (h:Sat w (pt ab (.cells #[.int .i64 y] 3 (0,0))*(pt eb (.cells #[.int .i64 z] 28 (0,0))*P))) (hR:∀ w',Sat w' P→ai w w'→R (.returned (.tuple #[.int .i64 0,.int .i64 c])) w') :
  bodyPostD Tryz.prog Tryz.f93 R (Exit.panic (FR c)) { tmps:=tmps,defers:=[{ target:=.fn (.func 155) #[.pointer (some ⟨ab,0,none⟩),.pointer (some ⟨eb,0,none⟩)],args:=#[] }] } w:=by
 have hne:=Sat.ne h;refine leaves_cons (f:=155) (args:=#[.pointer (some ⟨ab,0,none⟩),.pointer (some ⟨eb,0,none⟩)]) (by simp) (by simp [go_sem]) ?_;refine (I5 w ⟨ab,0,none⟩ ⟨eb,0,none⟩ c y z [] (h.cell 0) (h.ag.cell 0) (h.frozen 0) (h.ag.frozen 0) (by intro h;injection h with h;exact hne h)).mono ?_;rintro e u w7 ⟨rfl,rfl,rfl⟩;have h11:=((h.setCell 0 (.int .i64 0)).ag.setCell 0 (.int .i64 c))
 exact ⟨_,oK h4 h5 (h11.ag.cell 0) (h11.cell 0),hR _ h11.right.right (((ai.refl w).setCell _ _).setCell _ _)⟩
theorem wm {w:World} {tmps:Array Value} {ab eb:Nat} {v z:Value} {R:Ending→World→Prop} (h4:tmps[4]?=some (ax ab)) (h5:tmps[5]?=some (ax eb))
  (ha:w.cell? ⟨ab,0,none⟩=some v) (hb:w.cell? ⟨eb,0,none⟩=some z) (hR:R (.returned (.tuple #[v,z])) w) :
  bodyPostD Tryz.prog Tryz.f93 R Exit.ret { tmps:=tmps,defers:=[{ target:=.fn (.func 155) #[.pointer (some ⟨ab,0,none⟩),.pointer (some ⟨eb,0,none⟩)],args:=#[] }] } w:=by
 refine leaves_cons (f:=155) (args:=#[.pointer (some ⟨ab,0,none⟩),.pointer (some ⟨eb,0,none⟩)]) (by simp) (by simp [go_sem]) ?_;refine (J6 w ⟨ab,0,none⟩ ⟨eb,0,none⟩).mono ?_;rintro e u w7 ⟨rfl,rfl,rfl⟩;exact ⟨_,oK h4 h5 ha hb,hR⟩
theorem xF {w:World} {o:Option (List UInt8)} {v:Value} {F:ah} (h:Sat w (bS o v*F)):Rd w v (o.getD []):=by
 rcases Sat.mL h with ⟨rfl,rfl,_⟩|⟨l,rfl,_,h2⟩
 ·exact ⟨rfl,.inl ⟨rfl,rfl⟩⟩
 ·exact h2.nB
theorem GG (c:Cx σ) (hc:c.Ok) (n:Nat) (hn1:4≤n) (hn2:n≤3840) (jf:FuncId) (caps:Array Value) (G:ah) (m:WM σ Nat)
  (hcf:∀ (args:Array Value) (w:World),(callFunc jf args).run Tryz.prog w = .ok (.enter jf args) w) (hj:DC c n jf caps Jc G m)
  (mb:Nat) (M:gW σ) (w:World) (S:Hp) (F:ah) (h:Sat w (cC c S mb M*(aj S*(G*F)))) (Q:Ending→World→Prop)
  (hQ:∀ e w',zv c mb (.int .i64 0) Jc S (G*F) w (eh m M) e w'→Q e w') :
  Calls Tryz.prog 93 #[gm mb n,.func (.func jf) #[] caps] w Q:=by
 have HQ:=ae hQ;clear hQ;have hn1':¬ ((n:Int)<4):=by omega
 have hn2':¬ ((n:Int) > 3840):=by omega
 have Hj:=ae hj;unfold gm
 go_enter_defers Tryz.func93,Tryz.ntmps93
 have H3:=((h.alloc (.cells #[.pointer (some ⟨mb,0,none⟩),.int .i64 (n:Int)] 83 (0,0))).alloc (.cells #[.int .i64 0] 3 (0,0))).alloc (.cells #[.int .i64 0] 28 (0,0));have D3:=(((ai.refl w).alloc (.cells #[.pointer (some ⟨mb,0,none⟩),.int .i64 (n:Int)] 83 (0,0))).alloc (.cells #[.int .i64 0] 3 (0,0))).alloc (.cells #[.int .i64 0] 28 (0,0));simp only [World.size_alloc] at H3
 go_wp2_with fail
 generalize ((w.alloc (.cells #[.pointer (some ⟨mb,0,none⟩),.int .i64 (n:Int)] 83 (0,0))).alloc (.cells #[.int .i64 0] 3 (0,0))).alloc (.cells #[.int .i64 0] 28 (0,0))=w3 at H3 D3 ⊢;clear h;generalize w.heap.size+1+1=eb at *;generalize w.heap.size+1=ab at *;generalize w.heap.size=sp at *;have s0:=H3.aq.cell 0;have s1:=H3.aq.cell 1;have h9:Sat w3 (az 176 5 S mb c.rd M.err M.W M.D*(aj S*(c.RI M.s*(pt eb (.cells #[.int .i64 0] 28 (0,0))*(pt ab (.cells #[.int .i64 0] 3 (0,0))*(pt sp (.cells #[.pointer (some ⟨mb,0,none⟩),.int .i64 (n:Int)] 83 (0,0))*(G*F))))))):=H3.to (by unfold cC;ac_rfl);have hfk:=pd w3.drew S mb c.rd M.err M.W M.D _ h9.drew ⟨_,_,rfl⟩;have Hfk:=ae hfk;clear hfk
 go_region_held3 (fun w'=>w'.cell? ⟨sp,0,none⟩=some (.pointer (some ⟨mb,0,none⟩))∧w'.cell? ⟨sp,1,none⟩=some (.int .i64 (n:Int)))
  (first|exact ⟨s0,s1⟩|exact k01|go_keep)
  (first|(go_at_call 135;refine (Hfk.out).mono ?_;rintro e w4 ⟨S1,f,hS1,rfl,h4,d4⟩;have k01:w4.cell? ⟨sp,0,none⟩=some (.pointer (some ⟨mb,0,none⟩))∧w4.cell? ⟨sp,1,none⟩=some (.int .i64 (n:Int)):=⟨h4.bM.cell 0,h4.bM.cell 1⟩))
 have D5:=(D3.drew.trans d4).alloc (.cells #[.pointer (some ⟨f,0,none⟩),.int .i64 (n:Int),.slice none 0 0,.bool false] 149 (0,0));have H5:=h4.alloc (.cells #[.pointer (some ⟨f,0,none⟩),.int .i64 (n:Int),.slice none 0 0,.bool false] 149 (0,0))
 have H5':Sat (w4.alloc (.cells #[.pointer (some ⟨f,0,none⟩),.int .i64 (n:Int),.slice none 0 0,.bool false] 149 (0,0))) (aL (⟨c,n,w4.heap.size,f⟩:Wk σ) S1 ⟨M,none,false⟩*(aj S1*(G*(az 176 5 S1 mb c.rd M.err M.W M.D*(pt eb (.cells #[.int .i64 0] 28 (0,0))*(pt ab (.cells #[.int .i64 0] 3 (0,0))*(pt sp (.cells #[.pointer (some ⟨mb,0,none⟩),.int .i64 (n:Int)] 83 (0,0))*F))))))):=
  rS (H5.to (by ac_rfl))
 have hjb:=Hj.out ⟨c,n,w4.heap.size,f⟩ _ S1 ⟨M,none,false⟩ _ rfl rfl H5';rename_i hHeld;generalize w4.heap.size=k at *;obtain ⟨⟨r,st1⟩,hp⟩:∃ p,m ⟨M,none,false⟩=p:=⟨_,rfl⟩
 rw [hp] at hjb
 cases r with
 | bad cN=>
  have HE:=ae (kF hp);clear hp
  go_wp2_with fail
  (with_reducible refine hjb.mono ?_)
  rintro e w6 ⟨S2,hS2,d6,rfl,h6⟩;have h7:=rT h6
  have h8:Sat w6 (c.RI st1.b.s*(az 176 5 S1 mb c.rd M.err M.W M.D*(pt eb (.cells #[.int .i64 0] 28 (0,0))*(pt ab (.cells #[.int .i64 0] 3 (0,0))*(aj S2*(G*F)))))):=
   (h7.to (by ac_rfl:_=pt sp (.cells #[.pointer (some ⟨mb,0,none⟩),.int .i64 (n:Int)] 83 (0,0))*(c.RI st1.b.s*(az 176 5 S1 mb c.rd M.err M.W M.D*(pt eb (.cells #[.int .i64 0] 28 (0,0))*(pt ab (.cells #[.int .i64 0] 3 (0,0))*(aj S2*(G*F)))))))).right
  have h9:=lK hS2 h8;have h10:Sat w6 (pt ab (.cells #[.int .i64 0] 3 (0,0))*(pt eb (.cells #[.int .i64 0] 28 (0,0))*(cC c S2 mb { M with s:=st1.b.s }*(aj S2*(G*F))))):=h9.to (by ac_rfl)
  go_wp2_with fail
  exact we rfl rfl h10 fun w' h11 d11=>HQ.out _ _ (by rw [HE.out];exact ⟨S2,hS1.trans hS2,(D5.trans d6).trans d11,rfl,h11⟩)
 | ok a=>
  go_wp2_with fail
  (with_reducible refine hjb.mono ?_)
  rintro e w6 ⟨S2,v6,hS2,d6,rfl,h6⟩;obtain ⟨rfl,h7⟩:=Sat.ak.1 h6;obtain ⟨bv,h8⟩:=Sat.eQ h7;clear hjb h6 h7;have h9:Sat w6 (pt ab (.cells #[.int .i64 0] 3 (0,0))*(pt eb (.cells #[.int .i64 0] 28 (0,0))*(pt sp (.cells #[.pointer (some ⟨mb,0,none⟩),.int .i64 (n:Int)] 83 (0,0))*(pt k (.cells #[.pointer (some ⟨f,0,none⟩),.int .i64 (n:Int),bv,.bool st1.dt] 149 (0,0))*(cC c S2 f st1.b*(bS st1.bits bv*(aj S2*(az 176 5 S1 mb c.rd M.err M.W M.D*(G*F))))))))):=h8.to (by unfold bh Wk.cells;ac_rfl);have c9:w6.cell? ⟨ab,0,none⟩=some (.int .i64 0):=h9.cell 0;have f9:w6.frozen? ⟨ab,0,none⟩=false:=h9.frozen 0;have h10:=h9.setCell 0 (.int .i64 (a:Int));have D10:=(D5.trans d6).setCell ⟨ab,0,none⟩ (.int .i64 (a:Int));have k3:=h10.aC.cell 3;clear h8 h9 D5 d6
  cases hdt:st1.dt with
  | false=>
   have HE:=ae (mz hp hdt);rw [hdt] at k3 h10;clear hp hdt
   go_wp2_with fail
   generalize w6.setCell ⟨ab,0,none⟩ (.int .i64 (a:Int))=w7 at *;have hj9:Sat w7 (az 176 5 S1 mb c.rd M.err M.W M.D*(az 176 5 S2 f c.rd st1.b.err st1.b.W st1.b.D*(aj S2*(c.RI st1.b.s*(pt ab (.cells #[.int .i64 (a:Int)] 3 (0,0))*(pt eb (.cells #[.int .i64 0] 28 (0,0))*(pt sp (.cells #[.pointer (some ⟨mb,0,none⟩),.int .i64 (n:Int)] 83 (0,0))*(pt k (.cells #[.pointer (some ⟨f,0,none⟩),.int .i64 (n:Int),bv,.bool false] 149 (0,0))*(bS st1.bits bv*(G*F)))))))))):=h10.to (by unfold cC;ac_rfl);have hj10:=hj9.fh (dD hS2);have s0:=hj10.bM.cell 0;have k0:=hj10.dI.cell 0;have hjn:=ae (iI w7.drew S2 mb f c.rd c.rd st1.b.err M.err st1.b.W st1.b.D M.W M.D _ hj10.drew ⟨_,_,rfl⟩);clear hj9 hj10 h10
   go_region_held3 (fun w'=>w'.cell? ⟨sp,0,none⟩=some (.pointer (some ⟨mb,0,none⟩))∧w'.cell? ⟨k,0,none⟩=some (.pointer (some ⟨f,0,none⟩)))
    (first|exact ⟨s0,k0⟩|exact k01|go_keep)
    (first|(go_at_call 138;refine (hjn.out).mono ?_;rintro e w8 ⟨S3,hS3,rfl,h8,d8⟩;have k01:w8.cell? ⟨sp,0,none⟩=some (.pointer (some ⟨mb,0,none⟩))∧w8.cell? ⟨k,0,none⟩=some (.pointer (some ⟨f,0,none⟩)):=⟨h8.bM.cell 0,h8.dI.cell 0⟩))
   all_goals
    rename_i hHeld;have h9:Sat w8 (pt ab (.cells #[.int .i64 (a:Int)] 3 (0,0))*(pt eb (.cells #[.int .i64 0] 28 (0,0))*((cC c S3 mb st1.b*(aj S3*(G*F)))*(pt sp (.cells #[.pointer (some ⟨mb,0,none⟩),.int .i64 (n:Int)] 83 (0,0))*(pt k (.cells #[.pointer (some ⟨f,0,none⟩),.int .i64 (n:Int),bv,.bool false] 149 (0,0))*(az 176 5 S3 f c.rd st1.b.err st1.b.W st1.b.D*bS st1.bits bv)))))):=h8.to (by unfold cC;ac_rfl);have c9:=h9.cell 0;have f9:w8.frozen? ⟨ab,0,none⟩=false:=h9.frozen 0;have e9:w8.cell? ⟨eb,0,none⟩=some (.int .i64 0):=h9.ag.cell 0;have g9:w8.frozen? ⟨eb,0,none⟩=false:=h9.ag.frozen 0;have hne:¬ (ab=eb):=Sat.ne h9;have hne2:¬ (eb=ab):=fun h=>hne h.symm;have h10:=((h9.setCell 0 (.int .i64 (a:Int))).ag.setCell 0 (.int .i64 0))
    have ca:=h10.ag.cell 0;have ce:=h10.cell 0;have D9:=(((D10).drew.trans d8).setCell ⟨ab,0,none⟩ (.int .i64 (a:Int))).setCell ⟨eb,0,none⟩ (.int .i64 0);have hF:Sat _ ((cC c S3 mb st1.b*(aj S3*(G*F)))):=h10.right.right.left;have HD:=ae D9;have HF:=ae hF;have Ca:=ae ca;have Ce:=ae ce
    go_wp2_with fail
    exact wm rfl rfl Ca.out Ce.out (HQ.out _ _ (by rw [HE.out];exact ⟨S3,_,hS1.trans (hS2.trans hS3),HD.out,rfl,Sat.ak.2 ⟨rfl,HF.out.to (by ac_rfl)⟩⟩))
  | true=>
   have HE1:=fun st'=>oP (st':=st') hp hdt;have HE2:=fun st' c=>rR (st':=st') (c:=c) hp hdt;have HE1:=ae HE1;have HE2:=ae HE2;rw [hdt] at k3 h10;have k2:=h10.aC.cell 2;have hrb:=xF h10.dj
   have h11:Sat (w6.setCell ⟨ab,0,none⟩ (.int .i64 (a:Int))) (bh (⟨c,n,k,f⟩:Wk σ) bv S2 st1*(aj S2*(pt ab (.cells #[.int .i64 (a:Int)] 3 (0,0))*(pt eb (.cells #[.int .i64 0] 28 (0,0))*(pt sp (.cells #[.pointer (some ⟨mb,0,none⟩),.int .i64 (n:Int)] 83 (0,0))*(bS st1.bits bv*(az 176 5 S1 mb c.rd M.err M.W M.D*(G*F)))))))):=
    h10.to (by unfold bh Wk.cells;rw [hdt];ac_rfl)
   have hwr:=js (⟨c,n,k,f⟩:Wk σ) _ bv S2 st1 0 bv (st1.bits.getD []) _ h11 hrb
   obtain ⟨va,vl,vc,rfl⟩:∃ a l c,bv = .slice a l c:=by
    obtain ⟨a,c,e⟩:=hrb.shape;exact ⟨_,_,_,e⟩
   have hdt2:∀ st' r,bN 0 (st1.bits.getD []) st1=(r,st')→st'.dt=true:=fun st' r h=>by
    unfold bN at h
    split at h
    ·simp only [Prod.mk.injEq] at h;rw [← h.2];exact hdt
    ·simp only [Prod.mk.injEq] at h;rw [← h.2];exact hdt
   obtain ⟨⟨r2,st2⟩,hp2⟩:∃ p,bN 0 (st1.bits.getD []) st1=p:=⟨_,rfl⟩
   rw [hp2] at hwr;have hdt3:=hdt2 _ _ hp2;have Hdt3:=ae hdt3;clear hp hdt h11 hrb hdt2 hdt3
   cases r2 with
   | bad cN=>
    have HE:=ae (HE2.out _ _ hp2);clear hp2 HE1 HE2
    go_wp2_with fail
    (with_reducible refine hwr.mono ?_)
    rintro e w8 ⟨S3,hS3,d8,rfl,h12⟩
    have h13:Sat w8 (c.RI st2.b.s*(az 176 5 S1 mb c.rd M.err M.W M.D*(pt ab (.cells #[.int .i64 (a:Int)] 3 (0,0))*(pt eb (.cells #[.int .i64 0] 28 (0,0))*(aj S3*(G*F)))))):=
     (h12.to (by unfold bh cC;ac_rfl:_=(pt k (.cells ((⟨c,n,k,f⟩:Wk σ).cells (.slice va vl vc) st2.dt) 149 (0,0))*(az 176 5 S3 f c.rd st2.b.err st2.b.W st2.b.D*(pt sp (.cells #[.pointer (some ⟨mb,0,none⟩),.int .i64 (n:Int)] 83 (0,0))*bS st1.bits (.slice va vl vc))))*(c.RI st2.b.s*(az 176 5 S1 mb c.rd M.err M.W M.D*(pt ab (.cells #[.int .i64 (a:Int)] 3 (0,0))*(pt eb (.cells #[.int .i64 0] 28 (0,0))*(aj S3*(G*F)))))))).right
    have h14:=lK (hS2.trans hS3) h13;have h15:Sat w8 (pt ab (.cells #[.int .i64 (a:Int)] 3 (0,0))*(pt eb (.cells #[.int .i64 0] 28 (0,0))*(cC c S3 mb { M with s:=st2.b.s }*(aj S3*(G*F))))):=h14.to (by ac_rfl)
    go_wp2_with fail
    exact we rfl rfl h15 fun w' h11 d11=>HQ.out _ _ (by rw [HE.out];exact ⟨S3,hS1.trans (hS2.trans hS3),(D10.trans d8).trans d11,rfl,h11⟩)
   | ok u=>
    have HE:=ae (HE1.out _ hp2);clear hp2 HE1 HE2
    go_wp2_with fail
    (with_reducible refine hwr.mono ?_)
    rintro e w7 ⟨S3,v8,hS3,d8,rfl,h12⟩;obtain ⟨rfl,h13⟩:=Sat.ak.1 h12;have h14:Sat w7 (pt ab (.cells #[.int .i64 (a:Int)] 3 (0,0))*(pt eb (.cells #[.int .i64 0] 28 (0,0))*(pt sp (.cells #[.pointer (some ⟨mb,0,none⟩),.int .i64 (n:Int)] 83 (0,0))*(pt k (.cells #[.pointer (some ⟨f,0,none⟩),.int .i64 (n:Int),(.slice va vl vc),.bool true] 149 (0,0))*(cC c S3 f st2.b*(bS st1.bits (.slice va vl vc)*(aj S3*(az 176 5 S1 mb c.rd M.err M.W M.D*(G*F))))))))):=h13.to (by unfold bh Wk.cells;rw [Hdt3.out];ac_rfl);have D14:=D10.trans d8;have hE3:=hS2.trans hS3;clear hwr h12 h13 D10 d8 h10 k2 k3
    go_wp2_with fail
    have hj9:Sat w7 (az 176 5 S1 mb c.rd M.err M.W M.D*(az 176 5 S3 f c.rd st2.b.err st2.b.W st2.b.D*(aj S3*(c.RI st2.b.s*(pt ab (.cells #[.int .i64 (a:Int)] 3 (0,0))*(pt eb (.cells #[.int .i64 0] 28 (0,0))*(pt sp (.cells #[.pointer (some ⟨mb,0,none⟩),.int .i64 (n:Int)] 83 (0,0))*(pt k (.cells #[.pointer (some ⟨f,0,none⟩),.int .i64 (n:Int),(.slice va vl vc),.bool true] 149 (0,0))*(bS st1.bits (.slice va vl vc)*(G*F)))))))))):=h14.to (by unfold cC;ac_rfl);have hj10:=hj9.fh (dD hE3);have s0:=hj10.bM.cell 0;have k0:=hj10.dI.cell 0;have hjn:=ae (iI w7.drew S3 mb f c.rd c.rd st2.b.err M.err st2.b.W st2.b.D M.W M.D _ hj10.drew ⟨_,_,rfl⟩);clear hj9 hj10 h14
    go_region_held3 (fun w'=>w'.cell? ⟨sp,0,none⟩=some (.pointer (some ⟨mb,0,none⟩))∧w'.cell? ⟨k,0,none⟩=some (.pointer (some ⟨f,0,none⟩)))
     (first|exact ⟨s0,k0⟩|exact k01|go_keep)
     (first|(go_at_call 138;refine (hjn.out).mono ?_;rintro e w8 ⟨S5,hS5,rfl,h8,d8⟩;have k01:w8.cell? ⟨sp,0,none⟩=some (.pointer (some ⟨mb,0,none⟩))∧w8.cell? ⟨k,0,none⟩=some (.pointer (some ⟨f,0,none⟩)):=⟨h8.bM.cell 0,h8.dI.cell 0⟩))
    all_goals
     rename_i hHeld;have h9:Sat w8 (pt ab (.cells #[.int .i64 (a:Int)] 3 (0,0))*(pt eb (.cells #[.int .i64 0] 28 (0,0))*((cC c S5 mb st2.b*(aj S5*(G*F)))*(pt sp (.cells #[.pointer (some ⟨mb,0,none⟩),.int .i64 (n:Int)] 83 (0,0))*(pt k (.cells #[.pointer (some ⟨f,0,none⟩),.int .i64 (n:Int),(.slice va vl vc),.bool true] 149 (0,0))*(az 176 5 S5 f c.rd st2.b.err st2.b.W st2.b.D*bS st1.bits (.slice va vl vc))))))):=h8.to (by unfold cC;ac_rfl);have c9:w8.cell? ⟨ab,0,none⟩=some (.int .i64 (a:Int)):=h9.cell 0;have f9:w8.frozen? ⟨ab,0,none⟩=false:=h9.frozen 0;have e9:w8.cell? ⟨eb,0,none⟩=some (.int .i64 0):=h9.ag.cell 0;have g9:w8.frozen? ⟨eb,0,none⟩=false:=h9.ag.frozen 0;have hne:¬ (ab=eb):=Sat.ne h9;have hne2:¬ (eb=ab):=fun h=>hne h.symm;have h10:=((h9.setCell 0 (.int .i64 (a:Int))).ag.setCell 0 (.int .i64 0))
     have ca:=h10.ag.cell 0;have ce:=h10.cell 0;have D9:=(((D14).drew.trans d8).setCell ⟨ab,0,none⟩ (.int .i64 (a:Int))).setCell ⟨eb,0,none⟩ (.int .i64 0);have hF:Sat _ ((cC c S5 mb st2.b*(aj S5*(G*F)))):=h10.right.right.left;have HD:=ae D9;have HF:=ae hF;have Ca:=ae ca;have Ce:=ae ce
     go_wp2_with fail
     exact wm rfl rfl Ca.out Ce.out (HQ.out _ _ (by rw [HE.out];exact ⟨S5,_,hS1.trans (hE3.trans hS5),HD.out,rfl,Sat.ak.2 ⟨rfl,HF.out.to (by ac_rfl)⟩⟩))
end
section
variable {σ α:Type}
theorem JS (w:World) (pa pe:Addr) :
    CallsD Tryz.prog 209 #[.pointer (some pa),.pointer (some pe)] .returning w fun e u w'=>e = .returned (.tuple #[])∧u = .returning∧w=w':=by
  refine callsD_of_wpS Tryz.func209 rfl fun c₀ cs hu=>?_;apply wpS_seq;refine wpS_of_wp ?_
  simp only [Tryz.ntmps209,List.size_toArray,List.length_cons,List.length_nil,Nat.reduceAdd,Nat.reduceSub,Array.replicate_succ,
     Array.replicate_zero,List.push_toArray,List.append_toArray,List.nil_append,List.cons_append]
  go_wp2
  apply wpS_seq;apply wpS_region;simp [wpOpsS,go_sem,recoverD,hu,Exit.thenS];refine wpS_of_wp ?_
  go_wp2
  cases c₀
  simp_all [bodyPostS,results,Tryz.results209]
theorem F2 (w:World) (pa pe:Addr) (c y:Int) (x:Value) (older:List PanicEntry) (ha:w.cell? pa=some x) (hx:x = .slice none 0 0∨∃ a n c,x = .slice a n c) (he:w.cell? pe=some (.int .i64 y)) (fa:w.frozen? pa=false) (fe:w.frozen? pe=false) (hne:pa≠pe) :
    CallsD Tryz.prog 209 #[.pointer (some pa),.pointer (some pe)] (.panicking ({ v:=.iface 219 (.int .i64 c),recovered:=false } :: older)) w fun e u w'=>
      e = .returned (.tuple #[])∧u = .panicking ({ v:=.iface 219 (.int .i64 c),recovered:=true } :: older)∧w'=(w.setCell pa (.slice none 0 0)).setCell pe (.int .i64 c):=by
  refine callsD_of_wpS Tryz.func209 rfl fun c₀ cs hu=>?_;apply wpS_seq;refine wpS_of_wp ?_
  simp only [Tryz.ntmps209,List.size_toArray,List.length_cons,List.length_nil,Nat.reduceAdd,Nat.reduceSub,Array.replicate_succ,
     Array.replicate_zero,List.push_toArray,List.append_toArray,List.nil_append,List.cons_append]
  go_wp2
  apply wpS_seq;apply wpS_region;simp [wpOpsS,go_sem,recoverD,hu,Exit.thenS];refine wpS_of_wp ?_;have hta:=iT (.int .i64 c)
  go_wp2
  exact ⟨rfl,_,rfl,_,results_none rfl _ _ _,rfl,rfl,rfl⟩
theorem oA {w:World} {tmps:Array Value} {a b:Nat} {v e:Value} (h4:tmps[4]?=some (ax a)) (h5:tmps[5]?=some (ax b)) (ha:w.cell? ⟨a,0,none⟩=some v) (hb:w.cell? ⟨b,0,none⟩=some e) :
  (results Tryz.f153 tmps).run Tryz.prog w = .ok (.tuple #[v,e]) w:=by
 simp [results,Tryz.results153,h4,h5,go_sem,ha,hb]
theorem vO {w:World} {tmps:Array Value} {ab eb:Nat} {y:Value} {z c:Int} {P:ah} {R:Ending→World→Prop} (h4:tmps[4]?=some (ax ab)) (h5:tmps[5]?=some (ax eb))
  (h:Sat w (pt ab (.cells #[y] 37 (0,0))*(pt eb (.cells #[.int .i64 z] 28 (0,0))*P))) (hy:y = .slice none 0 0∨∃ a n c,y = .slice a n c) (hR:∀ w',Sat w' P→ai w w'→R (.returned (.tuple #[.slice none 0 0,.int .i64 c])) w') :
  bodyPostD Tryz.prog Tryz.f153 R (Exit.panic (FR c)) { tmps:=tmps,defers:=[{ target:=.fn (.func 209) #[.pointer (some ⟨ab,0,none⟩),.pointer (some ⟨eb,0,none⟩)],args:=#[] }] } w:=by
 have hne:=Sat.ne h;refine leaves_cons (f:=209) (args:=#[.pointer (some ⟨ab,0,none⟩),.pointer (some ⟨eb,0,none⟩)]) (by simp) (by simp [go_sem]) ?_;refine (F2 w ⟨ab,0,none⟩ ⟨eb,0,none⟩ c z y [] (h.cell 0) hy (h.ag.cell 0) (h.frozen 0) (h.ag.frozen 0) (by intro h;injection h with h;exact hne h)).mono ?_;rintro e u w7 ⟨rfl,rfl,rfl⟩;have h11:=((h.setCell 0 (.slice none 0 0)).ag.setCell 0 (.int .i64 c))
 exact ⟨_,oA h4 h5 (h11.ag.cell 0) (h11.cell 0),hR _ h11.right.right (((ai.refl w).setCell _ _).setCell _ _)⟩
theorem vD {w:World} {tmps:Array Value} {ab eb:Nat} {v z:Value} {R:Ending→World→Prop} (h4:tmps[4]?=some (ax ab)) (h5:tmps[5]?=some (ax eb))
  (ha:w.cell? ⟨ab,0,none⟩=some v) (hb:w.cell? ⟨eb,0,none⟩=some z) (hR:R (.returned (.tuple #[v,z])) w) :
  bodyPostD Tryz.prog Tryz.f153 R Exit.ret { tmps:=tmps,defers:=[{ target:=.fn (.func 209) #[.pointer (some ⟨ab,0,none⟩),.pointer (some ⟨eb,0,none⟩)],args:=#[] }] } w:=by
 refine leaves_cons (f:=209) (args:=#[.pointer (some ⟨ab,0,none⟩),.pointer (some ⟨eb,0,none⟩)]) (by simp) (by simp [go_sem]) ?_;refine (JS w ⟨ab,0,none⟩ ⟨eb,0,none⟩).mono ?_;rintro e u w7 ⟨rfl,rfl,rfl⟩;exact ⟨_,oA h4 h5 ha hb,hR⟩
theorem sJ (c:Cx σ) (hc:c.Ok) (n:Nat) (hn1:4≤n) (hn2:n≤3840) (jf:FuncId) (caps:Array Value) (G:ah) (m:WM σ (List UInt8))
  (hcf:∀ (args:Array Value) (w:World),(callFunc jf args).run Tryz.prog w = .ok (.enter jf args) w) (hj:DC c n jf caps fB G m)
  (mb:Nat) (M:gW σ) (w:World) (S:Hp) (F:ah) (h:Sat w (cC c S mb M*(aj S*(G*F)))) (Q:Ending→World→Prop)
  (hQ:∀ e w',zv c mb (.slice none 0 0) fB S (G*F) w (eh m M) e w'→Q e w') :
  Calls Tryz.prog 153 #[gm mb n,.func (.func jf) #[] caps] w Q:=by
 have HQ:=ae hQ;clear hQ;have hn1':¬ ((n:Int)<4):=by omega
 have hn2':¬ ((n:Int) > 3840):=by omega
 have Hj:=ae hj;unfold gm
 go_enter_defers Tryz.func153,Tryz.ntmps153
 have H3:=((h.alloc (.cells #[.pointer (some ⟨mb,0,none⟩),.int .i64 (n:Int)] 83 (0,0))).alloc (.cells #[.slice none 0 0] 37 (0,0))).alloc (.cells #[.int .i64 0] 28 (0,0));have D3:=(((ai.refl w).alloc (.cells #[.pointer (some ⟨mb,0,none⟩),.int .i64 (n:Int)] 83 (0,0))).alloc (.cells #[.slice none 0 0] 37 (0,0))).alloc (.cells #[.int .i64 0] 28 (0,0));simp only [World.size_alloc] at H3
 go_wp2_with fail
 generalize ((w.alloc (.cells #[.pointer (some ⟨mb,0,none⟩),.int .i64 (n:Int)] 83 (0,0))).alloc (.cells #[.slice none 0 0] 37 (0,0))).alloc (.cells #[.int .i64 0] 28 (0,0))=w3 at H3 D3 ⊢;clear h;generalize w.heap.size+1+1=eb at *;generalize w.heap.size+1=ab at *;generalize w.heap.size=sp at *;have s0:=H3.aq.cell 0;have s1:w3.cell? ⟨sp,1,none⟩=some (.int .i64 (n:Int)):=H3.aq.cell 1;have h9:Sat w3 (az 176 5 S mb c.rd M.err M.W M.D*(aj S*(c.RI M.s*(pt eb (.cells #[.int .i64 0] 28 (0,0))*(pt ab (.cells #[.slice none 0 0] 37 (0,0))*(pt sp (.cells #[.pointer (some ⟨mb,0,none⟩),.int .i64 (n:Int)] 83 (0,0))*(G*F))))))):=H3.to (by unfold cC;ac_rfl);have hfk:=pd w3.drew S mb c.rd M.err M.W M.D _ h9.drew ⟨_,_,rfl⟩;have Hfk:=ae hfk;clear hfk
 go_region_held3 (fun w'=>w'.cell? ⟨sp,0,none⟩=some (.pointer (some ⟨mb,0,none⟩))∧w'.cell? ⟨sp,1,none⟩=some (.int .i64 (n:Int)))
  (first|exact ⟨s0,s1⟩|exact k01|go_keep)
  (first|(go_at_call 135;refine (Hfk.out).mono ?_;rintro e w4 ⟨S1,f,hS1,rfl,h4,d4⟩;have k01:w4.cell? ⟨sp,0,none⟩=some (.pointer (some ⟨mb,0,none⟩))∧w4.cell? ⟨sp,1,none⟩=some (.int .i64 (n:Int)):=⟨h4.bM.cell 0,h4.bM.cell 1⟩))
 have D5:=(D3.drew.trans d4).alloc (.cells #[.pointer (some ⟨f,0,none⟩),.int .i64 (n:Int),.slice none 0 0,.bool false] 149 (0,0));have H5:=h4.alloc (.cells #[.pointer (some ⟨f,0,none⟩),.int .i64 (n:Int),.slice none 0 0,.bool false] 149 (0,0))
 have H5':Sat (w4.alloc (.cells #[.pointer (some ⟨f,0,none⟩),.int .i64 (n:Int),.slice none 0 0,.bool false] 149 (0,0))) (aL (⟨c,n,w4.heap.size,f⟩:Wk σ) S1 ⟨M,none,false⟩*(aj S1*(G*(az 176 5 S1 mb c.rd M.err M.W M.D*(pt eb (.cells #[.int .i64 0] 28 (0,0))*(pt ab (.cells #[.slice none 0 0] 37 (0,0))*(pt sp (.cells #[.pointer (some ⟨mb,0,none⟩),.int .i64 (n:Int)] 83 (0,0))*F))))))):=
  rS (H5.to (by ac_rfl))
 have hjb:=Hj.out ⟨c,n,w4.heap.size,f⟩ _ S1 ⟨M,none,false⟩ _ rfl rfl H5';rename_i hHeld;clear s0 s1 h9 Hfk k01 hHeld D3 d4 h4 H5 H5' Hj hj H3;generalize w4.heap.size=k at *;obtain ⟨⟨r,st1⟩,hp⟩:∃ p,m ⟨M,none,false⟩=p:=⟨_,rfl⟩
 rw [hp] at hjb
 cases r with
 | bad cN=>
  have HE:=ae (kF hp);clear hp
  go_wp2_with fail
  (with_reducible refine hjb.mono ?_)
  rintro e w6 ⟨S2,hS2,d6,rfl,h6⟩;have h7:=rT h6
  have h8:Sat w6 (c.RI st1.b.s*(az 176 5 S1 mb c.rd M.err M.W M.D*(pt eb (.cells #[.int .i64 0] 28 (0,0))*(pt ab (.cells #[.slice none 0 0] 37 (0,0))*(aj S2*(G*F)))))):=
   (h7.to (by ac_rfl:_=pt sp (.cells #[.pointer (some ⟨mb,0,none⟩),.int .i64 (n:Int)] 83 (0,0))*(c.RI st1.b.s*(az 176 5 S1 mb c.rd M.err M.W M.D*(pt eb (.cells #[.int .i64 0] 28 (0,0))*(pt ab (.cells #[.slice none 0 0] 37 (0,0))*(aj S2*(G*F)))))))).right
  have h9:=lK hS2 h8;have h10:Sat w6 (pt ab (.cells #[.slice none 0 0] 37 (0,0))*(pt eb (.cells #[.int .i64 0] 28 (0,0))*(cC c S2 mb { M with s:=st1.b.s }*(aj S2*(G*F))))):=h9.to (by ac_rfl)
  go_wp2_with fail
  exact vO rfl rfl h10 (.inl rfl) fun w' h11 d11=>HQ.out _ _ (by rw [HE.out];exact ⟨S2,hS1.trans hS2,(D5.trans d6).trans d11,rfl,h11⟩)
 | ok a=>
  go_wp2_with fail
  (with_reducible refine hjb.mono ?_)
  rintro e w6 ⟨S2,v6,hS2,d6,rfl,h6⟩;unfold fB at h6;obtain ⟨aa,ac,rfl⟩:=aB h6;generalize a.length=al at h6 ⊢;have h7:Sat w6 (aL (⟨c,n,k,f⟩:Wk σ) S2 st1*(aj S2*((bs 5 (.slice aa al ac) a*G)*(az 176 5 S1 mb c.rd M.err M.W M.D*(pt eb (.cells #[.int .i64 0] 28 (0,0))*(pt ab (.cells #[.slice none 0 0] 37 (0,0))*(pt sp (.cells #[.pointer (some ⟨mb,0,none⟩),.int .i64 (n:Int)] 83 (0,0))*F))))))):=h6.to (by ac_rfl);obtain ⟨bv,h8⟩:=Sat.eQ h7;clear hjb h6 h7;have h9:Sat w6 (pt ab (.cells #[.slice none 0 0] 37 (0,0))*(pt eb (.cells #[.int .i64 0] 28 (0,0))*(pt sp (.cells #[.pointer (some ⟨mb,0,none⟩),.int .i64 (n:Int)] 83 (0,0))*(pt k (.cells #[.pointer (some ⟨f,0,none⟩),.int .i64 (n:Int),bv,.bool st1.dt] 149 (0,0))*(cC c S2 f st1.b*(bS st1.bits bv*(aj S2*(az 176 5 S1 mb c.rd M.err M.W M.D*((bs 5 (.slice aa al ac) a*G)*F))))))))):=h8.to (by unfold bh Wk.cells;ac_rfl);have c9:w6.cell? ⟨ab,0,none⟩=some (.slice none 0 0):=h9.cell 0;have f9:w6.frozen? ⟨ab,0,none⟩=false:=h9.frozen 0;have h10:=h9.setCell 0 (.slice aa al ac);have D10:=(D5.trans d6).setCell ⟨ab,0,none⟩ (.slice aa al ac);have k3:=h10.aC.cell 3;clear h8 h9 D5 d6
  cases hdt:st1.dt with
  | false=>
   have HE:=ae (mz hp hdt);rw [hdt] at k3 h10;clear hp hdt
   go_wp2_with fail
   generalize w6.setCell ⟨ab,0,none⟩ (.slice aa al ac)=w7 at *;have hj9:Sat w7 (az 176 5 S1 mb c.rd M.err M.W M.D*(az 176 5 S2 f c.rd st1.b.err st1.b.W st1.b.D*(aj S2*(c.RI st1.b.s*(pt ab (.cells #[.slice aa al ac] 37 (0,0))*(pt eb (.cells #[.int .i64 0] 28 (0,0))*(pt sp (.cells #[.pointer (some ⟨mb,0,none⟩),.int .i64 (n:Int)] 83 (0,0))*(pt k (.cells #[.pointer (some ⟨f,0,none⟩),.int .i64 (n:Int),bv,.bool false] 149 (0,0))*(bS st1.bits bv*((bs 5 (.slice aa al ac) a*G)*F)))))))))):=h10.to (by unfold cC;ac_rfl);have hj10:=hj9.fh (dD hS2);have s0:=hj10.bM.cell 0;have k0:=hj10.dI.cell 0;have hjn:=ae (iI w7.drew S2 mb f c.rd c.rd st1.b.err M.err st1.b.W st1.b.D M.W M.D _ hj10.drew ⟨_,_,rfl⟩);clear hj9 hj10 h10
   go_region_held3 (fun w'=>w'.cell? ⟨sp,0,none⟩=some (.pointer (some ⟨mb,0,none⟩))∧w'.cell? ⟨k,0,none⟩=some (.pointer (some ⟨f,0,none⟩)))
    (first|exact ⟨s0,k0⟩|exact k01|go_keep)
    (first|(go_at_call 138;refine (hjn.out).mono ?_;rintro e w8 ⟨S3,hS3,rfl,h8,d8⟩;have k01:w8.cell? ⟨sp,0,none⟩=some (.pointer (some ⟨mb,0,none⟩))∧w8.cell? ⟨k,0,none⟩=some (.pointer (some ⟨f,0,none⟩)):=⟨h8.bM.cell 0,h8.dI.cell 0⟩))
   all_goals
    rename_i hHeld;have h9:Sat w8 (pt ab (.cells #[.slice aa al ac] 37 (0,0))*(pt eb (.cells #[.int .i64 0] 28 (0,0))*((cC c S3 mb st1.b*(aj S3*((bs 5 (.slice aa al ac) a*G)*F)))*(pt sp (.cells #[.pointer (some ⟨mb,0,none⟩),.int .i64 (n:Int)] 83 (0,0))*(pt k (.cells #[.pointer (some ⟨f,0,none⟩),.int .i64 (n:Int),bv,.bool false] 149 (0,0))*(az 176 5 S3 f c.rd st1.b.err st1.b.W st1.b.D*bS st1.bits bv)))))):=h8.to (by unfold cC;ac_rfl);have c9:w8.cell? ⟨ab,0,none⟩=some (.slice aa al ac):=h9.cell 0;have f9:w8.frozen? ⟨ab,0,none⟩=false:=h9.frozen 0;have e9:w8.cell? ⟨eb,0,none⟩=some (.int .i64 0):=h9.ag.cell 0;have g9:w8.frozen? ⟨eb,0,none⟩=false:=h9.ag.frozen 0;have hne:¬ (ab=eb):=Sat.ne h9;have hne2:¬ (eb=ab):=fun h=>hne h.symm;have h10:=((h9.setCell 0 (.slice aa al ac)).ag.setCell 0 (.int .i64 0))
    have ca:=h10.ag.cell 0;have ce:=h10.cell 0;have D9:=(((D10).drew.trans d8).setCell ⟨ab,0,none⟩ (.slice aa al ac)).setCell ⟨eb,0,none⟩ (.int .i64 0);have hF:=h10.right.right.left;have HD:=ae D9;have HF:=ae hF;have Ca:=ae ca;have Ce:=ae ce
    go_wp2_with fail
    exact vD rfl rfl Ca.out Ce.out (HQ.out _ _ (by rw [HE.out];exact ⟨S3,_,hS1.trans (hS2.trans hS3),HD.out,rfl,HF.out.to (by unfold fB;ac_rfl)⟩))
  | true=>
   have HE1:=fun st'=>oP (st':=st') hp hdt;have HE2:=fun st' c=>rR (st':=st') (c:=c) hp hdt;have HE1:=ae HE1;have HE2:=ae HE2;rw [hdt] at k3 h10;have k2:=h10.aC.cell 2;have hrb:=xF h10.dj
   have h11:Sat (w6.setCell ⟨ab,0,none⟩ (.slice aa al ac)) (bh (⟨c,n,k,f⟩:Wk σ) bv S2 st1*(aj S2*(pt ab (.cells #[.slice aa al ac] 37 (0,0))*(pt eb (.cells #[.int .i64 0] 28 (0,0))*(pt sp (.cells #[.pointer (some ⟨mb,0,none⟩),.int .i64 (n:Int)] 83 (0,0))*(bS st1.bits bv*(az 176 5 S1 mb c.rd M.err M.W M.D*((bs 5 (.slice aa al ac) a*G)*F)))))))):=
    h10.to (by unfold bh Wk.cells;rw [hdt];ac_rfl)
   have hwr:=js (⟨c,n,k,f⟩:Wk σ) _ bv S2 st1 0 bv (st1.bits.getD []) _ h11 hrb
   obtain ⟨va,vl,vc,rfl⟩:∃ a l c,bv = .slice a l c:=by
    obtain ⟨a,c,e⟩:=hrb.shape;exact ⟨_,_,_,e⟩
   have hdt2:∀ st' r,bN 0 (st1.bits.getD []) st1=(r,st')→st'.dt=true:=fun st' r h=>by
    unfold bN at h
    split at h
    ·simp only [Prod.mk.injEq] at h;rw [← h.2];exact hdt
    ·simp only [Prod.mk.injEq] at h;rw [← h.2];exact hdt
   obtain ⟨⟨r2,st2⟩,hp2⟩:∃ p,bN 0 (st1.bits.getD []) st1=p:=⟨_,rfl⟩
   rw [hp2] at hwr;have hdt3:=hdt2 _ _ hp2;have Hdt3:=ae hdt3;clear hp hdt h11 hrb hdt2 hdt3
   cases r2 with
   | bad cN=>
    have HE:=ae (HE2.out _ _ hp2);clear hp2 HE1 HE2
    go_wp2_with fail
    (with_reducible refine hwr.mono ?_)
    rintro e w8 ⟨S3,hS3,d8,rfl,h12⟩
    have h13:Sat w8 (c.RI st2.b.s*(az 176 5 S1 mb c.rd M.err M.W M.D*(pt ab (.cells #[.slice aa al ac] 37 (0,0))*(pt eb (.cells #[.int .i64 0] 28 (0,0))*(aj S3*((bs 5 (.slice aa al ac) a*G)*F)))))):=
     (h12.to (by unfold bh cC;ac_rfl:_=(pt k (.cells ((⟨c,n,k,f⟩:Wk σ).cells (.slice va vl vc) st2.dt) 149 (0,0))*(az 176 5 S3 f c.rd st2.b.err st2.b.W st2.b.D*(pt sp (.cells #[.pointer (some ⟨mb,0,none⟩),.int .i64 (n:Int)] 83 (0,0))*bS st1.bits (.slice va vl vc))))*(c.RI st2.b.s*(az 176 5 S1 mb c.rd M.err M.W M.D*(pt ab (.cells #[.slice aa al ac] 37 (0,0))*(pt eb (.cells #[.int .i64 0] 28 (0,0))*(aj S3*((bs 5 (.slice aa al ac) a*G)*F)))))))).right
    have h14:=lK (hS2.trans hS3) h13;have h15:Sat w8 (pt ab (.cells #[.slice aa al ac] 37 (0,0))*(pt eb (.cells #[.int .i64 0] 28 (0,0))*(cC c S3 mb { M with s:=st2.b.s }*(aj S3*((bs 5 (.slice aa al ac) a*G)*F))))):=h14.to (by ac_rfl)
    go_wp2_with fail
    exact vO rfl rfl h15 (.inr ⟨_,_,_,rfl⟩) fun w' h11 d11=>HQ.out _ _ (by rw [HE.out];exact ⟨S3,hS1.trans (hS2.trans hS3),(D10.trans d8).trans d11,rfl,(h11.to (by ac_rfl:_=bs 5 (.slice aa al ac) a*(cC c S3 mb { M with s:=st2.b.s }*(aj S3*(G*F))))).right⟩)
   | ok u=>
    have HE:=ae (HE1.out _ hp2);clear hp2 HE1 HE2
    go_wp2_with fail
    (with_reducible refine hwr.mono ?_)
    rintro e w7 ⟨S3,v8,hS3,d8,rfl,h12⟩;obtain ⟨rfl,h13⟩:=Sat.ak.1 h12;have h14:Sat w7 (pt ab (.cells #[.slice aa al ac] 37 (0,0))*(pt eb (.cells #[.int .i64 0] 28 (0,0))*(pt sp (.cells #[.pointer (some ⟨mb,0,none⟩),.int .i64 (n:Int)] 83 (0,0))*(pt k (.cells #[.pointer (some ⟨f,0,none⟩),.int .i64 (n:Int),(.slice va vl vc),.bool true] 149 (0,0))*(cC c S3 f st2.b*(bS st1.bits (.slice va vl vc)*(aj S3*(az 176 5 S1 mb c.rd M.err M.W M.D*((bs 5 (.slice aa al ac) a*G)*F))))))))):=h13.to (by unfold bh Wk.cells;rw [Hdt3.out];ac_rfl);have D14:=D10.trans d8;have hE3:=hS2.trans hS3;clear hwr h12 h13 D10 d8 h10 k2 k3
    go_wp2_with fail
    have hj9:Sat w7 (az 176 5 S1 mb c.rd M.err M.W M.D*(az 176 5 S3 f c.rd st2.b.err st2.b.W st2.b.D*(aj S3*(c.RI st2.b.s*(pt ab (.cells #[.slice aa al ac] 37 (0,0))*(pt eb (.cells #[.int .i64 0] 28 (0,0))*(pt sp (.cells #[.pointer (some ⟨mb,0,none⟩),.int .i64 (n:Int)] 83 (0,0))*(pt k (.cells #[.pointer (some ⟨f,0,none⟩),.int .i64 (n:Int),(.slice va vl vc),.bool true] 149 (0,0))*(bS st1.bits (.slice va vl vc)*((bs 5 (.slice aa al ac) a*G)*F)))))))))):=h14.to (by unfold cC;ac_rfl);have hj10:=hj9.fh (dD hE3);have s0:=hj10.bM.cell 0;have k0:=hj10.dI.cell 0;have hjn:=ae (iI w7.drew S3 mb f c.rd c.rd st2.b.err M.err st2.b.W st2.b.D M.W M.D _ hj10.drew ⟨_,_,rfl⟩);clear hj9 hj10 h14
    go_region_held3 (fun w'=>w'.cell? ⟨sp,0,none⟩=some (.pointer (some ⟨mb,0,none⟩))∧w'.cell? ⟨k,0,none⟩=some (.pointer (some ⟨f,0,none⟩)))
     (first|exact ⟨s0,k0⟩|exact k01|go_keep)
     (first|(go_at_call 138;refine (hjn.out).mono ?_;rintro e w8 ⟨S5,hS5,rfl,h8,d8⟩;have k01:w8.cell? ⟨sp,0,none⟩=some (.pointer (some ⟨mb,0,none⟩))∧w8.cell? ⟨k,0,none⟩=some (.pointer (some ⟨f,0,none⟩)):=⟨h8.bM.cell 0,h8.dI.cell 0⟩))
    all_goals
     rename_i hHeld;have h9:Sat w8 (pt ab (.cells #[.slice aa al ac] 37 (0,0))*(pt eb (.cells #[.int .i64 0] 28 (0,0))*((cC c S5 mb st2.b*(aj S5*((bs 5 (.slice aa al ac) a*G)*F)))*(pt sp (.cells #[.pointer (some ⟨mb,0,none⟩),.int .i64 (n:Int)] 83 (0,0))*(pt k (.cells #[.pointer (some ⟨f,0,none⟩),.int .i64 (n:Int),(.slice va vl vc),.bool true] 149 (0,0))*(az 176 5 S5 f c.rd st2.b.err st2.b.W st2.b.D*bS st1.bits (.slice va vl vc))))))):=h8.to (by unfold cC;ac_rfl);have c9:w8.cell? ⟨ab,0,none⟩=some (.slice aa al ac):=h9.cell 0;have f9:w8.frozen? ⟨ab,0,none⟩=false:=h9.frozen 0;have e9:w8.cell? ⟨eb,0,none⟩=some (.int .i64 0):=h9.ag.cell 0;have g9:w8.frozen? ⟨eb,0,none⟩=false:=h9.ag.frozen 0;have hne:¬ (ab=eb):=Sat.ne h9;have hne2:¬ (eb=ab):=fun h=>hne h.symm;have h10:=((h9.setCell 0 (.slice aa al ac)).ag.setCell 0 (.int .i64 0))
     have ca:=h10.ag.cell 0;have ce:=h10.cell 0;have D9:=(((D14).drew.trans d8).setCell ⟨ab,0,none⟩ (.slice aa al ac)).setCell ⟨eb,0,none⟩ (.int .i64 0);have hF:=h10.right.right.left;have HD:=ae D9;have HF:=ae hF;have Ca:=ae ca;have Ce:=ae ce
     go_wp2_with fail
     exact vD rfl rfl Ca.out Ce.out (HQ.out _ _ (by rw [HE.out];exact ⟨S5,_,hS1.trans (hE3.trans hS5),HD.out,rfl,HF.out.to (by unfold fB;ac_rfl)⟩))
end
theorem dq:(Tryz.prog.info? 202).map (·.size)=some 0:=by kernel_rfl
section
variable {σ α:Type}
theorem GN (w:World) (pa:Nat) (pe:Addr) :
    CallsD Tryz.prog 193 #[.pointer (some ⟨pa,0,none⟩),.pointer (some pe)] .returning w fun e u w'=>e = .returned (.tuple #[])∧u = .returning∧w'=w.alloc (.cells #[] 202 (0,0)):=by
  refine callsD_of_wpS Tryz.func193 rfl fun c₀ cs hu=>?_;apply wpS_seq;refine wpS_of_wp ?_
  simp only [Tryz.ntmps193,List.size_toArray,List.length_cons,List.length_nil,Nat.reduceAdd,Nat.reduceSub,Array.replicate_succ,
     Array.replicate_zero,List.push_toArray,List.append_toArray,List.nil_append,List.cons_append]
  go_wp2
  apply wpS_seq;apply wpS_region;simp [wpOpsS,go_sem,recoverD,hu,Exit.thenS];refine wpS_of_wp ?_
  go_wp2
  cases c₀
  simp_all [bodyPostS,results,Tryz.results193]
theorem Gb (w:World) (pa eb:Nat) (c y:Int) (older:List PanicEntry) (he:w.cell? ⟨eb,0,none⟩=some (.int .i64 y)) (fe:w.frozen? ⟨eb,0,none⟩=false) (hlt:eb<w.heap.size) :
    CallsD Tryz.prog 193 #[.pointer (some ⟨pa,0,none⟩),.pointer (some ⟨eb,0,none⟩)] (.panicking ({ v:=.iface 219 (.int .i64 c),recovered:=false } :: older)) w fun e u w'=>
      e = .returned (.tuple #[])∧u = .panicking ({ v:=.iface 219 (.int .i64 c),recovered:=true } :: older)∧w'=(w.setCell ⟨eb,0,none⟩ (.int .i64 c)).alloc (.cells #[] 202 (0,0)):=by
  refine callsD_of_wpS Tryz.func193 rfl fun c₀ cs hu=>?_;apply wpS_seq;refine wpS_of_wp ?_
  simp only [Tryz.ntmps193,List.size_toArray,List.length_cons,List.length_nil,Nat.reduceAdd,Nat.reduceSub,Array.replicate_succ,
     Array.replicate_zero,List.push_toArray,List.append_toArray,List.nil_append,List.cons_append]
  go_wp2
  apply wpS_seq;apply wpS_region;simp [wpOpsS,go_sem,recoverD,hu,Exit.thenS];refine wpS_of_wp ?_;have hta:=iT (.int .i64 c)
  go_wp2_with (first|(refine wpList_load_mid (by exact rfl) 202 (.tmp 2) (by exact rfl) w.heap.size 0 (by exact rfl) [] _ (by exact fun j v h=>by cases h) Tryz.underlying202 rfl (by exact dq) ?_)|(refine wpList_store_mid (by exact rfl) 202 (.tmp 0) (.tmp 12) (by exact rfl) pa 0 #[] (by exact rfl) (by exact rfl) (by exact fun j h=>absurd h (Nat.not_lt_zero _)) (by exact dq) (by exact rfl) ?_))
  exact ⟨rfl,_,rfl,_,results_none rfl _ _ _,rfl,rfl,rfl⟩
theorem ot {w:World} {tmps:Array Value} {a b:Nat} {e:Value} {F:ah} (h4:tmps[4]?=some (ax a)) (h5:tmps[5]?=some (ax b)) (ha:Sat w (pt a (.cells #[] 202 (0,0))*F)) (hb:w.cell? ⟨b,0,none⟩=some e) :
  (results Tryz.f139 tmps).run Tryz.prog w = .ok (.tuple #[.agg #[],e]) w:=by
 have hl:=run_loadVar_row (P:=Tryz.prog) w a 202 202 #[] (0,0) _ ha.heap Tryz.underlying202 rfl dq;simp [results,Tryz.results139,h4,h5,go_sem,asAddr,hl,hb]
theorem vB {w:World} {tmps:Array Value} {ab eb:Nat} {z c:Int} {P:ah} {R:Ending→World→Prop} (h4:tmps[4]?=some (ax ab)) (h5:tmps[5]?=some (ax eb))
  (h:Sat w (pt ab (.cells #[] 202 (0,0))*(pt eb (.cells #[.int .i64 z] 28 (0,0))*P))) (hR:∀ w',Sat w' P→ai w w'→R (.returned (.tuple #[.agg #[],.int .i64 c])) w') :
  bodyPostD Tryz.prog Tryz.f139 R (Exit.panic (FR c)) { tmps:=tmps,defers:=[{ target:=.fn (.func 193) #[.pointer (some ⟨ab,0,none⟩),.pointer (some ⟨eb,0,none⟩)],args:=#[] }] } w:=by
 refine leaves_cons (f:=193) (args:=#[.pointer (some ⟨ab,0,none⟩),.pointer (some ⟨eb,0,none⟩)]) (by simp) (by simp [go_sem]) ?_;refine (Gb w ab eb c z [] (h.ag.cell 0) (h.ag.frozen 0) h.ag.lt).mono ?_;rintro e u w7 ⟨rfl,rfl,rfl⟩;have h11:=((h.ag.setCell 0 (.int .i64 c)).alloc (.cells #[] 202 (0,0))).right;exact ⟨_,ot h4 h5 h11.ag (h11.cell 0),hR _ h11.right.right (((ai.refl w).setCell _ _).alloc _)⟩
theorem vM {w:World} {tmps:Array Value} {ab eb:Nat} {z:Int} {P:ah} {R:Ending→World→Prop} (h4:tmps[4]?=some (ax ab)) (h5:tmps[5]?=some (ax eb))
  (h:Sat w (pt ab (.cells #[] 202 (0,0))*(pt eb (.cells #[.int .i64 z] 28 (0,0))*P))) (hR:∀ w',Sat w' P→ai w w'→R (.returned (.tuple #[.agg #[],.int .i64 z])) w') :
  bodyPostD Tryz.prog Tryz.f139 R Exit.ret { tmps:=tmps,defers:=[{ target:=.fn (.func 193) #[.pointer (some ⟨ab,0,none⟩),.pointer (some ⟨eb,0,none⟩)],args:=#[] }] } w:=by
 refine leaves_cons (f:=193) (args:=#[.pointer (some ⟨ab,0,none⟩),.pointer (some ⟨eb,0,none⟩)]) (by simp) (by simp [go_sem]) ?_;refine (GN w ab ⟨eb,0,none⟩).mono ?_;rintro e u w7 ⟨rfl,rfl,rfl⟩;have h11:=(h.alloc (.cells #[] 202 (0,0))).right;exact ⟨_,ot h4 h5 h11 (h11.ag.cell 0),hR _ h11.right.right ((ai.refl w).alloc _)⟩
def FW (a:Unit) (v:Value):ah:=fact (v = .agg #[])
theorem Kj (c:Cx σ) (hc:c.Ok) (n:Nat) (hn1:4≤n) (hn2:n≤3840) (jf:FuncId) (caps:Array Value) (G:ah) (m:WM σ Unit)
  (hcf:∀ (args:Array Value) (w:World),(callFunc jf args).run Tryz.prog w = .ok (.enter jf args) w) (hj:DC c n jf caps FW G m)
  (mb:Nat) (M:gW σ) (w:World) (S:Hp) (F:ah) (h:Sat w (cC c S mb M*(aj S*(G*F)))) (Q:Ending→World→Prop)
  (hQ:∀ e w',zv c mb (.agg #[]) FW S (G*F) w (eh m M) e w'→Q e w') :
  Calls Tryz.prog 139 #[gm mb n,.func (.func jf) #[] caps] w Q:=by
 have HQ:=ae hQ;clear hQ;have hmf:=nV Tryz.prog;have hn1':¬ ((n:Int)<4):=by omega
 have hn2':¬ ((n:Int) > 3840):=by omega
 have Hj:=ae hj;unfold gm
 go_enter_defers Tryz.func139,Tryz.ntmps139
 have H3:=((h.alloc (.cells #[.pointer (some ⟨mb,0,none⟩),.int .i64 (n:Int)] 83 (0,0))).alloc (.cells #[] 202 (0,0))).alloc (.cells #[.int .i64 0] 28 (0,0));have D3:=(((ai.refl w).alloc (.cells #[.pointer (some ⟨mb,0,none⟩),.int .i64 (n:Int)] 83 (0,0))).alloc (.cells #[] 202 (0,0))).alloc (.cells #[.int .i64 0] 28 (0,0));simp only [World.size_alloc] at H3
 go_wp2_with fail
 generalize ((w.alloc (.cells #[.pointer (some ⟨mb,0,none⟩),.int .i64 (n:Int)] 83 (0,0))).alloc (.cells #[] 202 (0,0))).alloc (.cells #[.int .i64 0] 28 (0,0))=w3 at H3 D3 ⊢;clear h;generalize w.heap.size+1+1=eb at *;generalize w.heap.size+1=ab at *;generalize w.heap.size=sp at *;have s0:w3.cell? ⟨sp,0,none⟩=some (.pointer (some ⟨mb,0,none⟩)):=H3.aq.cell 0;have s1:w3.cell? ⟨sp,1,none⟩=some (.int .i64 (n:Int)):=H3.aq.cell 1;have h9:Sat w3 (az 176 5 S mb c.rd M.err M.W M.D*(aj S*(c.RI M.s*(pt eb (.cells #[.int .i64 0] 28 (0,0))*(pt ab (.cells #[] 202 (0,0))*(pt sp (.cells #[.pointer (some ⟨mb,0,none⟩),.int .i64 (n:Int)] 83 (0,0))*(G*F))))))):=H3.to (by unfold cC;ac_rfl);have hfk:=pd w3.drew S mb c.rd M.err M.W M.D _ h9.drew ⟨_,_,rfl⟩;have Hfk:=ae hfk;clear hfk
 go_region_held3 (fun w'=>w'.cell? ⟨sp,0,none⟩=some (.pointer (some ⟨mb,0,none⟩))∧w'.cell? ⟨sp,1,none⟩=some (.int .i64 (n:Int)))
  (first|exact ⟨s0,s1⟩|exact k01|go_keep)
  (first|(go_at_call 135;refine (Hfk.out).mono ?_;rintro e w4 ⟨S1,f,hS1,rfl,h4,d4⟩;have k01:w4.cell? ⟨sp,0,none⟩=some (.pointer (some ⟨mb,0,none⟩))∧w4.cell? ⟨sp,1,none⟩=some (.int .i64 (n:Int)):=⟨h4.bM.cell 0,h4.bM.cell 1⟩))
 have D5:=(D3.drew.trans d4).alloc (.cells #[.pointer (some ⟨f,0,none⟩),.int .i64 (n:Int),.slice none 0 0,.bool false] 149 (0,0));have H5:=h4.alloc (.cells #[.pointer (some ⟨f,0,none⟩),.int .i64 (n:Int),.slice none 0 0,.bool false] 149 (0,0))
 have H5':Sat (w4.alloc (.cells #[.pointer (some ⟨f,0,none⟩),.int .i64 (n:Int),.slice none 0 0,.bool false] 149 (0,0))) (aL (⟨c,n,w4.heap.size,f⟩:Wk σ) S1 ⟨M,none,false⟩*(aj S1*(G*(az 176 5 S1 mb c.rd M.err M.W M.D*(pt eb (.cells #[.int .i64 0] 28 (0,0))*(pt ab (.cells #[] 202 (0,0))*(pt sp (.cells #[.pointer (some ⟨mb,0,none⟩),.int .i64 (n:Int)] 83 (0,0))*F))))))):=
  rS (H5.to (by ac_rfl))
 have hjb:=Hj.out ⟨c,n,w4.heap.size,f⟩ _ S1 ⟨M,none,false⟩ _ rfl rfl H5';rename_i hHeld;clear s0 s1 h9 Hfk k01 hHeld D3 d4 h4 H5 H5' Hj hj H3;generalize w4.alloc (.cells #[.pointer (some ⟨f,0,none⟩),.int .i64 (n:Int),.slice none 0 0,.bool false] 149 (0,0))=w5 at *;generalize w4.heap.size=k at *;obtain ⟨⟨r,st1⟩,hp⟩:∃ p,m ⟨M,none,false⟩=p:=⟨_,rfl⟩
 rw [hp] at hjb
 cases r with
 | bad cN=>
  have HE:=ae (kF hp);clear hp
  go_wp2_with fail
  (with_reducible refine hjb.mono ?_)
  rintro e w6 ⟨S2,hS2,d6,rfl,h6⟩;have h7:=rT h6
  have h8:Sat w6 (c.RI st1.b.s*(az 176 5 S1 mb c.rd M.err M.W M.D*(pt eb (.cells #[.int .i64 0] 28 (0,0))*(pt ab (.cells #[] 202 (0,0))*(aj S2*(G*F)))))):=
   (h7.to (by ac_rfl:_=pt sp (.cells #[.pointer (some ⟨mb,0,none⟩),.int .i64 (n:Int)] 83 (0,0))*(c.RI st1.b.s*(az 176 5 S1 mb c.rd M.err M.W M.D*(pt eb (.cells #[.int .i64 0] 28 (0,0))*(pt ab (.cells #[] 202 (0,0))*(aj S2*(G*F)))))))).right
  have h9:=lK hS2 h8;have h10:Sat w6 (pt ab (.cells #[] 202 (0,0))*(pt eb (.cells #[.int .i64 0] 28 (0,0))*(cC c S2 mb { M with s:=st1.b.s }*(aj S2*(G*F))))):=h9.to (by ac_rfl)
  go_wp2_with fail
  exact vB rfl rfl h10 fun w' h11 d11=>HQ.out _ _ (by rw [HE.out];exact ⟨S2,hS1.trans hS2,(D5.trans d6).trans d11,rfl,h11⟩)
 | ok a=>
  go_wp2_with fail
  (with_reducible refine hjb.mono ?_)
  rintro e w6 ⟨S2,v6,hS2,d6,rfl,h6⟩;obtain ⟨rfl,h7⟩:=Sat.ak.1 h6;obtain ⟨bv,h8⟩:=Sat.eQ h7;clear hjb h6 h7;have h9:Sat w6 (pt ab (.cells #[] 202 (0,0))*(pt eb (.cells #[.int .i64 0] 28 (0,0))*(pt sp (.cells #[.pointer (some ⟨mb,0,none⟩),.int .i64 (n:Int)] 83 (0,0))*(pt k (.cells #[.pointer (some ⟨f,0,none⟩),.int .i64 (n:Int),bv,.bool st1.dt] 149 (0,0))*(cC c S2 f st1.b*(bS st1.bits bv*(aj S2*(az 176 5 S1 mb c.rd M.err M.W M.D*(G*F))))))))):=h8.to (by unfold bh Wk.cells;ac_rfl);have h10:=h9;have D10:=D5.trans d6;have k3:w6.cell? ⟨k,3,none⟩=some (.bool st1.dt):=h10.aC.cell 3;clear h8 h9 D5 d6
  cases hdt:st1.dt with
  | false=>
   have HE:=ae (mz hp hdt);rw [hdt] at k3 h10;clear hp hdt
   go_wp2_with (refine wpList_store_mid (by exact rfl) 202 (.tmp 4) (.tmp 31) (by exact rfl) ab 0 #[] (by exact rfl) (by exact rfl) (by exact fun j h=>absurd h (Nat.not_lt_zero _)) (by exact dq) (by exact rfl) ?_)
   have e67:∃ w7,w7=w6:=⟨_,rfl⟩
   obtain ⟨w7,rfl⟩:=e67;have hj9:Sat w7 (az 176 5 S1 mb c.rd M.err M.W M.D*(az 176 5 S2 f c.rd st1.b.err st1.b.W st1.b.D*(aj S2*(c.RI st1.b.s*(pt ab (.cells #[] 202 (0,0))*(pt eb (.cells #[.int .i64 0] 28 (0,0))*(pt sp (.cells #[.pointer (some ⟨mb,0,none⟩),.int .i64 (n:Int)] 83 (0,0))*(pt k (.cells #[.pointer (some ⟨f,0,none⟩),.int .i64 (n:Int),bv,.bool false] 149 (0,0))*(bS st1.bits bv*(G*F)))))))))):=h10.to (by unfold cC;ac_rfl);have hj10:=hj9.fh (dD hS2);have s0:w7.cell? ⟨sp,0,none⟩=some (.pointer (some ⟨mb,0,none⟩)):=hj10.bM.cell 0;have k0:w7.cell? ⟨k,0,none⟩=some (.pointer (some ⟨f,0,none⟩)):=hj10.dI.cell 0;have hjn:=ae (iI w7.drew S2 mb f c.rd c.rd st1.b.err M.err st1.b.W st1.b.D M.W M.D _ hj10.drew ⟨_,_,rfl⟩);clear hj9 hj10 h10
   go_region_held3 (fun w'=>w'.cell? ⟨sp,0,none⟩=some (.pointer (some ⟨mb,0,none⟩))∧w'.cell? ⟨k,0,none⟩=some (.pointer (some ⟨f,0,none⟩)))
    (first|exact ⟨s0,k0⟩|exact k01|go_keep)
    (first|(go_at_call 138;refine (hjn.out).mono ?_;rintro e w8 ⟨S3,hS3,rfl,h8,d8⟩;have k01:w8.cell? ⟨sp,0,none⟩=some (.pointer (some ⟨mb,0,none⟩))∧w8.cell? ⟨k,0,none⟩=some (.pointer (some ⟨f,0,none⟩)):=⟨h8.bM.cell 0,h8.dI.cell 0⟩))
   all_goals
    rename_i hHeld;have h9:Sat w8 (pt ab (.cells #[] 202 (0,0))*(pt eb (.cells #[.int .i64 0] 28 (0,0))*((cC c S3 mb st1.b*(aj S3*(G*F)))*(pt sp (.cells #[.pointer (some ⟨mb,0,none⟩),.int .i64 (n:Int)] 83 (0,0))*(pt k (.cells #[.pointer (some ⟨f,0,none⟩),.int .i64 (n:Int),bv,.bool false] 149 (0,0))*(az 176 5 S3 f c.rd st1.b.err st1.b.W st1.b.D*bS st1.bits bv)))))):=h8.to (by unfold cC;ac_rfl);have e9:w8.cell? ⟨eb,0,none⟩=some (.int .i64 0):=h9.ag.cell 0;have g9:w8.frozen? ⟨eb,0,none⟩=false:=h9.ag.frozen 0;have h10:=((h9.ag.setCell 0 (.int .i64 0)).ag)
    have D9:=((D10).drew.trans d8).setCell ⟨eb,0,none⟩ (.int .i64 0);have HD:=ae D9;have H10:=ae h10;clear hjn s0 k0 k01 h8 h9 h10 D9 hHeld d8
    go_wp2_with (first|(refine wpList_load_mid (by exact rfl) 202 (.tmp 4) (by exact rfl) ab 0 (by exact rfl) [] _ (by exact fun j v h=>by cases h) Tryz.underlying202 rfl (by exact dq) ?_)|(refine wpList_store_mid (by exact rfl) 202 (.tmp 4) (.tmp 49) (by exact rfl) ab 0 #[] (by exact rfl) (by exact rfl) (by exact fun j h=>absurd h (Nat.not_lt_zero _)) (by exact dq) (by exact rfl) ?_))
    exact vM rfl rfl H10.out fun w' h11 d11=>HQ.out _ _ (by rw [HE.out];exact ⟨S3,_,hS1.trans (hS2.trans hS3),HD.out.trans d11,rfl,Sat.ak.2 ⟨rfl,(h11.left).to (by ac_rfl)⟩⟩)
  | true=>
   have HE1:=fun st'=>oP (st':=st') hp hdt;have HE2:=fun st' c=>rR (st':=st') (c:=c) hp hdt;have HE1:=ae HE1;have HE2:=ae HE2;rw [hdt] at k3 h10;have k2:w6.cell? ⟨k,2,none⟩=some bv:=h10.aC.cell 2;have hrb:Rd w6 bv (st1.bits.getD []):=xF h10.dj
   have h11:Sat w6 (bh (⟨c,n,k,f⟩:Wk σ) bv S2 st1*(aj S2*(pt ab (.cells #[] 202 (0,0))*(pt eb (.cells #[.int .i64 0] 28 (0,0))*(pt sp (.cells #[.pointer (some ⟨mb,0,none⟩),.int .i64 (n:Int)] 83 (0,0))*(bS st1.bits bv*(az 176 5 S1 mb c.rd M.err M.W M.D*(G*F)))))))):=
    h10.to (by unfold bh Wk.cells;rw [hdt];ac_rfl)
   have hwr:=js (⟨c,n,k,f⟩:Wk σ) _ bv S2 st1 0 bv (st1.bits.getD []) _ h11 hrb
   obtain ⟨va,vl,vc,rfl⟩:∃ a l c,bv = .slice a l c:=by
    obtain ⟨a,c,e⟩:=hrb.shape;exact ⟨_,_,_,e⟩
   have hdt2:∀ st' r,bN 0 (st1.bits.getD []) st1=(r,st')→st'.dt=true:=fun st' r h=>by
    unfold bN at h
    split at h
    ·simp only [Prod.mk.injEq] at h;rw [← h.2];exact hdt
    ·simp only [Prod.mk.injEq] at h;rw [← h.2];exact hdt
   obtain ⟨⟨r2,st2⟩,hp2⟩:∃ p,bN 0 (st1.bits.getD []) st1=p:=⟨_,rfl⟩
   rw [hp2] at hwr;have hdt3:=hdt2 _ _ hp2;have Hdt3:=ae hdt3;clear hp hdt h11 hrb hdt2 hdt3
   cases r2 with
   | bad cN=>
    have HE:=ae (HE2.out _ _ hp2);clear hp2 HE1 HE2
    go_wp2_with (refine wpList_store_mid (by exact rfl) 202 (.tmp 4) (.tmp 31) (by exact rfl) ab 0 #[] (by exact rfl) (by exact rfl) (by exact fun j h=>absurd h (Nat.not_lt_zero _)) (by exact dq) (by exact rfl) ?_)
    (with_reducible refine hwr.mono ?_)
    rintro e w8 ⟨S3,hS3,d8,rfl,h12⟩
    have h13:Sat w8 (c.RI st2.b.s*(az 176 5 S1 mb c.rd M.err M.W M.D*(pt ab (.cells #[] 202 (0,0))*(pt eb (.cells #[.int .i64 0] 28 (0,0))*(aj S3*(G*F)))))):=
     (h12.to (by unfold bh cC;ac_rfl:_=(pt k (.cells ((⟨c,n,k,f⟩:Wk σ).cells (.slice va vl vc) st2.dt) 149 (0,0))*(az 176 5 S3 f c.rd st2.b.err st2.b.W st2.b.D*(pt sp (.cells #[.pointer (some ⟨mb,0,none⟩),.int .i64 (n:Int)] 83 (0,0))*bS st1.bits (.slice va vl vc))))*(c.RI st2.b.s*(az 176 5 S1 mb c.rd M.err M.W M.D*(pt ab (.cells #[] 202 (0,0))*(pt eb (.cells #[.int .i64 0] 28 (0,0))*(aj S3*(G*F)))))))).right
    have h14:=lK (hS2.trans hS3) h13;have h15:Sat w8 (pt ab (.cells #[] 202 (0,0))*(pt eb (.cells #[.int .i64 0] 28 (0,0))*(cC c S3 mb { M with s:=st2.b.s }*(aj S3*(G*F))))):=h14.to (by ac_rfl)
    go_wp2_with fail
    exact vB rfl rfl h15 fun w' h11 d11=>HQ.out _ _ (by rw [HE.out];exact ⟨S3,hS1.trans (hS2.trans hS3),(D10.trans d8).trans d11,rfl,h11⟩)
   | ok u=>
    have HE:=ae (HE1.out _ hp2);clear hp2 HE1 HE2
    go_wp2_with (refine wpList_store_mid (by exact rfl) 202 (.tmp 4) (.tmp 31) (by exact rfl) ab 0 #[] (by exact rfl) (by exact rfl) (by exact fun j h=>absurd h (Nat.not_lt_zero _)) (by exact dq) (by exact rfl) ?_)
    (with_reducible refine hwr.mono ?_)
    rintro e w7 ⟨S3,v8,hS3,d8,rfl,h12⟩;obtain ⟨rfl,h13⟩:=Sat.ak.1 h12;have h14:Sat w7 (pt ab (.cells #[] 202 (0,0))*(pt eb (.cells #[.int .i64 0] 28 (0,0))*(pt sp (.cells #[.pointer (some ⟨mb,0,none⟩),.int .i64 (n:Int)] 83 (0,0))*(pt k (.cells #[.pointer (some ⟨f,0,none⟩),.int .i64 (n:Int),(.slice va vl vc),.bool true] 149 (0,0))*(cC c S3 f st2.b*(bS st1.bits (.slice va vl vc)*(aj S3*(az 176 5 S1 mb c.rd M.err M.W M.D*(G*F))))))))):=h13.to (by unfold bh Wk.cells;rw [Hdt3.out];ac_rfl);have D14:=D10.trans d8;have hE3:=hS2.trans hS3;clear hwr h12 h13 D10 d8 h10 k2 k3
    go_wp2_with fail
    have hj9:Sat w7 (az 176 5 S1 mb c.rd M.err M.W M.D*(az 176 5 S3 f c.rd st2.b.err st2.b.W st2.b.D*(aj S3*(c.RI st2.b.s*(pt ab (.cells #[] 202 (0,0))*(pt eb (.cells #[.int .i64 0] 28 (0,0))*(pt sp (.cells #[.pointer (some ⟨mb,0,none⟩),.int .i64 (n:Int)] 83 (0,0))*(pt k (.cells #[.pointer (some ⟨f,0,none⟩),.int .i64 (n:Int),(.slice va vl vc),.bool true] 149 (0,0))*(bS st1.bits (.slice va vl vc)*(G*F)))))))))):=h14.to (by unfold cC;ac_rfl);have hj10:=hj9.fh (dD hE3);have s0:w7.cell? ⟨sp,0,none⟩=some (.pointer (some ⟨mb,0,none⟩)):=hj10.bM.cell 0;have k0:w7.cell? ⟨k,0,none⟩=some (.pointer (some ⟨f,0,none⟩)):=hj10.dI.cell 0;have hjn:=ae (iI w7.drew S3 mb f c.rd c.rd st2.b.err M.err st2.b.W st2.b.D M.W M.D _ hj10.drew ⟨_,_,rfl⟩);clear hj9 hj10 h14
    go_region_held3 (fun w'=>w'.cell? ⟨sp,0,none⟩=some (.pointer (some ⟨mb,0,none⟩))∧w'.cell? ⟨k,0,none⟩=some (.pointer (some ⟨f,0,none⟩)))
     (first|exact ⟨s0,k0⟩|exact k01|go_keep)
     (first|(go_at_call 138;refine (hjn.out).mono ?_;rintro e w8 ⟨S5,hS5,rfl,h8,d8⟩;have k01:w8.cell? ⟨sp,0,none⟩=some (.pointer (some ⟨mb,0,none⟩))∧w8.cell? ⟨k,0,none⟩=some (.pointer (some ⟨f,0,none⟩)):=⟨h8.bM.cell 0,h8.dI.cell 0⟩))
    all_goals
     rename_i hHeld;have h9:Sat w8 (pt ab (.cells #[] 202 (0,0))*(pt eb (.cells #[.int .i64 0] 28 (0,0))*((cC c S5 mb st2.b*(aj S5*(G*F)))*(pt sp (.cells #[.pointer (some ⟨mb,0,none⟩),.int .i64 (n:Int)] 83 (0,0))*(pt k (.cells #[.pointer (some ⟨f,0,none⟩),.int .i64 (n:Int),(.slice va vl vc),.bool true] 149 (0,0))*(az 176 5 S5 f c.rd st2.b.err st2.b.W st2.b.D*bS st1.bits (.slice va vl vc))))))):=h8.to (by unfold cC;ac_rfl);have e9:w8.cell? ⟨eb,0,none⟩=some (.int .i64 0):=h9.ag.cell 0;have g9:w8.frozen? ⟨eb,0,none⟩=false:=h9.ag.frozen 0;have h10:=((h9.ag.setCell 0 (.int .i64 0)).ag)
     have D9:=((D14).drew.trans d8).setCell ⟨eb,0,none⟩ (.int .i64 0);have HD:=ae D9;have H10:=ae h10;clear hjn s0 k0 k01 h8 h9 h10 D9 hHeld d8
     go_wp2_with (first|(refine wpList_load_mid (by exact rfl) 202 (.tmp 4) (by exact rfl) ab 0 (by exact rfl) [] _ (by exact fun j v h=>by cases h) Tryz.underlying202 rfl (by exact dq) ?_)|(refine wpList_store_mid (by exact rfl) 202 (.tmp 4) (.tmp 49) (by exact rfl) ab 0 #[] (by exact rfl) (by exact rfl) (by exact fun j h=>absurd h (Nat.not_lt_zero _)) (by exact dq) (by exact rfl) ?_))
     exact vM rfl rfl H10.out fun w' h11 d11=>HQ.out _ _ (by rw [HE.out];exact ⟨S5,_,hS1.trans (hE3.trans hS5),HD.out.trans d11,rfl,Sat.ak.2 ⟨rfl,(h11.left).to (by ac_rfl)⟩⟩)
end
section
variable {σ α:Type}
theorem IV (w:World) (pa:Nat) (pe:Addr) :
    CallsD Tryz.prog 208 #[.pointer (some ⟨pa,0,none⟩),.pointer (some pe)] .returning w fun e u w'=>e = .returned (.tuple #[])∧u = .returning∧w'=w.alloc (.cells #[.int .i64 0,.int .i64 0,.int .i64 0,.int .i64 0,.int .i64 0,.int .i64 0,.int .i64 0,.int .i64 0,.int .i64 0,.int .i64 0,.int .i64 0,.int .i64 0,.int .i64 0,.int .i64 0,.int .i64 0,.int .i64 0,.int .i64 0,.int .i64 0,.int .i64 0,.int .i64 0] 73 (0,0)):=by
  refine callsD_of_wpS Tryz.func208 rfl fun c₀ cs hu=>?_;apply wpS_seq;refine wpS_of_wp ?_
  simp only [Tryz.ntmps208,List.size_toArray,List.length_cons,List.length_nil,Nat.reduceAdd,Nat.reduceSub,Array.replicate_succ,
     Array.replicate_zero,List.push_toArray,List.append_toArray,List.nil_append,List.cons_append]
  go_wp2
  simp only [Exit.thenS];apply wpS_seq;apply wpS_region;simp [wpOpsS,go_sem,recoverD,hu,Exit.thenS];refine wpS_of_wp ?_
  go_wp2
  cases c₀
  simp_all [bodyPostS,results,Tryz.results208]
  try rfl
theorem Gu (w:World) (ab eb:Nat) (Y:Array Value) (hY:Y.size=20) (c y:Int) (older:List PanicEntry) (P:ah) (h:Sat w (pt ab (.cells Y 73 (0,0))*(pt eb (.cells #[.int .i64 y] 28 (0,0))*P))) :
    CallsD Tryz.prog 208 #[.pointer (some ⟨ab,0,none⟩),.pointer (some ⟨eb,0,none⟩)] (.panicking ({ v:=.iface 219 (.int .i64 c),recovered:=false } :: older)) w fun e u w'=>
      e = .returned (.tuple #[])∧u = .panicking ({ v:=.iface 219 (.int .i64 c),recovered:=true } :: older)∧Sat w' (pt ab (.cells #[.int .i64 0,.int .i64 0,.int .i64 0,.int .i64 0,.int .i64 0,.int .i64 0,.int .i64 0,.int .i64 0,.int .i64 0,.int .i64 0,.int .i64 0,.int .i64 0,.int .i64 0,.int .i64 0,.int .i64 0,.int .i64 0,.int .i64 0,.int .i64 0,.int .i64 0,.int .i64 0] 73 (0,0))*(pt eb (.cells #[.int .i64 c] 28 (0,0))*P))∧ai w w':=by
  refine callsD_of_wpS Tryz.func208 rfl fun c₀ cs hu=>?_;apply wpS_seq;refine wpS_of_wp ?_
  simp only [Tryz.ntmps208,List.size_toArray,List.length_cons,List.length_nil,Nat.reduceAdd,Nat.reduceSub,Array.replicate_succ,
     Array.replicate_zero,List.push_toArray,List.append_toArray,List.nil_append,List.cons_append]
  go_wp2
  simp only [Exit.thenS];apply wpS_seq;apply wpS_region;simp [wpOpsS,go_sem,recoverD,hu,Exit.thenS];refine wpS_of_wp ?_;have hta:=iT (.int .i64 c);have hA:=h.alloc (.cells #[.int .i64 0,.int .i64 0,.int .i64 0,.int .i64 0,.int .i64 0,.int .i64 0,.int .i64 0,.int .i64 0,.int .i64 0,.int .i64 0,.int .i64 0,.int .i64 0,.int .i64 0,.int .i64 0,.int .i64 0,.int .i64 0,.int .i64 0,.int .i64 0,.int .i64 0,.int .i64 0] 73 (0,0));have D1:=(ai.refl w).alloc (.cells #[.int .i64 0,.int .i64 0,.int .i64 0,.int .i64 0,.int .i64 0,.int .i64 0,.int .i64 0,.int .i64 0,.int .i64 0,.int .i64 0,.int .i64 0,.int .i64 0,.int .i64 0,.int .i64 0,.int .i64 0,.int .i64 0,.int .i64 0,.int .i64 0,.int .i64 0,.int .i64 0] 73 (0,0));have hx:=hA.heap;have hx2:=hA.ag.heap;have hB:=hA.ag.setRow (cs':=#[.int .i64 0,.int .i64 0,.int .i64 0,.int .i64 0,.int .i64 0,.int .i64 0,.int .i64 0,.int .i64 0,.int .i64 0,.int .i64 0,.int .i64 0,.int .i64 0,.int .i64 0,.int .i64 0,.int .i64 0,.int .i64 0,.int .i64 0,.int .i64 0,.int .i64 0,.int .i64 0]);have D2:=ae (((D1.setRow ab #[.int .i64 0,.int .i64 0,.int .i64 0,.int .i64 0,.int .i64 0,.int .i64 0,.int .i64 0,.int .i64 0,.int .i64 0,.int .i64 0,.int .i64 0,.int .i64 0,.int .i64 0,.int .i64 0,.int .i64 0,.int .i64 0,.int .i64 0,.int .i64 0,.int .i64 0,.int .i64 0])).setCell ⟨eb,0,none⟩ (.int .i64 c));have hC:=(hB.aq.setCell 0 (.int .i64 c))
  generalize w.alloc (.cells #[.int .i64 0,.int .i64 0,.int .i64 0,.int .i64 0,.int .i64 0,.int .i64 0,.int .i64 0,.int .i64 0,.int .i64 0,.int .i64 0,.int .i64 0,.int .i64 0,.int .i64 0,.int .i64 0,.int .i64 0,.int .i64 0,.int .i64 0,.int .i64 0,.int .i64 0,.int .i64 0] 73 (0,0))=w1 at *;generalize w.heap.size=nb at *;have e1:=hB.aq.cell 0;have f1:=hB.aq.frozen 0;have Hx:=ae hx;have Hx2:=ae hx2;have HC:=ae hC;clear h hA hB hC D1 hx hx2
  go_wp2_with (first|(refine wpList_load_row (by exact rfl) 73 (.tmp 2) (by exact rfl) nb (by exact rfl) 73 #[.int .i64 0,.int .i64 0,.int .i64 0,.int .i64 0,.int .i64 0,.int .i64 0,.int .i64 0,.int .i64 0,.int .i64 0,.int .i64 0,.int .i64 0,.int .i64 0,.int .i64 0,.int .i64 0,.int .i64 0,.int .i64 0,.int .i64 0,.int .i64 0,.int .i64 0,.int .i64 0] (0,0) _ (by with_reducible exact Hx.out) Tryz.underlying73 rfl aY ?_)|(refine wpList_store_row (by exact rfl) 73 (.tmp 0) (.tmp 12) (by exact rfl) ab #[.int .i64 0,.int .i64 0,.int .i64 0,.int .i64 0,.int .i64 0,.int .i64 0,.int .i64 0,.int .i64 0,.int .i64 0,.int .i64 0,.int .i64 0,.int .i64 0,.int .i64 0,.int .i64 0,.int .i64 0,.int .i64 0,.int .i64 0,.int .i64 0,.int .i64 0,.int .i64 0] (by exact rfl) (by exact rfl) 73 Y (by with_reducible exact Hx2.out) aY hY C5 ?_))
  exact ⟨rfl,_,rfl,_,results_none rfl _ _ _,rfl,rfl,(HC.out.to (by ac_rfl:_=pt nb (.cells #[.int .i64 0,.int .i64 0,.int .i64 0,.int .i64 0,.int .i64 0,.int .i64 0,.int .i64 0,.int .i64 0,.int .i64 0,.int .i64 0,.int .i64 0,.int .i64 0,.int .i64 0,.int .i64 0,.int .i64 0,.int .i64 0,.int .i64 0,.int .i64 0,.int .i64 0,.int .i64 0] 73 (0,0))*(pt ab (.cells #[.int .i64 0,.int .i64 0,.int .i64 0,.int .i64 0,.int .i64 0,.int .i64 0,.int .i64 0,.int .i64 0,.int .i64 0,.int .i64 0,.int .i64 0,.int .i64 0,.int .i64 0,.int .i64 0,.int .i64 0,.int .i64 0,.int .i64 0,.int .i64 0,.int .i64 0,.int .i64 0] 73 (0,0))*(pt eb (.cells #[.int .i64 c] 28 (0,0))*P)))).right,D2.out⟩
theorem pL {w:World} {tmps:Array Value} {a b:Nat} {e:Value} {X:Array Value} {F:ah} (h4:tmps[4]?=some (ax a)) (h5:tmps[5]?=some (ax b)) (ha:Sat w (pt a (.cells X 73 (0,0))*F)) (hX:X.size=20) (hb:w.cell? ⟨b,0,none⟩=some e) :
  (results Tryz.f151 tmps).run Tryz.prog w = .ok (.tuple #[.agg X,e]) w:=by
 have hl:=run_loadVar_row (P:=Tryz.prog) w a 73 73 X (0,0) _ ha.heap Tryz.underlying73 rfl (by rw [hX];exact aY);have hp:tmps.getD 4 undef = .pointer (some ⟨a,0,none⟩):=by simp [h4]
 have hp5:tmps.getD 5 undef = .pointer (some ⟨b,0,none⟩):=by simp [h5]
 have hl5:(loadVar 28 ⟨b,0,none⟩).run Tryz.prog w = .ok e w:=by simp [go_sem,hb]
 simp [results,Tryz.results151,h4,h5,asAddr,hl,hl5]
theorem vg {w:World} {tmps:Array Value} {ab eb:Nat} {Y:Array Value} {z c:Int} {P:ah} {R:Ending→World→Prop} (h4:tmps[4]?=some (ax ab)) (h5:tmps[5]?=some (ax eb))
  (h:Sat w (pt ab (.cells Y 73 (0,0))*(pt eb (.cells #[.int .i64 z] 28 (0,0))*P))) (hY:Y.size=20) (hR:∀ w',Sat w' P→ai w w'→R (.returned (.tuple #[.agg #[.int .i64 0,.int .i64 0,.int .i64 0,.int .i64 0,.int .i64 0,.int .i64 0,.int .i64 0,.int .i64 0,.int .i64 0,.int .i64 0,.int .i64 0,.int .i64 0,.int .i64 0,.int .i64 0,.int .i64 0,.int .i64 0,.int .i64 0,.int .i64 0,.int .i64 0,.int .i64 0],.int .i64 c])) w') :
  bodyPostD Tryz.prog Tryz.f151 R (Exit.panic (FR c)) { tmps:=tmps,defers:=[{ target:=.fn (.func 208) #[.pointer (some ⟨ab,0,none⟩),.pointer (some ⟨eb,0,none⟩)],args:=#[] }] } w:=by
 refine leaves_cons (f:=208) (args:=#[.pointer (some ⟨ab,0,none⟩),.pointer (some ⟨eb,0,none⟩)]) (by simp) (by simp [go_sem]) ?_;refine (Gu w ab eb Y hY c z [] P h).mono ?_;rintro e u w7 ⟨rfl,rfl,h11,d11⟩;exact ⟨_,pL h4 h5 h11 rfl (h11.ag.cell 0),hR _ h11.right.right d11⟩
theorem vf {w:World} {tmps:Array Value} {ab eb:Nat} {X:Array Value} {z:Int} {P:ah} {R:Ending→World→Prop} (h4:tmps[4]?=some (ax ab)) (h5:tmps[5]?=some (ax eb))
  (h:Sat w (pt ab (.cells X 73 (0,0))*(pt eb (.cells #[.int .i64 z] 28 (0,0))*P))) (hX:X.size=20) (hR:∀ w',Sat w' P→ai w w'→R (.returned (.tuple #[.agg X,.int .i64 z])) w') :
  bodyPostD Tryz.prog Tryz.f151 R Exit.ret { tmps:=tmps,defers:=[{ target:=.fn (.func 208) #[.pointer (some ⟨ab,0,none⟩),.pointer (some ⟨eb,0,none⟩)],args:=#[] }] } w:=by
 refine leaves_cons (f:=208) (args:=#[.pointer (some ⟨ab,0,none⟩),.pointer (some ⟨eb,0,none⟩)]) (by simp) (by simp [go_sem]) ?_;refine (IV w ab ⟨eb,0,none⟩).mono ?_;rintro e u w7 ⟨rfl,rfl,rfl⟩;have h11:=(h.alloc (.cells #[.int .i64 0,.int .i64 0,.int .i64 0,.int .i64 0,.int .i64 0,.int .i64 0,.int .i64 0,.int .i64 0,.int .i64 0,.int .i64 0,.int .i64 0,.int .i64 0,.int .i64 0,.int .i64 0,.int .i64 0,.int .i64 0,.int .i64 0,.int .i64 0,.int .i64 0,.int .i64 0] 73 (0,0))).right;exact ⟨_,pL h4 h5 h11 hX (h11.ag.cell 0),hR _ h11.right.right ((ai.refl w).alloc _)⟩
def zk (a:Nd) (v:Value):ah:=fact (v=a.v∧a.dr.length=16)
theorem G9 (c:Cx σ) (hc:c.Ok) (n:Nat) (hn1:4≤n) (hn2:n≤3840) (jf:FuncId) (caps:Array Value) (G:ah) (m:WM σ Nd)
  (hcf:∀ (args:Array Value) (w:World),(callFunc jf args).run Tryz.prog w = .ok (.enter jf args) w) (hj:DC c n jf caps zk G m)
  (mb:Nat) (M:gW σ) (w:World) (S:Hp) (F:ah) (h:Sat w (cC c S mb M*(aj S*(G*F)))) (Q:Ending→World→Prop)
  (hQ:∀ e w',zv c mb (.agg #[.int .i64 0,.int .i64 0,.int .i64 0,.int .i64 0,.int .i64 0,.int .i64 0,.int .i64 0,.int .i64 0,.int .i64 0,.int .i64 0,.int .i64 0,.int .i64 0,.int .i64 0,.int .i64 0,.int .i64 0,.int .i64 0,.int .i64 0,.int .i64 0,.int .i64 0,.int .i64 0]) zk S (G*F) w (eh m M) e w'→Q e w') :
  Calls Tryz.prog 151 #[gm mb n,.func (.func jf) #[] caps] w Q:=by
 have HQ:=ae hQ;clear hQ;have hmf:=nV Tryz.prog;have hn1':¬ ((n:Int)<4):=by omega
 have hn2':¬ ((n:Int) > 3840):=by omega
 have Hj:=ae hj;unfold gm
 go_enter_defers Tryz.func151,Tryz.ntmps151
 have H3:=((h.alloc (.cells #[.pointer (some ⟨mb,0,none⟩),.int .i64 (n:Int)] 83 (0,0))).alloc (.cells #[.int .i64 0,.int .i64 0,.int .i64 0,.int .i64 0,.int .i64 0,.int .i64 0,.int .i64 0,.int .i64 0,.int .i64 0,.int .i64 0,.int .i64 0,.int .i64 0,.int .i64 0,.int .i64 0,.int .i64 0,.int .i64 0,.int .i64 0,.int .i64 0,.int .i64 0,.int .i64 0] 73 (0,0))).alloc (.cells #[.int .i64 0] 28 (0,0));have D3:=(((ai.refl w).alloc (.cells #[.pointer (some ⟨mb,0,none⟩),.int .i64 (n:Int)] 83 (0,0))).alloc (.cells #[.int .i64 0,.int .i64 0,.int .i64 0,.int .i64 0,.int .i64 0,.int .i64 0,.int .i64 0,.int .i64 0,.int .i64 0,.int .i64 0,.int .i64 0,.int .i64 0,.int .i64 0,.int .i64 0,.int .i64 0,.int .i64 0,.int .i64 0,.int .i64 0,.int .i64 0,.int .i64 0] 73 (0,0))).alloc (.cells #[.int .i64 0] 28 (0,0));simp only [World.size_alloc] at H3
 go_wp2_with fail
 generalize ((w.alloc (.cells #[.pointer (some ⟨mb,0,none⟩),.int .i64 (n:Int)] 83 (0,0))).alloc (.cells #[.int .i64 0,.int .i64 0,.int .i64 0,.int .i64 0,.int .i64 0,.int .i64 0,.int .i64 0,.int .i64 0,.int .i64 0,.int .i64 0,.int .i64 0,.int .i64 0,.int .i64 0,.int .i64 0,.int .i64 0,.int .i64 0,.int .i64 0,.int .i64 0,.int .i64 0,.int .i64 0] 73 (0,0))).alloc (.cells #[.int .i64 0] 28 (0,0))=w3 at H3 D3 ⊢;clear h;generalize w.heap.size+1+1=eb at *;generalize w.heap.size+1=ab at *;generalize w.heap.size=sp at *;have s0:w3.cell? ⟨sp,0,none⟩=some (.pointer (some ⟨mb,0,none⟩)):=H3.aq.cell 0;have s1:w3.cell? ⟨sp,1,none⟩=some (.int .i64 (n:Int)):=H3.aq.cell 1;have h9:Sat w3 (az 176 5 S mb c.rd M.err M.W M.D*(aj S*(c.RI M.s*(pt eb (.cells #[.int .i64 0] 28 (0,0))*(pt ab (.cells #[.int .i64 0,.int .i64 0,.int .i64 0,.int .i64 0,.int .i64 0,.int .i64 0,.int .i64 0,.int .i64 0,.int .i64 0,.int .i64 0,.int .i64 0,.int .i64 0,.int .i64 0,.int .i64 0,.int .i64 0,.int .i64 0,.int .i64 0,.int .i64 0,.int .i64 0,.int .i64 0] 73 (0,0))*(pt sp (.cells #[.pointer (some ⟨mb,0,none⟩),.int .i64 (n:Int)] 83 (0,0))*(G*F))))))):=H3.to (by unfold cC;ac_rfl);have hfk:=pd w3.drew S mb c.rd M.err M.W M.D _ h9.drew ⟨_,_,rfl⟩;have Hfk:=ae hfk;clear hfk
 go_region_held3 (fun w'=>w'.cell? ⟨sp,0,none⟩=some (.pointer (some ⟨mb,0,none⟩))∧w'.cell? ⟨sp,1,none⟩=some (.int .i64 (n:Int)))
  (first|exact ⟨s0,s1⟩|exact k01|go_keep)
  (first|(go_at_call 135;refine (Hfk.out).mono ?_;rintro e w4 ⟨S1,f,hS1,rfl,h4,d4⟩;have k01:w4.cell? ⟨sp,0,none⟩=some (.pointer (some ⟨mb,0,none⟩))∧w4.cell? ⟨sp,1,none⟩=some (.int .i64 (n:Int)):=⟨h4.bM.cell 0,h4.bM.cell 1⟩))
 have D5:=(D3.drew.trans d4).alloc (.cells #[.pointer (some ⟨f,0,none⟩),.int .i64 (n:Int),.slice none 0 0,.bool false] 149 (0,0));have H5:=h4.alloc (.cells #[.pointer (some ⟨f,0,none⟩),.int .i64 (n:Int),.slice none 0 0,.bool false] 149 (0,0))
 have H5':Sat (w4.alloc (.cells #[.pointer (some ⟨f,0,none⟩),.int .i64 (n:Int),.slice none 0 0,.bool false] 149 (0,0))) (aL (⟨c,n,w4.heap.size,f⟩:Wk σ) S1 ⟨M,none,false⟩*(aj S1*(G*(az 176 5 S1 mb c.rd M.err M.W M.D*(pt eb (.cells #[.int .i64 0] 28 (0,0))*(pt ab (.cells #[.int .i64 0,.int .i64 0,.int .i64 0,.int .i64 0,.int .i64 0,.int .i64 0,.int .i64 0,.int .i64 0,.int .i64 0,.int .i64 0,.int .i64 0,.int .i64 0,.int .i64 0,.int .i64 0,.int .i64 0,.int .i64 0,.int .i64 0,.int .i64 0,.int .i64 0,.int .i64 0] 73 (0,0))*(pt sp (.cells #[.pointer (some ⟨mb,0,none⟩),.int .i64 (n:Int)] 83 (0,0))*F))))))):=
  rS (H5.to (by ac_rfl))
 have hjb:=Hj.out ⟨c,n,w4.heap.size,f⟩ _ S1 ⟨M,none,false⟩ _ rfl rfl H5';rename_i hHeld;clear s0 s1 h9 Hfk k01 hHeld D3 d4 h4 H5 H5' Hj hj H3;generalize w4.alloc (.cells #[.pointer (some ⟨f,0,none⟩),.int .i64 (n:Int),.slice none 0 0,.bool false] 149 (0,0))=w5 at *;generalize w4.heap.size=k at *;obtain ⟨⟨r,st1⟩,hp⟩:∃ p,m ⟨M,none,false⟩=p:=⟨_,rfl⟩
 rw [hp] at hjb
 cases r with
 | bad cN=>
  have HE:=ae (kF hp);clear hp
  go_wp2_with fail
  (with_reducible refine hjb.mono ?_)
  rintro e w6 ⟨S2,hS2,d6,rfl,h6⟩;have h7:=rT h6
  have h8:Sat w6 (c.RI st1.b.s*(az 176 5 S1 mb c.rd M.err M.W M.D*(pt eb (.cells #[.int .i64 0] 28 (0,0))*(pt ab (.cells #[.int .i64 0,.int .i64 0,.int .i64 0,.int .i64 0,.int .i64 0,.int .i64 0,.int .i64 0,.int .i64 0,.int .i64 0,.int .i64 0,.int .i64 0,.int .i64 0,.int .i64 0,.int .i64 0,.int .i64 0,.int .i64 0,.int .i64 0,.int .i64 0,.int .i64 0,.int .i64 0] 73 (0,0))*(aj S2*(G*F)))))):=
   (h7.to (by ac_rfl:_=pt sp (.cells #[.pointer (some ⟨mb,0,none⟩),.int .i64 (n:Int)] 83 (0,0))*(c.RI st1.b.s*(az 176 5 S1 mb c.rd M.err M.W M.D*(pt eb (.cells #[.int .i64 0] 28 (0,0))*(pt ab (.cells #[.int .i64 0,.int .i64 0,.int .i64 0,.int .i64 0,.int .i64 0,.int .i64 0,.int .i64 0,.int .i64 0,.int .i64 0,.int .i64 0,.int .i64 0,.int .i64 0,.int .i64 0,.int .i64 0,.int .i64 0,.int .i64 0,.int .i64 0,.int .i64 0,.int .i64 0,.int .i64 0] 73 (0,0))*(aj S2*(G*F)))))))).right
  have h9:=lK hS2 h8;have h10:Sat w6 (pt ab (.cells #[.int .i64 0,.int .i64 0,.int .i64 0,.int .i64 0,.int .i64 0,.int .i64 0,.int .i64 0,.int .i64 0,.int .i64 0,.int .i64 0,.int .i64 0,.int .i64 0,.int .i64 0,.int .i64 0,.int .i64 0,.int .i64 0,.int .i64 0,.int .i64 0,.int .i64 0,.int .i64 0] 73 (0,0))*(pt eb (.cells #[.int .i64 0] 28 (0,0))*(cC c S2 mb { M with s:=st1.b.s }*(aj S2*(G*F))))):=h9.to (by ac_rfl)
  go_wp2_with fail
  exact vg rfl rfl h10 rfl fun w' h11 d11=>HQ.out _ _ (by rw [HE.out];exact ⟨S2,hS1.trans hS2,(D5.trans d6).trans d11,rfl,h11⟩)
 | ok a=>
  go_wp2_with fail
  (with_reducible refine hjb.mono ?_)
  rintro e w6 ⟨S2,v6,hS2,d6,rfl,h6⟩;obtain ⟨⟨rfl,h16⟩,h7⟩:=Sat.ak.1 h6;have hav:a.v = .agg (ints a.l):=rfl;have hX:(ints a.l).size=20:=by rw [dw,Nd.cells h16]
  have hone:(ints a.l).all (·.oneCell')=true:=by simp [ints,Value.oneCell']
  have hfinR:∀ w (P:ah),Sat w P→Sat w (zk a (.agg (ints a.l))*P):=fun w P h=>Sat.ak.2 ⟨⟨rfl,h16⟩,h⟩;rw [hav];clear h16 h6 hav;generalize ints a.l=X at *;have hinf:(Tryz.prog.info? 73).map (·.size)=some X.size:=by rw [hX];exact aY
  have Hinf:=ae hinf;have Hone:=ae hone;have HX:=ae hX;have HfinR:=ae hfinR;clear hinf hone hX hfinR;obtain ⟨bv,h8⟩:=Sat.eQ h7;clear hjb h7;have h9:Sat w6 (pt ab (.cells #[.int .i64 0,.int .i64 0,.int .i64 0,.int .i64 0,.int .i64 0,.int .i64 0,.int .i64 0,.int .i64 0,.int .i64 0,.int .i64 0,.int .i64 0,.int .i64 0,.int .i64 0,.int .i64 0,.int .i64 0,.int .i64 0,.int .i64 0,.int .i64 0,.int .i64 0,.int .i64 0] 73 (0,0))*(pt eb (.cells #[.int .i64 0] 28 (0,0))*(pt sp (.cells #[.pointer (some ⟨mb,0,none⟩),.int .i64 (n:Int)] 83 (0,0))*(pt k (.cells #[.pointer (some ⟨f,0,none⟩),.int .i64 (n:Int),bv,.bool st1.dt] 149 (0,0))*(cC c S2 f st1.b*(bS st1.bits bv*(aj S2*(az 176 5 S1 mb c.rd M.err M.W M.D*(G*F))))))))):=h8.to (by unfold bh Wk.cells;ac_rfl);have Hz6:=ae h9.heap;have h10:=h9.setRow (cs':=X);have D10:=(D5.trans d6).setRow ab X;have k3:(w6.setRow ab X).cell? ⟨k,3,none⟩=some (.bool st1.dt):=h10.aC.cell 3;clear h8 h9 D5 d6
  cases hdt:st1.dt with
  | false=>
   have HE:=ae (mz hp hdt);rw [hdt] at k3 h10;clear hp hdt
   go_wp2_with (refine wpList_store_row (by exact rfl) 73 (.tmp 4) (.tmp 31) (by exact rfl) ab X (by exact rfl) (by exact rfl) 73 _ (by with_reducible exact Hz6.out) Hinf.out (by rw [HX.out];rfl) Hone.out ?_)
   generalize w6.setRow ab X=w7 at *;have hj9:Sat w7 (az 176 5 S1 mb c.rd M.err M.W M.D*(az 176 5 S2 f c.rd st1.b.err st1.b.W st1.b.D*(aj S2*(c.RI st1.b.s*(pt ab (.cells X 73 (0,0))*(pt eb (.cells #[.int .i64 0] 28 (0,0))*(pt sp (.cells #[.pointer (some ⟨mb,0,none⟩),.int .i64 (n:Int)] 83 (0,0))*(pt k (.cells #[.pointer (some ⟨f,0,none⟩),.int .i64 (n:Int),bv,.bool false] 149 (0,0))*(bS st1.bits bv*(G*F)))))))))):=h10.to (by unfold cC;ac_rfl);have hj10:=hj9.fh (dD hS2);have s0:w7.cell? ⟨sp,0,none⟩=some (.pointer (some ⟨mb,0,none⟩)):=hj10.bM.cell 0;have k0:w7.cell? ⟨k,0,none⟩=some (.pointer (some ⟨f,0,none⟩)):=hj10.dI.cell 0;have hjn:=ae (iI w7.drew S2 mb f c.rd c.rd st1.b.err M.err st1.b.W st1.b.D M.W M.D _ hj10.drew ⟨_,_,rfl⟩);clear hj9 hj10 h10
   go_region_held3 (fun w'=>w'.cell? ⟨sp,0,none⟩=some (.pointer (some ⟨mb,0,none⟩))∧w'.cell? ⟨k,0,none⟩=some (.pointer (some ⟨f,0,none⟩)))
    (first|exact ⟨s0,k0⟩|exact k01|go_keep)
    (first|(go_at_call 138;refine (hjn.out).mono ?_;rintro e w8 ⟨S3,hS3,rfl,h8,d8⟩;have k01:w8.cell? ⟨sp,0,none⟩=some (.pointer (some ⟨mb,0,none⟩))∧w8.cell? ⟨k,0,none⟩=some (.pointer (some ⟨f,0,none⟩)):=⟨h8.bM.cell 0,h8.dI.cell 0⟩))
   all_goals
    rename_i hHeld;have h9:Sat w8 (pt ab (.cells X 73 (0,0))*(pt eb (.cells #[.int .i64 0] 28 (0,0))*((cC c S3 mb st1.b*(aj S3*(G*F)))*(pt sp (.cells #[.pointer (some ⟨mb,0,none⟩),.int .i64 (n:Int)] 83 (0,0))*(pt k (.cells #[.pointer (some ⟨f,0,none⟩),.int .i64 (n:Int),bv,.bool false] 149 (0,0))*(az 176 5 S3 f c.rd st1.b.err st1.b.W st1.b.D*bS st1.bits bv)))))):=h8.to (by unfold cC;ac_rfl);have Hz8:=ae h9.heap;have h9r:=h9.setRow (cs':=X);have e9:(w8.setRow ab X).cell? ⟨eb,0,none⟩=some (.int .i64 0):=h9r.ag.cell 0;have g9:(w8.setRow ab X).frozen? ⟨eb,0,none⟩=false:=h9r.ag.frozen 0;have h10:=((h9r.ag.setCell 0 (.int .i64 0)).ag)
    have D9:=(((D10).drew.trans d8).setRow ab X).setCell ⟨eb,0,none⟩ (.int .i64 0);have HD:=ae D9;have H10:=ae h10;clear hjn s0 k0 k01 h8 h9 h9r h10 D9 hHeld d8
    go_wp2_with (first|(refine wpList_load_row (by exact rfl) 73 (.tmp 4) (by exact rfl) ab (by exact rfl) 73 X (0,0) _ (by with_reducible exact Hz8.out) Tryz.underlying73 rfl Hinf.out ?_)|(refine wpList_store_row (by exact rfl) 73 (.tmp 4) (.tmp 49) (by exact rfl) ab X (by exact rfl) (by exact rfl) 73 X (by with_reducible exact Hz8.out) Hinf.out rfl Hone.out ?_))
    exact vf rfl rfl H10.out HX.out fun w' h11 d11=>HQ.out _ _ (by rw [HE.out];exact ⟨S3,_,hS1.trans (hS2.trans hS3),HD.out.trans d11,rfl,HfinR.out _ _ ((h11.left).to (by ac_rfl))⟩)
  | true=>
   have HE1:=fun st'=>oP (st':=st') hp hdt;have HE2:=fun st' c=>rR (st':=st') (c:=c) hp hdt;have HE1:=ae HE1;have HE2:=ae HE2;rw [hdt] at k3 h10;have k2:(w6.setRow ab X).cell? ⟨k,2,none⟩=some bv:=h10.aC.cell 2;have hrb:Rd (w6.setRow ab X) bv (st1.bits.getD []):=xF h10.dj
   have h11:Sat (w6.setRow ab X) (bh (⟨c,n,k,f⟩:Wk σ) bv S2 st1*(aj S2*(pt ab (.cells X 73 (0,0))*(pt eb (.cells #[.int .i64 0] 28 (0,0))*(pt sp (.cells #[.pointer (some ⟨mb,0,none⟩),.int .i64 (n:Int)] 83 (0,0))*(bS st1.bits bv*(az 176 5 S1 mb c.rd M.err M.W M.D*(G*F)))))))):=
    h10.to (by unfold bh Wk.cells;rw [hdt];ac_rfl)
   have hwr:=js (⟨c,n,k,f⟩:Wk σ) _ bv S2 st1 0 bv (st1.bits.getD []) _ h11 hrb
   obtain ⟨va,vl,vc,rfl⟩:∃ a l c,bv = .slice a l c:=by
    obtain ⟨a,c,e⟩:=hrb.shape;exact ⟨_,_,_,e⟩
   have hdt2:∀ st' r,bN 0 (st1.bits.getD []) st1=(r,st')→st'.dt=true:=fun st' r h=>by
    unfold bN at h
    split at h
    ·simp only [Prod.mk.injEq] at h;rw [← h.2];exact hdt
    ·simp only [Prod.mk.injEq] at h;rw [← h.2];exact hdt
   obtain ⟨⟨r2,st2⟩,hp2⟩:∃ p,bN 0 (st1.bits.getD []) st1=p:=⟨_,rfl⟩
   rw [hp2] at hwr;have hdt3:=hdt2 _ _ hp2;have Hdt3:=ae hdt3;clear hp hdt h11 hrb hdt2 hdt3
   cases r2 with
   | bad cN=>
    have HE:=ae (HE2.out _ _ hp2);clear hp2 HE1 HE2
    go_wp2_with (refine wpList_store_row (by exact rfl) 73 (.tmp 4) (.tmp 31) (by exact rfl) ab X (by exact rfl) (by exact rfl) 73 _ (by with_reducible exact Hz6.out) Hinf.out (by rw [HX.out];rfl) Hone.out ?_)
    (with_reducible refine hwr.mono ?_)
    rintro e w8 ⟨S3,hS3,d8,rfl,h12⟩
    have h13:Sat w8 (c.RI st2.b.s*(az 176 5 S1 mb c.rd M.err M.W M.D*(pt ab (.cells X 73 (0,0))*(pt eb (.cells #[.int .i64 0] 28 (0,0))*(aj S3*(G*F)))))):=
     (h12.to (by unfold bh cC;ac_rfl:_=(pt k (.cells ((⟨c,n,k,f⟩:Wk σ).cells (.slice va vl vc) st2.dt) 149 (0,0))*(az 176 5 S3 f c.rd st2.b.err st2.b.W st2.b.D*(pt sp (.cells #[.pointer (some ⟨mb,0,none⟩),.int .i64 (n:Int)] 83 (0,0))*bS st1.bits (.slice va vl vc))))*(c.RI st2.b.s*(az 176 5 S1 mb c.rd M.err M.W M.D*(pt ab (.cells X 73 (0,0))*(pt eb (.cells #[.int .i64 0] 28 (0,0))*(aj S3*(G*F)))))))).right
    have h14:=lK (hS2.trans hS3) h13;have h15:Sat w8 (pt ab (.cells X 73 (0,0))*(pt eb (.cells #[.int .i64 0] 28 (0,0))*(cC c S3 mb { M with s:=st2.b.s }*(aj S3*(G*F))))):=h14.to (by ac_rfl)
    go_wp2_with fail
    exact vg rfl rfl h15 HX.out fun w' h11 d11=>HQ.out _ _ (by rw [HE.out];exact ⟨S3,hS1.trans (hS2.trans hS3),(D10.trans d8).trans d11,rfl,h11⟩)
   | ok u=>
    have HE:=ae (HE1.out _ hp2);clear hp2 HE1 HE2
    go_wp2_with (refine wpList_store_row (by exact rfl) 73 (.tmp 4) (.tmp 31) (by exact rfl) ab X (by exact rfl) (by exact rfl) 73 _ (by with_reducible exact Hz6.out) Hinf.out (by rw [HX.out];rfl) Hone.out ?_)
    (with_reducible refine hwr.mono ?_)
    rintro e w7 ⟨S3,v8,hS3,d8,rfl,h12⟩;obtain ⟨rfl,h13⟩:=Sat.ak.1 h12;have h14:Sat w7 (pt ab (.cells X 73 (0,0))*(pt eb (.cells #[.int .i64 0] 28 (0,0))*(pt sp (.cells #[.pointer (some ⟨mb,0,none⟩),.int .i64 (n:Int)] 83 (0,0))*(pt k (.cells #[.pointer (some ⟨f,0,none⟩),.int .i64 (n:Int),(.slice va vl vc),.bool true] 149 (0,0))*(cC c S3 f st2.b*(bS st1.bits (.slice va vl vc)*(aj S3*(az 176 5 S1 mb c.rd M.err M.W M.D*(G*F))))))))):=h13.to (by unfold bh Wk.cells;rw [Hdt3.out];ac_rfl);have D14:=D10.trans d8;have hE3:=hS2.trans hS3;clear hwr h12 h13 D10 d8 h10 k2 k3
    go_wp2_with fail
    have hj9:Sat w7 (az 176 5 S1 mb c.rd M.err M.W M.D*(az 176 5 S3 f c.rd st2.b.err st2.b.W st2.b.D*(aj S3*(c.RI st2.b.s*(pt ab (.cells X 73 (0,0))*(pt eb (.cells #[.int .i64 0] 28 (0,0))*(pt sp (.cells #[.pointer (some ⟨mb,0,none⟩),.int .i64 (n:Int)] 83 (0,0))*(pt k (.cells #[.pointer (some ⟨f,0,none⟩),.int .i64 (n:Int),(.slice va vl vc),.bool true] 149 (0,0))*(bS st1.bits (.slice va vl vc)*(G*F)))))))))):=h14.to (by unfold cC;ac_rfl);have hj10:=hj9.fh (dD hE3);have s0:w7.cell? ⟨sp,0,none⟩=some (.pointer (some ⟨mb,0,none⟩)):=hj10.bM.cell 0;have k0:w7.cell? ⟨k,0,none⟩=some (.pointer (some ⟨f,0,none⟩)):=hj10.dI.cell 0;have hjn:=ae (iI w7.drew S3 mb f c.rd c.rd st2.b.err M.err st2.b.W st2.b.D M.W M.D _ hj10.drew ⟨_,_,rfl⟩);clear hj9 hj10 h14
    go_region_held3 (fun w'=>w'.cell? ⟨sp,0,none⟩=some (.pointer (some ⟨mb,0,none⟩))∧w'.cell? ⟨k,0,none⟩=some (.pointer (some ⟨f,0,none⟩)))
     (first|exact ⟨s0,k0⟩|exact k01|go_keep)
     (first|(go_at_call 138;refine (hjn.out).mono ?_;rintro e w8 ⟨S5,hS5,rfl,h8,d8⟩;have k01:w8.cell? ⟨sp,0,none⟩=some (.pointer (some ⟨mb,0,none⟩))∧w8.cell? ⟨k,0,none⟩=some (.pointer (some ⟨f,0,none⟩)):=⟨h8.bM.cell 0,h8.dI.cell 0⟩))
    all_goals
     rename_i hHeld;have h9:Sat w8 (pt ab (.cells X 73 (0,0))*(pt eb (.cells #[.int .i64 0] 28 (0,0))*((cC c S5 mb st2.b*(aj S5*(G*F)))*(pt sp (.cells #[.pointer (some ⟨mb,0,none⟩),.int .i64 (n:Int)] 83 (0,0))*(pt k (.cells #[.pointer (some ⟨f,0,none⟩),.int .i64 (n:Int),(.slice va vl vc),.bool true] 149 (0,0))*(az 176 5 S5 f c.rd st2.b.err st2.b.W st2.b.D*bS st1.bits (.slice va vl vc))))))):=h8.to (by unfold cC;ac_rfl);have Hz8:=ae h9.heap;have h9r:=h9.setRow (cs':=X);have e9:(w8.setRow ab X).cell? ⟨eb,0,none⟩=some (.int .i64 0):=h9r.ag.cell 0;have g9:(w8.setRow ab X).frozen? ⟨eb,0,none⟩=false:=h9r.ag.frozen 0;have h10:=((h9r.ag.setCell 0 (.int .i64 0)).ag)
     have D9:=(((D14).drew.trans d8).setRow ab X).setCell ⟨eb,0,none⟩ (.int .i64 0);have HD:=ae D9;have H10:=ae h10;clear hjn s0 k0 k01 h8 h9 h9r h10 D9 hHeld d8
     go_wp2_with (first|(refine wpList_load_row (by exact rfl) 73 (.tmp 4) (by exact rfl) ab (by exact rfl) 73 X (0,0) _ (by with_reducible exact Hz8.out) Tryz.underlying73 rfl Hinf.out ?_)|(refine wpList_store_row (by exact rfl) 73 (.tmp 4) (.tmp 49) (by exact rfl) ab X (by exact rfl) (by exact rfl) 73 X (by with_reducible exact Hz8.out) Hinf.out rfl Hone.out ?_))
     exact vf rfl rfl H10.out HX.out fun w' h11 d11=>HQ.out _ _ (by rw [HE.out];exact ⟨S5,_,hS1.trans (hE3.trans hS5),HD.out.trans d11,rfl,HfinR.out _ _ ((h11.left).to (by ac_rfl))⟩)
end
end Go.Fs
namespace Go.SL
open Go.RowKit
def Rs.code {α:Type}:Rs α→Int
 | .ok _=>0
 | .bad c=>c
end Go.SL
namespace Go.Fs
open Go.RowKit Go.SL Go.Ba
section
variable {σ α:Type}
theorem uK {w:World} {tmps:Array Value} {a:Nat} {F:ah} (h3:tmps[3]?=some (ax a)) (ha:Sat w (pt a (.cells #[] 202 (0,0))*F)) :
  (results Tryz.f140 tmps).run Tryz.prog w = .ok (.agg #[]) w:=by
 have hl:=run_loadVar_row (P:=Tryz.prog) w a 202 202 #[] (0,0) _ ha.heap Tryz.underlying202 rfl dq;simp [results,Tryz.results140,h3,asAddr,hl]
def Kx (jb:Nat) (jf:FuncId) (caps:Array Value):ah:=pt jb (.cells #[.func (.func jf) #[] caps] 139 (0,0))
theorem DJ {c:Cx σ} {n:Nat} {jf:FuncId} {caps:Array Value} {G:ah} {m:WM σ Unit} (hcf:∀ (args:Array Value) (w:World),(callFunc jf args).run Tryz.prog w = .ok (.enter jf args) w)
  (hj:DC c n jf caps lu G m) (jb:Nat):DC c n 140 #[.pointer (some ⟨jb,0,none⟩)] FW (Kx jb jf caps*G) m:=by
 intro x w S st F hx1 hx2 h;have hjb:=fun w F h=>hj x w S st F hx1 hx2 h;have Hjb:=ae hjb;have hA:=h.alloc (.cells #[] 202 (0,0));have dA:=(ai.refl w).alloc (.cells #[] 202 (0,0));clear hj h hjb hx1 hx2;show Calls Tryz.prog 140 #[.pointer (some ⟨x.k,0,none⟩),.pointer (some ⟨jb,0,none⟩)] w _
 go_enter Tryz.func140,Tryz.ntmps140
 have hB:Sat (w.alloc (.cells #[] 202 (0,0))) (Kx jb jf caps*(pt w.heap.size (.cells #[] 202 (0,0))*(aL x S st*(aj S*(G*F))))):=hA.to (by ac_rfl);have cj:(w.alloc (.cells #[] 202 (0,0))).cell? ⟨jb,0,none⟩=some (.func (.func jf) #[] caps):=hB.cell 0;have hC:Sat (w.alloc (.cells #[] 202 (0,0))) (aL x S st*(aj S*(G*(Kx jb jf caps*(pt w.heap.size (.cells #[] 202 (0,0))*F))))):=hB.to (by ac_rfl);have hjb:=Hjb.out _ _ hC;clear Hjb hA hB hC;obtain ⟨⟨r,st1⟩,hp⟩:∃ p,m st=p:=⟨_,rfl⟩
 rw [hp] at hjb ⊢;clear hp
 cases r with
 | bad cN=>
  go_wp2_with fail
  generalize w.alloc (.cells #[] 202 (0,0))=w1 at *;generalize w.heap.size=rb at *
  (with_reducible refine hjb.mono ?_)
  rintro e w2 ⟨S',hS,d2,rfl,h2⟩
  go_wp2_with fail
  exact ⟨rfl,S',hS,dA.trans d2,rfl,(h2.to (by ac_rfl:_=pt rb (.cells #[] 202 (0,0))*(aL x S' st1*(aj S'*(Kx jb jf caps*G*F))))).right⟩
 | ok u=>
  go_wp2_with fail
  generalize w.alloc (.cells #[] 202 (0,0))=w1 at *;generalize w.heap.size=rb at *
  (with_reducible refine hjb.mono ?_)
  rintro e w2 ⟨S',v,hS,d2,rfl,h2⟩;obtain ⟨rfl,h3⟩:=Sat.ak.1 h2;have h4:Sat w2 (pt rb (.cells #[] 202 (0,0))*(aL x S' st1*(aj S'*(Kx jb jf caps*G*F)))):=h3.to (by ac_rfl);have H4:=ae h4;clear h2 h3 h4 hjb cj
  go_wp2_with (refine wpList_store_mid (by exact rfl) 202 (.tmp 3) (.tmp 7) (by exact rfl) rb 0 #[] (by exact rfl) (by exact rfl) (by exact fun j h=>absurd h (Nat.not_lt_zero _)) (by exact dq) (by exact rfl) ?_)
  exact bodyPost_ret (uK rfl H4.out) rfl ⟨S',_,hS,dA.trans d2,rfl,Sat.ak.2 ⟨rfl,H4.out.right⟩⟩
def Lb (c:Cx σ) (mb:Nat) (S:Hp) (F:ah) (w:World) (p:Rs Unit × gW σ) (e:Ending) (w':World):Prop:=
 ∃ S',Ext S S'∧ai w w'∧e = .returned (.int .i64 p.1.code)∧Sat w' (cC c S' mb p.2*(aj S'*F))
theorem Bf (c:Cx σ) (hc:c.Ok) (n:Nat) (hn1:4≤n) (hn2:n≤3840) (jf:FuncId) (caps:Array Value) (G:ah) (m:WM σ Unit)
  (hcf:∀ (args:Array Value) (w:World),(callFunc jf args).run Tryz.prog w = .ok (.enter jf args) w) (hj:DC c n jf caps lu G m)
  (mb:Nat) (M:gW σ) (w:World) (S:Hp) (F:ah) (h:Sat w (cC c S mb M*(aj S*(G*F)))) (Q:Ending→World→Prop)
  (hQ:∀ e w',Lb c mb S (G*F) w (eh m M) e w'→Q e w') :
  Calls Tryz.prog 80 #[gm mb n,.func (.func jf) #[] caps] w Q:=by
 have hmf:=nV Tryz.prog;have HQ:=ae hQ;have hrun:=fun jb w F h=>Kj c hc n hn1 hn2 140 #[.pointer (some ⟨jb,0,none⟩)] (Kx jb jf caps*G) m (fun args w=>enters Tryz.func140 (by kernel_rfl) rfl args w) (DJ hcf hj jb) mb M w S F h;have Hrun:=ae hrun;have hA:=(h.alloc (.cells #[.pointer (some ⟨mb,0,none⟩),.int .i64 (n:Int)] 83 (0,0))).alloc (.cells #[.func (.func jf) #[] caps] 139 (0,0));have dA:=((ai.refl w).alloc (.cells #[.pointer (some ⟨mb,0,none⟩),.int .i64 (n:Int)] 83 (0,0))).alloc (.cells #[.func (.func jf) #[] caps] 139 (0,0));simp only [World.size_alloc] at hA;clear hQ hrun hj h hcf;unfold gm
 go_enter Tryz.func80,Tryz.ntmps80
 go_wp2_with fail
 have hB:Sat ((w.alloc (.cells #[.pointer (some ⟨mb,0,none⟩),.int .i64 (n:Int)] 83 (0,0))).alloc (.cells #[.func (.func jf) #[] caps] 139 (0,0)))
   (cC c S mb M*(aj S*(Kx (w.heap.size+1) jf caps*G*(pt w.heap.size (.cells #[.pointer (some ⟨mb,0,none⟩),.int .i64 (n:Int)] 83 (0,0))*F)))):=hA.to (by unfold Kx;ac_rfl)
 refine Hrun.out (w.heap.size+1) _ _ hB _ ?_;clear hA hB Hrun;generalize (w.alloc (.cells #[.pointer (some ⟨mb,0,none⟩),.int .i64 (n:Int)] 83 (0,0))).alloc (.cells #[.func (.func jf) #[] caps] 139 (0,0))=w1 at *;generalize w.heap.size+1=jb at *;generalize w.heap.size=sp at *;have HP:=ae (fun e w'=>HQ.out e w');clear HQ;obtain ⟨⟨r,M'⟩,hp⟩:∃ p,eh m M=p:=⟨_,rfl⟩
 rw [hp];have HP2:RowKit.Hid (∀ e w',Lb c mb S (G*F) w (r,M') e w'→Q e w'):=fun e w' h=>HP.out e w' (by rw [hp];exact h);clear HP hp
 cases r with
 | bad cN=>
  rintro e w2 ⟨S',hS,d2,rfl,h2⟩;have H2:=ae (h2.to (by ac_rfl:_=(cC c S' mb M'*(aj S'*(G*F)))*(Kx jb jf caps*pt sp (.cells #[.pointer (some ⟨mb,0,none⟩),.int .i64 (n:Int)] 83 (0,0)))));clear h2
  go_wp2_with (refine wpList_store_mid (by exact rfl) 202 (.tmp 5) (.tmp 11) (by exact rfl) w2.heap.size 0 #[] (by exact rfl) (by exact rfl) (by exact fun j h=>absurd h (Nat.not_lt_zero _)) (by exact dq) (by exact rfl) ?_)
  exact HP2.out _ _ ⟨S',hS,(dA.trans d2).alloc _,rfl,(H2.out.alloc _).right.left⟩
 | ok u=>
  rintro e w2 ⟨S',v,hS,d2,rfl,h2⟩;obtain ⟨rfl,h3⟩:=Sat.ak.1 h2;have H2:=ae (h3.to (by ac_rfl:_=(cC c S' mb M'*(aj S'*(G*F)))*(Kx jb jf caps*pt sp (.cells #[.pointer (some ⟨mb,0,none⟩),.int .i64 (n:Int)] 83 (0,0)))));clear h2 h3
  go_wp2_with (refine wpList_store_mid (by exact rfl) 202 (.tmp 5) (.tmp 11) (by exact rfl) w2.heap.size 0 #[] (by exact rfl) (by exact rfl) (by exact fun j h=>absurd h (Nat.not_lt_zero _)) (by exact dq) (by exact rfl) ?_)
  exact HP2.out _ _ ⟨S',hS,(dA.trans d2).alloc _,rfl,(H2.out.alloc _).right.left⟩
end
end Go.Fs
namespace Go.SL
open Go.RowKit
section
variable {σ:Type}
def cW (id:Nat) (kd:Int):Hd:=⟨id,⟨kd,1,0,List.replicate 16 0,0⟩,List.replicate 240 0⟩
def Cj (kd:Int) (id:Nat):WM σ Nat:=WM.bind (dS (cW id kd)) fun _=>WM.pure id
def uA (ask:dx σ) (n:Nat) (kd:Int):WM σ Nat:=fun st=>if kd=1∨kd=2 then (WM.bind (ib ask n) (Cj kd)) st else (.bad 1,st)
end
end Go.SL
namespace Go.Fs
open Go.RowKit Go.SL Go.Ba
section
variable {σ α:Type}
def bE (b:Nat) (z:Int):ah:=pt b (.cells #[.int .i64 z] 3 (0,0))
theorem mU (id:Nat) (kd:Int):(cW id kd).fit:=⟨rfl,rfl⟩
theorem LR {c:Cx σ} (hc:c.Ok) {n:Nat} (hn:n≤3840) (kd:Int) (kb:Nat):DC c n 121 #[.pointer (some ⟨kb,0,none⟩)] Jc (bE kb kd) (uA c.ask n kd):=by
 intro x w S st F hx1 hx2 h;subst hx1 hx2;have ck:w.cell? ⟨kb,0,none⟩=some (.int .i64 kd):=(h.to (by ac_rfl:_=bE kb kd*(aL x S st*(aj S*F)))).cell 0;show Calls Tryz.prog 121 #[.pointer (some ⟨x.k,0,none⟩),.pointer (some ⟨kb,0,none⟩)] w _
 by_cases hk:kd=1∨kd=2
 ·have ht:=mW x hc hn w S st _ h
  have hE:uA x.c.ask x.n kd st=(WM.bind (ib x.c.ask x.n) (Cj kd)) st:=if_pos hk;rw [hE];obtain ⟨⟨r,st1⟩,hp⟩:∃ p,ib x.c.ask x.n st=p:=⟨_,rfl⟩
  rw [hp] at ht;clear hE h
  cases r with
  | bad cN=>
   rw [WM.bG hp];clear hp;rcases hk with rfl|rfl
   all_goals
    go_enter Tryz.func121,Tryz.ntmps121
    go_wp2_with fail
    (with_reducible refine (gT w).mono ?_)
    rintro e w2 ⟨rfl,rfl⟩
    go_wp2_with fail
    (with_reducible refine ht.mono ?_)
    rintro e w2 ⟨S',hS,d2,rfl,h2⟩
    go_wp2_with fail
    exact ⟨rfl,S',hS,d2,rfl,h2⟩
  | ok id=>
   rw [WM.aZ hp];clear hp;have hbu:=nW (id:Int) (cW id kd).n (mU id kd).1;have Hbu:=ae hbu;obtain ⟨HL,hHL⟩:∃ L,L=ints ((id:Int) :: ((cW id kd).n.l++List.replicate 240 0)):=⟨_,rfl⟩
   rw [← hHL] at hbu;have hHL2:HL=ints (cW id kd).l:=hHL;have HHL:=ae hHL2;clear Hbu hHL hHL2
   have hfin:∀ p,dS (cW id kd) st1=p→∀ r st2,p=(r,st2)→Cj kd id st1=(match r with | .ok _=>.ok id | .bad c=>.bad c,st2):=by
    intro p hp r st2 he;subst he
    cases r with
    | ok u=>exact WM.aZ hp
    | bad c=>exact WM.bG hp
   obtain ⟨⟨r2,st2⟩,hp2⟩:∃ p,dS (cW id kd) st1=p:=⟨_,rfl⟩
   have hE2:=hfin _ hp2 r2 st2 rfl;rw [hE2];have hsv:=fun w S hb F h Q hQ=>z7 x w S st1 hb (cW id kd) F h Q hQ;rw [hp2] at hsv;have Hsv:=ae hsv;have hfit:=mU id kd;have Hfit:=ae hfit;clear hfin hE2 hp2 hsv hfit;rcases hk with rfl|rfl
   all_goals
    have Hb:=ae hbu;clear hbu
    go_enter Tryz.func121,Tryz.ntmps121
    go_wp2_with fail
    (with_reducible refine (gT w).mono ?_)
    rintro e w2 ⟨rfl,rfl⟩
    go_wp2_with fail
    (with_reducible refine ht.mono ?_)
    rintro e w2 ⟨S',v,hS,d2,rfl,h2⟩;obtain ⟨rfl,h3⟩:=Sat.ak.1 h2;have ck2:w2.cell? ⟨kb,0,none⟩=some _:=(h3.to (by ac_rfl:_=bE kb _*(aL x S' st1*(aj S'*F)))).cell 0;clear ck;have h4:=h3.alloc (.cells HL 137 (0,0));have h5:Sat (w2.alloc (.cells HL 137 (0,0))) (aW w2.heap.size (cW id _)*(aL x S' st1*(aj S'*(bE kb _*F)))):=Sat.held.2 ⟨Hfit.out,by rw [HHL.out] at h4 ⊢;exact h4⟩;have D5:=d2.alloc (.cells HL 137 (0,0));have H5:=ae h5;clear h2 h3 h4 h5 ht
    go_wp2_with (refine gh (by exact rfl) 137 #[(0,.tmp 15),(1,.tmp 17)] (by exact rfl) _ (by exact rfl) HL (by exact Hb.out) ?_)
    refine Hsv.out _ S' _ _ H5.out _ ?_;clear H5 Hsv;generalize w2.alloc (.cells HL 137 (0,0))=w3 at *
    cases r2 with
    | bad cN=>
     rintro e w4 ⟨S2,hS2,d4,rfl,h6⟩
     go_wp2_with fail
     exact ⟨rfl,S2,hS.trans hS2,D5.trans d4,rfl,(h6.to (by ac_rfl:_=aW w2.heap.size (cW id _)*(aL x S2 st2*(aj S2*(bE kb _*F))))).right⟩
    | ok u=>
     rintro e w4 ⟨S2,v4,hS2,d4,rfl,h6⟩;obtain ⟨rfl,h7⟩:=Sat.ak.1 h6
     go_wp2_with fail
     go_ret
     exact ⟨S2,_,hS.trans hS2,D5.trans d4,rfl,Sat.ak.2 ⟨rfl,(h7.to (by ac_rfl:_=aW w2.heap.size (cW id _)*(aL x S2 st2*(aj S2*(bE kb _*F))))).right⟩⟩
 ·have hE:uA x.c.ask x.n kd st=(.bad 1,st):=if_neg hk
  rw [hE];have h1:(kd == 1)=false:=by simp;omega
  have h2:(kd == 2)=false:=by simp;omega
  clear hE hk
  go_enter Tryz.func121,Tryz.ntmps121
  go_wp2_with fail
  (with_reducible refine (iB w).mono ?_)
  rintro e w2 ⟨rfl,rfl⟩
  go_wp2_with fail
  exact ⟨rfl,S,Ext.refl S,ai.refl w,rfl,h⟩
end
end Go.Fs
namespace Go.SL
open Go.RowKit
section
variable {σ α β:Type}
def Hd.nL (h:Hd) (z:Int):Hd:={ h with n:={ h.n with lk:=z } }
def rQ (h:Hd) (z:Int):WM σ Unit:=fun st=>if 0≤z∧z≤65535 then dS (h.nL z) st else (.bad 1,st)
def j0 (ask:dx σ) (n:Nat) (node d:Int):WM σ Unit:=WM.bind (gQ ask n node) fun h=>rQ h (wrap64 (h.n.lk+d))
def pj (ask:dx σ) (n:Nat) (node:Int):WM σ Nd:=WM.bind (gQ ask n node) fun h=>WM.pure h.n
theorem Hd.Fu {h:Hd} (hf:h.fit) (z:Int):(h.nL z).fit:=hf
end
end Go.SL
namespace Go.Fs
open Go.RowKit Go.SL Go.Ba
section
variable {σ α:Type}
theorem mI (x:Wk σ) (hc:x.c.Ok) (w:World) (S:Hp) (st:eV σ) (id:Int) (F:ah) (h:Sat w (aL x S st*(aj S*F))) :
  Calls Tryz.prog 82 #[.pointer (some ⟨x.k,0,none⟩),.int .i64 id] w (WQ x rF S F w (gQ x.c.ask x.n id st)):=
 tj x hc w S st id F h _ fun _ _ h=>h
theorem qy (x:Wk σ) (w:World) (S:Hp) (st:eV σ) (hb:Nat) (h:Hd) (F:ah) (hs:Sat w (aW hb h*(aL x S st*(aj S*F)))) :
  Calls Tryz.prog 84 #[.pointer (some ⟨x.k,0,none⟩),.pointer (some ⟨hb,0,none⟩)] w (WQ x lu S (aW hb h*F) w (dS h st)):=
 z7 x w S st hb h F hs _ fun _ _ h=>h
theorem Sat.rF {w:World} {h:Hd} {v:Value} {F:ah} (hs:Sat w (rF h v*F)):∃ hb,v = .pointer (some ⟨hb,0,none⟩)∧Sat w (aW hb h*F):=by
 obtain ⟨hb,h1⟩:=Sat.au.1 hs;obtain ⟨h2,h3⟩:=Sat.ak.1 (h1.to (aw _ _ _));exact ⟨hb,h2,h3⟩
theorem gD {w:World} {hb:Nat} {h:Hd} {F:ah} (hs:Sat w (aW hb h*F)) {j:Nat} (hj:j<261):w.cell? ⟨hb,j,none⟩=some (.int .i64 (h.l.getD j 0))∧w.frozen? ⟨hb,j,none⟩=false:=by
 obtain ⟨hf,h2⟩:=Sat.held.1 hs;exact ⟨by rw [h2.cell,bA (by rw [Hd.tu hf];exact hj)],h2.frozen j⟩
theorem ub {w:World} {hb:Nat} {h h':Hd} {F:ah} (hs:Sat w (aW hb h*F)) {j:Nat} {z:Int} (hf:h'.fit) (hl:h'.l=h.l.set j z):Sat (w.setCell ⟨hb,j,none⟩ (.int .i64 z)) (aW hb h'*F):=by
 obtain ⟨_,h2⟩:=Sat.held.1 hs;refine Sat.held.2 ⟨hf,?_⟩;have:=h2.setCell j (.int .i64 z);rw [fZ] at this;rw [hl];exact this
theorem Sat.xi {w:World} {hb:Nat} {h:Hd} {F:ah} (hs:Sat w (aW hb h*F)):h.fit:=(Sat.held.1 hs).1
theorem Ey {c:Cx σ} (hc:c.Ok) {n:Nat} (node d:Int) (nb db:Nat):DC c n 81 #[.pointer (some ⟨nb,0,none⟩),.pointer (some ⟨db,0,none⟩)] lu (bE nb node*bE db d) (j0 c.ask n node d):=by
 intro x w S st F hx1 hx2 h;subst hx1 hx2;have cn:w.cell? ⟨nb,0,none⟩=some (.int .i64 node):=(h.to (by ac_rfl:_=bE nb node*(bE db d*(aL x S st*(aj S*F))))).cell 0;show Calls Tryz.prog 81 #[.pointer (some ⟨x.k,0,none⟩),.pointer (some ⟨nb,0,none⟩),.pointer (some ⟨db,0,none⟩)] w _
 have hl:=mI x hc w S st node _ h;obtain ⟨⟨r,st1⟩,hp⟩:∃ p,gQ x.c.ask x.n node st=p:=⟨_,rfl⟩
 rw [hp] at hl
 cases r with
 | bad cN=>
  have hE:j0 x.c.ask x.n node d st=(.bad cN,st1):=WM.bG hp;rw [hE];clear hE hp h
  go_enter Tryz.func81,Tryz.ntmps81
  go_wp2_with fail
  (with_reducible refine hl.mono ?_)
  rintro e w2 ⟨S',hS,d2,rfl,h2⟩
  go_wp2_with fail
  exact ⟨rfl,S',hS,d2,rfl,h2⟩
 | ok hh=>
  have hE:j0 x.c.ask x.n node d st=rQ hh (wrap64 (hh.n.lk+d)) st1:=WM.aZ hp;rw [hE];clear hE hp h;obtain ⟨z,hz⟩:∃ z,wrap64 (hh.n.lk+d)=z:=⟨_,rfl⟩
  rw [hz];have hlk:hh.l.getD 2 0=hh.n.lk:=rfl;have Hz:=ae hz;obtain ⟨r2,hr2⟩:∃ p,rQ hh z st1=p:=⟨_,rfl⟩
  rw [hr2];have Hr2:=ae hr2;clear hz hr2
  go_enter Tryz.func81,Tryz.ntmps81
  go_wp2_with fail
  (with_reducible refine hl.mono ?_)
  rintro e w2 ⟨S',v,hS,d2,rfl,h2⟩;obtain ⟨hb,rfl,h3⟩:=Sat.rF h2;have hcl:=(gD h3 (j:=2) (by decide)).1;rw [hlk] at hcl;have cd:w2.cell? ⟨db,0,none⟩=some (.int .i64 d):=(h3.to (by ac_rfl:_=bE db d*(bE nb node*(aW hb hh*(aL x S' st1*(aj S'*F)))))).cell 0;clear hl h2 cn hlk
  go_wp2_with fail
  go_region_held3 (fun w'=>w'.cell? ⟨hb,2,none⟩=some (.int .i64 hh.n.lk)∧w'.cell? ⟨db,0,none⟩=some (.int .i64 d)) (first|exact ⟨hcl,cd⟩|go_keep) (fail)
  rename_i hHeld;have H3:=ae h3.drew;have D2:=ae d2.drew;clear hHeld h3 d2 hcl cd;rw [show IntKind.i64.wrap (hh.n.lk+d)=z from by rw [← Hz.out,IntKind.wrap_i64];unfold wrap64;omega];generalize w2.drew=w3 at *
  by_cases hzz:0≤z∧z≤65535
  ·have hr3:dS (hh.nL z) st1=r2:=by rw [← Hr2.out];exact (if_pos hzz).symm
   have g2:=(gD H3.out (j:=2) (by decide)).1;have f2:=(gD H3.out (j:=2) (by decide)).2;have h4:=ub (h':=hh.nL z) H3.out (j:=2) (z:=z) (Hd.Fu (Sat.xi H3.out) z) rfl;have hsv:=qy x _ S' st1 hb (hh.nL z) _ h4;rw [hr3] at hsv;have Hsv:=ae hsv;have D4:=ae (D2.out.setCell ⟨hb,2,none⟩ (.int .i64 z));obtain ⟨z1,z2⟩:=hzz;clear h4 hsv hr3 Hr2;generalize hh.l.getD 2 0=y at *;obtain ⟨r3,st2⟩:=r2
   go_wp2_with fail
   (with_reducible refine (gT w3).mono ?_)
   rintro e w4 ⟨rfl,rfl⟩
   cases r3 with
   | bad cN=>
    go_wp2_with fail
    refine Hsv.out.mono ?_;rintro e w5 ⟨S2,hS2,d5,rfl,h6⟩
    go_wp2_with fail
    exact ⟨rfl,S2,hS.trans hS2,D4.out.trans d5,rfl,(h6.to (by ac_rfl:_=aW hb (hh.nL z)*(aL x S2 st2*(aj S2*(bE nb node*bE db d*F))))).right⟩
   | ok u=>
    go_wp2_with fail
    refine Hsv.out.mono ?_;rintro e w5 ⟨S2,v5,hS2,d5,rfl,h6⟩;obtain ⟨rfl,h7⟩:=Sat.ak.1 h6
    go_wp2_with fail
    go_end0
    exact ⟨S2,_,hS.trans hS2,D4.out.trans d5,rfl,Sat.ak.2 ⟨rfl,(h7.to (by ac_rfl:_=aW hb (hh.nL z)*(aL x S2 st2*(aj S2*(bE nb node*bE db d*F))))).right⟩⟩
  ·have hr3:r2=(.bad 1,st1):=by rw [← Hr2.out];exact if_neg hzz
   subst hr3;clear Hr2
   by_cases hz1:0≤z
   ·have hz2:decide (z≤65535)=false:=decide_eq_false (by omega)
    clear hzz
    go_wp2_with fail
    (with_reducible refine (iB w3).mono ?_)
    rintro e w4 ⟨rfl,rfl⟩
    go_wp2_with fail
    exact ⟨rfl,S',hS,D2.out,rfl,H3.out.right⟩
   ·have hz2:z<0:=by omega
    clear hzz
    go_wp2_with fail
    (with_reducible refine (iB w3).mono ?_)
    rintro e w4 ⟨rfl,rfl⟩
    go_wp2_with fail
    exact ⟨rfl,S',hS,D2.out,rfl,H3.out.right⟩
theorem rL {w:World} {tmps:Array Value} {a:Nat} {X:Array Value} {F:ah} (h3:tmps[3]?=some (ax a)) (ha:Sat w (pt a (.cells X 73 (0,0))*F)) (hX:X.size=20) :
  (results Tryz.f152 tmps).run Tryz.prog w = .ok (.agg X) w:=by
 have hl:=run_loadVar_row (P:=Tryz.prog) w a 73 73 X (0,0) _ ha.heap Tryz.underlying73 rfl (by rw [hX];exact aY);simp [results,Tryz.results152,h3,asAddr,hl]
theorem GU {c:Cx σ} (hc:c.Ok) {n:Nat} (node:Int) (nb:Nat):DC c n 152 #[.pointer (some ⟨nb,0,none⟩)] zk (bE nb node) (pj c.ask n node):=by
 intro x w S st F hx1 hx2 h;subst hx1 hx2;show Calls Tryz.prog 152 #[.pointer (some ⟨x.k,0,none⟩),.pointer (some ⟨nb,0,none⟩)] w _
 have h1:=h.alloc (.cells #[.int .i64 0,.int .i64 0,.int .i64 0,.int .i64 0,.int .i64 0,.int .i64 0,.int .i64 0,.int .i64 0,.int .i64 0,.int .i64 0,.int .i64 0,.int .i64 0,.int .i64 0,.int .i64 0,.int .i64 0,.int .i64 0,.int .i64 0,.int .i64 0,.int .i64 0,.int .i64 0] 73 (0,0));have D1:=(ai.refl w).alloc (.cells #[.int .i64 0,.int .i64 0,.int .i64 0,.int .i64 0,.int .i64 0,.int .i64 0,.int .i64 0,.int .i64 0,.int .i64 0,.int .i64 0,.int .i64 0,.int .i64 0,.int .i64 0,.int .i64 0,.int .i64 0,.int .i64 0,.int .i64 0,.int .i64 0,.int .i64 0,.int .i64 0] 73 (0,0));have h2:=h1.to (by ac_rfl:_=aL x S st*(aj S*(bE nb node*(pt w.heap.size (.cells #[.int .i64 0,.int .i64 0,.int .i64 0,.int .i64 0,.int .i64 0,.int .i64 0,.int .i64 0,.int .i64 0,.int .i64 0,.int .i64 0,.int .i64 0,.int .i64 0,.int .i64 0,.int .i64 0,.int .i64 0,.int .i64 0,.int .i64 0,.int .i64 0,.int .i64 0,.int .i64 0] 73 (0,0))*F))));have cn:(w.alloc (.cells #[.int .i64 0,.int .i64 0,.int .i64 0,.int .i64 0,.int .i64 0,.int .i64 0,.int .i64 0,.int .i64 0,.int .i64 0,.int .i64 0,.int .i64 0,.int .i64 0,.int .i64 0,.int .i64 0,.int .i64 0,.int .i64 0,.int .i64 0,.int .i64 0,.int .i64 0,.int .i64 0] 73 (0,0))).cell? ⟨nb,0,none⟩=some (.int .i64 node):=h2.aq.cell 0;have hl:=mI x hc _ S st node _ h2;obtain ⟨⟨r,st1⟩,hp⟩:∃ p,gQ x.c.ask x.n node st=p:=⟨_,rfl⟩
 rw [hp] at hl;have hz:=ae h1.heap;clear h1 h2 h
 cases r with
 | bad cN=>
  have hE:pj x.c.ask x.n node st=(.bad cN,st1):=WM.bG hp;rw [hE];clear hE hp
  go_enter Tryz.func152,Tryz.ntmps152
  go_wp2_with fail
  (with_reducible refine hl.mono ?_)
  rintro e w2 ⟨S',hS,d2,rfl,h2⟩
  go_wp2_with fail
  exact ⟨rfl,S',hS,D1.trans d2,rfl,(h2.to (by ac_rfl:_=pt w.heap.size (.cells #[.int .i64 0,.int .i64 0,.int .i64 0,.int .i64 0,.int .i64 0,.int .i64 0,.int .i64 0,.int .i64 0,.int .i64 0,.int .i64 0,.int .i64 0,.int .i64 0,.int .i64 0,.int .i64 0,.int .i64 0,.int .i64 0,.int .i64 0,.int .i64 0,.int .i64 0,.int .i64 0] 73 (0,0))*(aL x S' st1*(aj S'*(bE nb node*F))))).right⟩
 | ok hh=>
  have hE:pj x.c.ask x.n node st=(.ok hh.n,st1):=WM.aZ hp;rw [hE];clear hE hp
  go_enter Tryz.func152,Tryz.ntmps152
  go_wp2_with fail
  (with_reducible refine hl.mono ?_)
  rintro e w2 ⟨S',v,hS,d2,rfl,h2⟩;obtain ⟨hb,rfl,h3⟩:=Sat.rF h2;have hf:=Sat.xi h3;have hrow:=ae (qD hf (Sat.held.1 h3).2);have hinf:(Tryz.prog.info? 73).map (·.size)=some (hh.n.l.map (Value.int .i64)).length:=by rw [List.length_map,Nd.cells hf.1];exact aY
  have hsz:(hh.n.l.map (Value.int .i64)).toArray.size=20:=by simp [Nd.cells hf.1]
  have hinf2:(Tryz.prog.info? 73).map (·.size)=some (hh.n.l.map (Value.int .i64)).toArray.size:=by rw [hsz];exact aY
  have hone:(hh.n.l.map (Value.int .i64)).toArray.all (·.oneCell')=true:=by simp [Value.oneCell']
  have h4:Sat w2 (pt w.heap.size (.cells #[.int .i64 0,.int .i64 0,.int .i64 0,.int .i64 0,.int .i64 0,.int .i64 0,.int .i64 0,.int .i64 0,.int .i64 0,.int .i64 0,.int .i64 0,.int .i64 0,.int .i64 0,.int .i64 0,.int .i64 0,.int .i64 0,.int .i64 0,.int .i64 0,.int .i64 0,.int .i64 0] 73 (0,0))*(aW hb hh*(aL x S' st1*(aj S'*(bE nb node*F))))):=h3.to (by ac_rfl);have Hz4:=ae h4.heap;have h5:=h4.setRow (cs':=(hh.n.l.map (Value.int .i64)).toArray);have D5:=ae ((D1.trans d2).setRow w.heap.size (hh.n.l.map (Value.int .i64)).toArray);have H5:=ae h5;have Hinf:=ae hinf;have Hinf2:=ae hinf2;have Hone:=ae hone;have Hsz:=ae hsz;have Hf:=ae hf;clear h2 h3 h4 h5 hinf hinf2 hone hf hl hz cn d2 hsz
  go_wp2_with (first
   | (refine wpList_load_mid (by exact rfl) 73 (.tmp 8) (by exact rfl) hb 1 (by exact rfl) (hh.n.l.map (Value.int .i64)) _ (by with_reducible exact hrow.out) Tryz.underlying73 rfl (by with_reducible exact Hinf.out) ?_)
   | (refine wpList_store_row (by exact rfl) 73 (.tmp 3) (.tmp 9) (by exact rfl) w.heap.size (hh.n.l.map (Value.int .i64)).toArray (by exact rfl) (by exact rfl) 73 #[.int .i64 0,.int .i64 0,.int .i64 0,.int .i64 0,.int .i64 0,.int .i64 0,.int .i64 0,.int .i64 0,.int .i64 0,.int .i64 0,.int .i64 0,.int .i64 0,.int .i64 0,.int .i64 0,.int .i64 0,.int .i64 0,.int .i64 0,.int .i64 0,.int .i64 0,.int .i64 0] (by with_reducible exact Hz4.out) Hinf2.out (by rw [Hsz.out];rfl) Hone.out ?_))
  exact bodyPost_ret (rL rfl H5.out Hsz.out) rfl ⟨S',_,hS,D5.out,rfl,Sat.ak.2 ⟨⟨rfl,Hf.out.1⟩,H5.out.right.right⟩⟩
end
end Go.Fs
namespace Go.SL
open Go.RowKit
section
variable {σ:Type}
def iA (ask:dx σ):WM σ Unit:=fun st=>(WM.bind (fq ask 0 true) fun _=>WM.bind (fq ask 1 true) fun _=>dS (cW 1 2)) { st with bits:=some (zs 480) }
def Hd.PT (h:Hd):List Int:=h.n.dr++h.row
end
end Go.SL
namespace Go.Fs
open Go.RowKit Go.SL Go.Ba
section
variable {σ α:Type}
theorem aI {P:Program} {f:FuncId} {args:Array Value} {w:World} {R:Ending→World→Prop} (h:∀ Q:Ending→World→Prop,RowKit.Hid (∀ e w',R e w'→Q e w')→Calls P f args w Q):Calls P f args w R:=h R (fun _ _ h=>h)
theorem BL {c:Cx σ} (hc:c.Ok) {n:Nat}:DC c n 117 #[] lu emp (iA c.ask):=by
 intro x w S st F hx1 hx2 h;subst hx1 hx2;show Calls Tryz.prog 117 #[.pointer (some ⟨x.k,0,none⟩)] w _
 refine aI fun Q HQ=>?_;obtain ⟨v0,h1⟩:=Sat.eQ h;have hnw:=Kc w;obtain ⟨ID,hA⟩:∃ ID,ID=({ st with bits:=some (zs 480) }:eV σ):=⟨_,rfl⟩
 have hE:iA x.c.ask st=(WM.bind (fq x.c.ask 0 true) fun _=>WM.bind (fq x.c.ask 1 true) fun _=>dS (cW 1 2)) ID:=by rw [hA];rfl
 have HE0:=ae hE;have HA:=ae hA;have hbu:=nW 1 (cW 1 2).n (mU 1 2).1;obtain ⟨HL,hHL⟩:∃ L,L=ints ((1:Int) :: ((cW 1 2).n.l++List.replicate 240 0)):=⟨_,rfl⟩
 rw [← hHL] at hbu;have HHL:=ae (show HL=ints (cW 1 2).l from hHL);have Hb:=ae hbu;have hlen:(zs 480).length=480:=aT 480;have Hlen:=ae hlen;clear hbu hHL hE hA h hlen;generalize zs 480=Z at *;obtain ⟨⟨r1,st1⟩,hp1⟩:∃ p,fq x.c.ask 0 true ID=p:=⟨_,rfl⟩
 have hm1:∀ (w:World) (S:Hp) (F:ah),Sat w (aL x S ID*(aj S*F))→Calls Tryz.prog 87 #[.pointer (some ⟨x.k,0,none⟩),.int .i64 0,.bool true] w (WQ x lu S F w (fq x.c.ask 0 true ID)):=fun w S F h=>yB x hc w S ID 0 true F (by decide) h;rw [hp1] at hm1
 go_enter Tryz.func117,Tryz.ntmps117
 go_wp2_with fail
 (with_reducible refine hnw.mono ?_)
 rintro e w2 ⟨v,rfl,h2,d2⟩;have h3:=h2.under h1;obtain ⟨va,vc,rfl⟩:=aB h3;rw [Hlen.out] at h3 ⊢;have h4:Sat w2 (pt x.k (.cells (x.cells v0 st.dt) 149 (0,0))*(cC x.c S x.b st.b*(bs 5 (.slice va 480 vc) Z*(aj S*(emp*F))))):=(h3.to (by unfold bh;ac_rfl:_=bS st.bits v0*(pt x.k (.cells (x.cells v0 st.dt) 149 (0,0))*(cC x.c S x.b st.b*(bs 5 (.slice va 480 vc) Z*(aj S*(emp*F))))))).right
 obtain ⟨v1,n1,k1,rfl⟩:∃ a n c,v0 = .slice a n c:=by
  rcases Sat.mL (h3.to (by ac_rfl:_=bS st.bits v0*(bs 5 (.slice va 480 vc) Z*(bh x v0 S st*(aj S*(emp*F)))))) with ⟨_,rfl,_⟩|⟨l,_,_,hx⟩
  ·exact ⟨_,_,_,rfl⟩
  ·obtain ⟨a,b,e⟩:=aB hx;exact ⟨_,_,_,e⟩
 have g2:w2.cell? ⟨x.k,2,none⟩=some (.slice v1 n1 k1):=h4.cell 2;have f2:w2.frozen? ⟨x.k,2,none⟩=false:=h4.frozen 2;have h5:=h4.setCell 2 (.slice va 480 vc);have D5:=d2.setCell ⟨x.k,2,none⟩ (.slice va 480 vc)
 have h6:Sat (w2.setCell ⟨x.k,2,none⟩ (.slice va 480 vc)) (aL x S ID*(aj S*(emp*F))):=by
  rw [HA.out];refine Sat.iG (.slice va 480 vc) ?_;have h7:=Sat.oM Hlen.out h5.aq;exact h7.to (by unfold bh Wk.cells;simp only [List.setIfInBounds_toArray,List.set_cons_succ,List.set_cons_zero];ac_rfl)
 have hm:=hm1 _ S _ h6;clear hnw h1 h2 h3 h4 h5 h6 hm1
 cases r1 with
 | bad cN=>
  have hE:(WM.bind (fq x.c.ask 0 true) fun _=>WM.bind (fq x.c.ask 1 true) fun _=>dS (cW 1 2)) ID=(.bad cN,st1):=WM.bG hp1;have HE:=ae (HE0.out.trans hE);clear hE hp1
  go_wp2_with fail
  (with_reducible refine hm.mono ?_)
  rintro e w3 ⟨S',hS,d3,rfl,h7⟩
  go_wp2_with fail
  exact ⟨rfl,HQ.out _ _ (by rw [HE.out];exact ⟨S',hS,D5.trans d3,rfl,h7⟩)⟩
 | ok u=>
  have hE:(WM.bind (fq x.c.ask 0 true) fun _=>WM.bind (fq x.c.ask 1 true) fun _=>dS (cW 1 2)) ID=(WM.bind (fq x.c.ask 1 true) fun _=>dS (cW 1 2)) st1:=WM.aZ hp1;have HE1:=ae (HE0.out.trans hE);clear hE hp1;obtain ⟨⟨r2,st2⟩,hp2⟩:∃ p,fq x.c.ask 1 true st1=p:=⟨_,rfl⟩
  have hm2:∀ (w:World) (S:Hp) (F:ah),Sat w (aL x S st1*(aj S*F))→Calls Tryz.prog 87 #[.pointer (some ⟨x.k,0,none⟩),.int .i64 1,.bool true] w (WQ x lu S F w (fq x.c.ask 1 true st1)):=fun w S F h=>yB x hc w S st1 1 true F (by decide) h;rw [hp2] at hm2
  cases r2 with
  | bad cN=>
   have hE:(WM.bind (fq x.c.ask 1 true) fun _=>dS (cW 1 2)) st1=(.bad cN,st2):=WM.bG hp2;have HE:=ae (HE1.out.trans hE);clear hE hp2
   go_wp2_with fail
   (with_reducible refine hm.mono ?_)
   rintro e w3 ⟨S',v3,hS,d3,rfl,h7⟩;obtain ⟨rfl,h8⟩:=Sat.ak.1 h7
   go_wp2_with fail
   (with_reducible refine (hm2 w3 S' _ h8).mono ?_)
   rintro e w4 ⟨S2,hS2,d4,rfl,h9⟩
   go_wp2_with fail
   exact ⟨rfl,HQ.out _ _ (by rw [HE.out];exact ⟨S2,hS.trans hS2,(D5.trans d3).trans d4,rfl,h9⟩)⟩
  | ok u2=>
   have hE:(WM.bind (fq x.c.ask 1 true) fun _=>dS (cW 1 2)) st1=dS (cW 1 2) st2:=WM.aZ hp2;have HE2:=ae (HE1.out.trans hE);clear hE hp2;have hsv:=fun w S hb F h=>qy x w S st2 hb (cW 1 2) F h;obtain ⟨⟨r3,st3⟩,hp3⟩:∃ p,dS (cW 1 2) st2=p:=⟨_,rfl⟩
   rw [hp3] at hsv;have HE:=ae (HE2.out.trans hp3);have Hsv:=ae hsv;clear hp3 hsv
   go_wp2_with fail
   (with_reducible refine hm.mono ?_)
   rintro e w3 ⟨S',v3,hS,d3,rfl,h7⟩;obtain ⟨rfl,h8⟩:=Sat.ak.1 h7
   go_wp2_with fail
   (with_reducible refine (hm2 w3 S' _ h8).mono ?_)
   rintro e w4 ⟨S2,v4,hS2,d4,rfl,h9⟩;obtain ⟨rfl,h10⟩:=Sat.ak.1 h9;have h11:=h10.alloc (.cells HL 137 (0,0));have h12:Sat (w4.alloc (.cells HL 137 (0,0))) (aW w4.heap.size (cW 1 2)*(aL x S2 st2*(aj S2*(emp*F)))):=Sat.held.2 ⟨mU 1 2,by rw [HHL.out] at h11 ⊢;exact h11⟩;have D12:=ae (((D5.trans d3).trans d4).alloc (.cells HL 137 (0,0)));have HS:=ae (hS.trans hS2);have hs:=ae (Hsv.out _ _ _ _ h12);clear hm hm2 h7 h8 h9 h10 h11 h12 Hsv D5 d3 d4 hS hS2
   go_wp2_with (refine gh (by exact rfl) 137 #[(0,.const (.int .i64 1)),(1,.tmp 11)] (by exact rfl) _ (by exact rfl) HL (by exact Hb.out) ?_)
   refine hs.out.mono ?_
   cases r3 with
   | bad cN=>
    rintro e w5 ⟨S3,hS3,d5,rfl,h13⟩
    go_wp2_with fail
    exact ⟨rfl,HQ.out _ _ (by rw [HE.out];exact ⟨S3,HS.out.trans hS3,D12.out.trans d5,rfl,(h13.to (by ac_rfl:_=aW w4.heap.size (cW 1 2)*(aL x S3 st3*(aj S3*(emp*F))))).right⟩)⟩
   | ok u3=>
    rintro e w5 ⟨S3,v5,hS3,d5,rfl,h13⟩;obtain ⟨rfl,h14⟩:=Sat.ak.1 h13
    go_wp2_with fail
    go_end0
    exact HQ.out _ _ (by rw [HE.out];exact ⟨S3,_,HS.out.trans hS3,D12.out.trans d5,rfl,Sat.ak.2 ⟨rfl,(h14.to (by ac_rfl:_=aW w4.heap.size (cW 1 2)*(aL x S3 st3*(aj S3*(emp*F))))).right⟩⟩)
end
end Go.Fs
namespace Go.SL
open Go.RowKit
section
variable {σ α β:Type}
theorem WM.lO {m:WM σ α} {k:α→WM σ β} {st st':eV σ} {b:β} (h:WM.bind m k st=(.ok b,st')):∃ a st1,m st=(.ok a,st1)∧k a st1=(.ok b,st'):=by
 unfold WM.bind at h
 match hm:m st,h with
 | (.ok a,st1),h=>exact ⟨a,st1,rfl,h⟩
 | (.bad c,st1),h=>cases h
structure Hd.Ro (n:Nat) (h:Hd):Prop where
 fit:h.fit
 ok:h.n.ok=true
 id0:1≤h.id
 id1:h.id<n
 rw0:0≤h.n.rw
 rw1:h.n.rw<n
 pg:∀ p ∈ h.PT,0≤p∧p<n
theorem Cy {l:List Int} (h:l.all cP=true):∀ p ∈ l,0≤p∧p<3840:=fun p hp=>iE (List.all_eq_true.1 h p hp)
theorem Fa {ask:dx σ} {n:Nat} {id:Int} {st st':eV σ} {h:Hd} (hl:gQ ask n id st=(.ok h,st')):h.Ro n:=by
 unfold gQ at hl
 split at hl
 ·rename_i hid
  obtain ⟨L,st1,h1,h2⟩:=WM.lO hl;unfold NH at h2
  split at h2
  ·rename_i hc
   have hok:(jA L).1.ok=true∧(jA L).1.dr.length=16:=by
    refine ⟨?_,Cs L⟩;unfold jA at hc ⊢
    split at hc
    ·rename_i h9;rw [if_pos h9];simp only [Bool.and_eq_true] at h9;exact h9.1
    ·cases hc
   generalize (jA L).1=nd at *;obtain ⟨hok,h16⟩:=hok;have hf:=Nd.pE hok;have hrw:=iE hf.2.2.2.2.2.2.1
   have key:∀ row st2,row.length=240→(∀ p ∈ row,0≤p)→(nd.rw<n)→ik n id.toNat nd row st2=(.ok h,st')→h.Ro n:=by
    intro row st2 hrl hrp hrn h3;obtain ⟨_,st3,h4,h5⟩:=WM.lO h3;obtain ⟨_,st4,h6,h7⟩:=WM.lO h5;simp only [WM.pure,Prod.mk.injEq,Rs.ok.injEq] at h7;obtain ⟨rfl,rfl⟩:=h7
    have a1:nd.dr.all (fun x=>decide (x<n))=true:=by
     unfold ed at h4;split at h4
     ·assumption
     ·cases h4
    have a2:row.all (fun x=>decide (x<n))=true:=by
     unfold ed at h6;split at h6
     ·assumption
     ·cases h6
    refine ⟨⟨h16,hrl⟩,hok,by show 1≤id.toNat;omega,by show id.toNat<n;omega,hrw.1,hrn,fun p hp=>?_⟩;rcases List.mem_append.1 hp with hp|hp
    ·exact ⟨(Cy hf.2.2.2.2.2.1 p hp).1,by simpa using List.all_eq_true.1 a1 p hp⟩
    ·exact ⟨hrp p hp,by simpa using List.all_eq_true.1 a2 p hp⟩
   unfold jS at h2
   split at h2
   ·rename_i hz
    exact key _ _ rfl (fun p hp=>by rw [(List.mem_replicate.1 hp).2];omega) (by rw [hz];omega) h2
   ·obtain ⟨_,st3,h4,h5⟩:=WM.lO h2
    obtain ⟨L2,st4,h6,h7⟩:=WM.lO h5
    have a1:[nd.rw].all (fun x=>decide (x<n))=true:=by
     unfold ed at h4;split at h4
     ·assumption
     ·cases h4
    unfold JF at h7
    split at h7
    ·rename_i hc2
     have hro:(kq L2).1.all cP=true:=by
      unfold kq at hc2 ⊢
      split at hc2
      ·rename_i h9;rw [if_pos h9];exact h9
      ·cases hc2
     exact key _ _ (yd L2) (fun p hp=>(Cy hro p hp).1) (by simpa using a1) h7
    ·cases h7
  ·cases h2
 ·cases hl
end
end Go.SL

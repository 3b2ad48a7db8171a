/- Steps. -/
import Derived.Test.YtacliaemfegopaaGreatDoorKP24
import Derived.DataElems
import Derived.Deep.RegionLaw
set_option linter.unusedVariables false
set_option linter.unusedSimpArgs false
set_option maxRecDepth 100000
set_option maxHeartbeats 40000000
open Go.Proofs Go.SL
namespace Go.SL
open Go.RowKit
section
variable {σ:Type}
def nX (ask:dx σ) (n:Nat) (h:Hd) (i:Nat):WM σ (Hd × Int × List UInt8):=WM.bind (ib ask n) fun b=>WM.pure (h.put i (b:Int),(b:Int),zs 480)
def lC (ask:dx σ) (n:Nat) (h:Hd) (i:Nat) (wh:Bool):WM σ (Hd × Int × List UInt8):=fun st=>
 if h.bg i=0 then (if 16≤i∧h.n.rw=0 then (WM.bind (ib ask n) fun r=>nX ask n (h.iO (r:Int)) i) st else nX ask n h i st)
 else if wh=true then (.ok (h,h.bg i,zs 480),st) else (WM.bind (cS ask (h.bg i)) fun L=>WM.pure (h,h.bg i,L)) st
end
end Go.SL
namespace Go.Fs
open Go.RowKit Go.SL Go.Ba
section
variable {σ α:Type}
def uw (x:Wk σ) (hb:Nat) (S:Hp) (F:ah) (w:World):Rs (Hd × Int × List UInt8) × eV σ→Ending→World→Prop
 | (.ok p,st'),e,w'=>∃ S' v,Ext S S'∧ai w w'∧p.2.2.length=480∧e = .returned (.tuple #[.int .i64 p.2.1,v])∧Sat w' (bs 5 v p.2.2*(aW hb p.1*(aL x S' st'*(aj S'*F))))
 | (.bad c,st'),e,w'=>∃ S' h',Ext S S'∧ai w w'∧e = .panicked (FR c)∧Sat w' (aW hb h'*(aL x S' st'*(aj S'*F)))
theorem mm (x:Wk σ) (hc:x.c.Ok) (hn:x.n≤3840) (w:World) (S:Hp) (st:eV σ) (hb:Nat) (h:Hd) (i:Nat) (wh:Bool) (F:ah) (hi:i<256) (hs:Sat w (aW hb h*(aL x S st*(aj S*F)))) :
  Calls Tryz.prog 89 #[.pointer (some ⟨x.k,0,none⟩),.pointer (some ⟨hb,0,none⟩),.int .i64 (i:Int),.bool wh] w (uw x hb S F w (lC x.c.ask x.n h i wh st)):=by
 refine aI fun Q HQ=>?_;have hpg:=yU w hb h _ hs i hi;unfold Oe at hpg;have hi2:(i:Int)<256:=by omega
 obtain ⟨T,hT⟩:∃ T,lC x.c.ask x.n h i wh st=T:=⟨_,rfl⟩
 rw [hT] at HQ;have hmk:∀ w,(Instr.makeSlice 37 (.int .i64 480) (.int .i64 480)).run Tryz.prog w = .ok (.slice (some ⟨w.heap.size,0,none⟩) 480 480) (w.alloc (.cells (dp (zs 480)) 5 (0,0))):=er 480 (by omega);have hf:=(Sat.held.1 hs).1;have c20:w.cell? ⟨hb,20,none⟩=some (.int .i64 h.n.rw):=xu hf (Sat.held.1 hs).2;have Hs:=ae hs;have Hf:=ae hf;clear hs hf
 by_cases h0:h.bg i=0
 ·rw [h0] at hpg
  by_cases hr:16≤i∧h.n.rw=0
  ·have hT2:(WM.bind (ib x.c.ask x.n) fun r=>nX x.c.ask x.n (h.iO (r:Int)) i) st=T:=((if_pos h0).trans (if_pos hr)).symm.trans hT
   have hlt:16≤(i:Int):=by omega
   have ht:=mW x hc hn w S st _ (Hs.out.to (by ac_rfl:_=aL x S st*(aj S*(aW hb h*F))));obtain ⟨⟨r1,st1⟩,hp⟩:∃ p,ib x.c.ask x.n st=p:=⟨_,rfl⟩
   rw [hp] at ht;rw [hr.2] at c20
   cases r1 with
   | bad cN=>
    have HE:=ae ((WM.bG hp).symm.trans hT2);clear hT hT2 h0 hr hp
    go_enter Tryz.func89,Tryz.ntmps89
    go_wp2_with fail
    (with_reducible refine hpg.mono ?_)
    rintro e w2 ⟨rfl,rfl⟩
    go_wp2_with fail
    (with_reducible refine ht.mono ?_)
    rintro e w2 ⟨S',hS,d2,rfl,h2⟩
    go_wp2_with fail
    exact ⟨rfl,HQ.out _ _ (by rw [← HE.out];exact ⟨S',h,hS,d2,rfl,h2.to (by ac_rfl)⟩)⟩
   | ok r=>
    have HE:=ae ((WM.aZ hp).symm.trans hT2);clear hT hT2 h0 hr hp
    go_enter Tryz.func89,Tryz.ntmps89
    go_wp2_with fail
    (with_reducible refine hpg.mono ?_)
    rintro e w2 ⟨rfl,rfl⟩
    go_wp2_with fail
    (with_reducible refine ht.mono ?_)
    rintro e w2 ⟨S',v,hS,d2,rfl,h2⟩;obtain ⟨rfl,h3⟩:=Sat.ak.1 h2;have h4:=h3.to (by ac_rfl:_=aW hb h*(aL x S' st1*(aj S'*F)));have c20b:=(gD h4 (j:=20) (by decide)).1;have f20b:=(gD h4 (j:=20) (by decide)).2;generalize h.l.getD 20 0=y20 at *;have h5:=ub (h':=h.iO (r:Int)) h4 (j:=20) (z:=(r:Int)) Hf.out (Hd.Mm Hf.out _);have d5:=d2.setCell ⟨hb,20,none⟩ (.int .i64 (r:Int));have ht2:=mW x hc hn _ S' st1 _ (h5.to (by ac_rfl:_=aL x S' st1*(aj S'*(aW hb (h.iO (r:Int))*F))));have Ht2:=ae ht2;clear h2 h3 h4 ht ht2 c20
    go_wp2_with fail
    generalize w2.setCell ⟨hb,20,none⟩ (.int .i64 (r:Int))=w3 at *;clear h5;refine Ht2.out.mono ?_;generalize h.iO (r:Int)=hk at *;obtain ⟨⟨r6,st6⟩,hp6⟩:∃ p,ib x.c.ask x.n st1=p:=⟨_,rfl⟩
    rw [hp6]
    cases r6 with
    | bad cN=>
     have HE2:=ae ((WM.bG hp6).symm.trans HE.out);rintro e w6 ⟨S6,hS6,d6,rfl,h6⟩;clear Ht2 hp6
     go_wp2_with fail
     exact ⟨rfl,HQ.out _ _ (by rw [← HE2.out];exact ⟨S6,hk,hS.trans hS6,d5.trans d6,rfl,h6.to (by ac_rfl)⟩)⟩
    | ok b=>
     have HE2:=ae ((WM.aZ hp6).symm.trans HE.out);rintro e w6 ⟨S6,v6,hS6,d6,rfl,h6⟩;obtain ⟨rfl,h7⟩:=Sat.ak.1 h6;have hpu:=sD w6 hb hk _ (h7.to (by ac_rfl:_=aW hb hk*(aL x S6 st6*(aj S6*F)))) i hi (b:Int);clear Ht2 hp6 h6 h7
     go_wp2_with fail
     (with_reducible refine hpu.mono ?_)
     rintro e w7 ⟨rfl,h8,d8⟩
     go_wp2_with fail
     have hB:=mC 480 (by decide) h8.drew;have D9:=ae ((((d5.trans d6).trans d8).drew).alloc (.cells (dp (zs 480)) 5 (0,0)));have HB:=ae hB;clear h8 hB
     go_region_held3 (fun _=>True) (trivial) (fail)
     all_goals
      go_wp2_with fail
      exact HQ.out _ _ (by rw [← HE2.out];exact ⟨S6,_,hS.trans hS6,D9.out,aT 480,rfl,HB.out⟩)
  ·have hT2:nX x.c.ask x.n h i st=T:=((if_pos h0).trans (if_neg hr)).symm.trans hT
   have HE:=ae hT2;have ht2:=mW x hc hn w S st _ (Hs.out.to (by ac_rfl:_=aL x S st*(aj S*(aW hb h*F))));have Ht2:=ae ht2;obtain ⟨bb,hbb⟩:∃ b,b=decide (16≤(i:Int)):=⟨_,rfl⟩
   cases bb with
   | false=>
    have hlt:¬ 16≤(i:Int):=by simpa using hbb
    clear hT hT2 h0 hr ht2 hbb
    go_enter Tryz.func89,Tryz.ntmps89
    go_wp2_with fail
    (with_reducible refine hpg.mono ?_)
    rintro e w2 ⟨rfl,rfl⟩
    go_wp2_with fail
    refine Ht2.out.mono ?_;obtain ⟨⟨r6,st6⟩,hp6⟩:∃ p,ib x.c.ask x.n st=p:=⟨_,rfl⟩
    rw [hp6]
    cases r6 with
    | bad cN=>
     have HE2:=ae ((WM.bG hp6).symm.trans HE.out);rintro e w6 ⟨S6,hS6,d6,rfl,h6⟩;clear Ht2 hp6
     go_wp2_with fail
     exact ⟨rfl,HQ.out _ _ (by rw [← HE2.out];exact ⟨S6,h,hS6,d6,rfl,h6.to (by ac_rfl)⟩)⟩
    | ok b=>
     have HE2:=ae ((WM.aZ hp6).symm.trans HE.out);rintro e w6 ⟨S6,v6,hS6,d6,rfl,h6⟩;obtain ⟨rfl,h7⟩:=Sat.ak.1 h6;have hpu:=sD w6 hb h _ (h7.to (by ac_rfl:_=aW hb h*(aL x S6 st6*(aj S6*F)))) i hi (b:Int);clear Ht2 hp6 h6 h7
     go_wp2_with fail
     (with_reducible refine hpu.mono ?_)
     rintro e w7 ⟨rfl,h8,d8⟩
     go_wp2_with fail
     have hB:=mC 480 (by decide) h8.drew;have D9:=ae (((d6.trans d8).drew).alloc (.cells (dp (zs 480)) 5 (0,0)));have HB:=ae hB;clear h8 hB
     go_region_held3 (fun _=>True) (trivial) (fail)
     all_goals
      go_wp2_with fail
      exact HQ.out _ _ (by rw [← HE2.out];exact ⟨S6,_,hS6,D9.out,aT 480,rfl,HB.out⟩)
   | true=>
    have hlt:16≤(i:Int):=by simpa using hbb
    have hrw:(h.n.rw == 0)=false:=by simp only [beq_eq_false_iff_ne];intro h9;exact hr ⟨by omega,h9⟩
    clear hT hT2 h0 hr ht2 hbb;generalize h.n.rw=rw0 at *
    go_enter Tryz.func89,Tryz.ntmps89
    go_wp2_with fail
    (with_reducible refine hpg.mono ?_)
    rintro e w2 ⟨rfl,rfl⟩
    go_wp2_with fail
    refine Ht2.out.mono ?_;obtain ⟨⟨r6,st6⟩,hp6⟩:∃ p,ib x.c.ask x.n st=p:=⟨_,rfl⟩
    rw [hp6]
    cases r6 with
    | bad cN=>
     have HE2:=ae ((WM.bG hp6).symm.trans HE.out);rintro e w6 ⟨S6,hS6,d6,rfl,h6⟩;clear Ht2 hp6
     go_wp2_with fail
     exact ⟨rfl,HQ.out _ _ (by rw [← HE2.out];exact ⟨S6,h,hS6,d6,rfl,h6.to (by ac_rfl)⟩)⟩
    | ok b=>
     have HE2:=ae ((WM.aZ hp6).symm.trans HE.out);rintro e w6 ⟨S6,v6,hS6,d6,rfl,h6⟩;obtain ⟨rfl,h7⟩:=Sat.ak.1 h6;have hpu:=sD w6 hb h _ (h7.to (by ac_rfl:_=aW hb h*(aL x S6 st6*(aj S6*F)))) i hi (b:Int);clear Ht2 hp6 h6 h7
     go_wp2_with fail
     (with_reducible refine hpu.mono ?_)
     rintro e w7 ⟨rfl,h8,d8⟩
     go_wp2_with fail
     have hB:=mC 480 (by decide) h8.drew;have D9:=ae (((d6.trans d8).drew).alloc (.cells (dp (zs 480)) 5 (0,0)));have HB:=ae hB;clear h8 hB
     go_region_held3 (fun _=>True) (trivial) (fail)
     all_goals
      go_wp2_with fail
      exact HQ.out _ _ (by rw [← HE2.out];exact ⟨S6,_,hS6,D9.out,aT 480,rfl,HB.out⟩)
 ·have h1:(h.bg i != 0)=true:=by simpa using h0
  cases wh with
  | true=>
   have HE:=ae (((if_neg h0).trans (if_pos rfl)).symm.trans hT);have hB:=mC 480 (by decide) Hs.out.drew;have D9:=ae (((ai.refl w).drew).alloc (.cells (dp (zs 480)) 5 (0,0)));have HB:=ae hB;clear hT h0 hB c20;generalize h.bg i=y at *
   go_enter Tryz.func89,Tryz.ntmps89
   go_wp2_with fail
   (with_reducible refine hpg.mono ?_)
   rintro e w2 ⟨rfl,rfl⟩
   go_wp2_with fail
   go_region_held3 (fun _=>True) (trivial) (fail)
   all_goals
    go_wp2_with fail
    exact HQ.out _ _ (by rw [← HE.out];exact ⟨S,_,Ext.refl S,D9.out,aT 480,rfl,HB.out⟩)
  | false=>
   have hT2:=((if_neg h0).trans (if_neg (by decide))).symm.trans hT;have hrd:=mQ x hc w S st (h.bg i) _ (Hs.out.to (by ac_rfl:_=aL x S st*(aj S*(aW hb h*F))));obtain ⟨⟨r1,st1⟩,hp⟩:∃ p,cS x.c.ask (h.bg i) st=p:=⟨_,rfl⟩
   rw [hp] at hrd
   cases r1 with
   | bad cN=>
    have HE:=ae ((WM.bG hp).symm.trans hT2);clear hT hT2 h0 hp c20;generalize h.bg i=y at *
    go_enter Tryz.func89,Tryz.ntmps89
    go_wp2_with fail
    (with_reducible refine hpg.mono ?_)
    rintro e w2 ⟨rfl,rfl⟩
    go_wp2_with fail
    (with_reducible refine hrd.mono ?_)
    rintro e w2 ⟨S',hS,d2,rfl,h2⟩
    go_wp2_with fail
    exact ⟨rfl,HQ.out _ _ (by rw [← HE.out];exact ⟨S',h,hS,d2,rfl,h2.to (by ac_rfl)⟩)⟩
   | ok L=>
    have HE:=ae ((WM.aZ hp).symm.trans hT2);have HL:=ae (jd hp);clear hT hT2 h0 hp c20;generalize h.bg i=y at *
    go_enter Tryz.func89,Tryz.ntmps89
    go_wp2_with fail
    (with_reducible refine hpg.mono ?_)
    rintro e w2 ⟨rfl,rfl⟩
    go_wp2_with fail
    (with_reducible refine hrd.mono ?_)
    rintro e w2 ⟨S',v,hS,d2,rfl,h2⟩;unfold fB at h2;have h3:=ae (h2.to (by ac_rfl:_=bs 5 v L*(aW hb h*(aL x S' st1*(aj S'*F)))));obtain ⟨va,vc,rfl⟩:=aB h2;clear h2 hrd
    go_wp2_with fail
    exact HQ.out _ _ (by rw [← HE.out];exact ⟨S',_,hS,d2,HL.out,rfl,h3.out⟩)
end
end Go.Fs
namespace Go.SL
open Go.RowKit
section
variable {σ:Type}
def xy (f:Nat→Hd→WM σ Hd) (done off l:Nat) (d:List UInt8) (p:Hd × Int × List UInt8):WM σ Hd:=
 WM.bind (bN p.2.1 (putAt p.2.2 ((off+done)%480) ((d.drop done).take l))) fun _=>f (done+l) p.1
def vZ (ask:dx σ) (n off:Nat) (d:List UInt8):Nat→Nat→Hd→WM σ Hd
 | 0,_,h=>WM.pure h
 | f+1,done,h=>fun st=>
  if done<d.length then (WM.bind (lC ask n h ((off+done)/480) (gY (d.length-done) (off+done) == 480)) (xy (vZ ask n off d f) done off (gY (d.length-done) (off+done)) d)) st else (.ok h,st)
def EW (off:Nat) (d:List UInt8) (h:Hd):WM σ Unit:=dS (h.lL (max h.n.sz ((off+d.length:Nat):Int)))
def C9 (ask:dx σ) (n:Nat) (off:Int) (d:List UInt8) (h:Hd):WM σ Unit:=fun st=>
 if 0≤off∧d.length≤4096∧off≤122880-d.length then (if d.length=0 then (.ok (),st) else (WM.bind (vZ ask n off.toNat d d.length 0 h) (EW off.toNat d)) st) else (.bad 1,st)
def fW (ask:dx σ) (n:Nat) (node off:Int) (d:List UInt8):WM σ Unit:=WM.bind (gQ ask n node) (C9 ask n off d)
theorem nJ {α β:Type} {m m':WM σ α} {k:α→WM σ β} {st st':eV σ} (h:m st=m' st'):(WM.bind m k) st=(WM.bind m' k) st':=by unfold WM.bind;rw [h]
theorem Lk {ask:dx σ} {h:Hd} {n off f done:Nat} {d:List UInt8} (hd:d.length≤done) (st:eV σ):vZ ask n off d f done h st=(.ok h,st):=by
 cases f with
 | zero=>rfl
 | succ f=>exact if_neg (by omega)
theorem Qr {ask:dx σ} {h:Hd} {n off f done:Nat} {d:List UInt8} (hd:done<d.length) {st st1:eV σ} {c:Int}
  (hr:lC ask n h ((off+done)/480) (gY (d.length-done) (off+done) == 480) st=(.bad c,st1)):vZ ask n off d (f+1) done h st=(.bad c,st1):=(if_pos hd).trans (WM.bG hr)
theorem Qw {ask:dx σ} {h:Hd} {n off f done:Nat} {d:List UInt8} (hd:done<d.length) {st st1:eV σ} {p:Hd × Int × List UInt8}
  (hr:lC ask n h ((off+done)/480) (gY (d.length-done) (off+done) == 480) st=(.ok p,st1)):vZ ask n off d (f+1) done h st=xy (vZ ask n off d f) done off (gY (d.length-done) (off+done)) d p st1:=(if_pos hd).trans (WM.aZ hr)
end
end Go.SL
namespace Go.Fs
open Go.RowKit Go.SL Go.Ba
section
variable {σ α:Type}
def KA (b:Nat) (v:Value):ah:=pt b (.cells #[v] 37 (0,0))
def Qo (x:Wk σ) (hb off:Nat) (d:List UInt8) (S:Hp) (F:ah) (w:World) (T:Rs Unit × eV σ) (u:Value) (wr:World):Prop:=
 ∃ (done f:Nat) (h:Hd) (stk:eV σ) (Sk:Hp),done≤d.length∧d.length-done≤f∧u = .int .i64 (done:Int)∧(WM.bind (vZ x.c.ask x.n off d f done h) (EW off d)) stk=T∧Ext S Sk∧ai w wr ∧
  Sat wr (aW hb h*(aL x Sk stk*(aj Sk*F)))
theorem yN {c:Cx σ} (hc:c.Ok) {n:Nat} (hn:n≤3840) (node off:Int) (l:List UInt8) (va:Option Addr) (cap:Nat) (D:ah) (hD:∀ W P,Sat W (D*P)→Rd W (.slice va l.length cap) l) (hcap:l.length≤cap) (hbig:l.length≤1000000000000) (nb ob db:Nat) :
  DC c n 88 #[.pointer (some ⟨nb,0,none⟩),.pointer (some ⟨ob,0,none⟩),.pointer (some ⟨db,0,none⟩)] lu (bE nb node*(bE ob off*(KA db (.slice va l.length cap)*D))) (fW c.ask n node off l):=by
 intro x w S st F hx1 hx2 h;subst hx1 hx2;have cn:w.cell? ⟨nb,0,none⟩=some (.int .i64 node):=(h.to (by ac_rfl:_=bE nb node*((bE ob off*(KA db (.slice va l.length cap)*D))*(aL x S st*(aj S*F))))).cell 0;show Calls Tryz.prog 88 #[.pointer (some ⟨x.k,0,none⟩),.pointer (some ⟨nb,0,none⟩),.pointer (some ⟨ob,0,none⟩),.pointer (some ⟨db,0,none⟩)] w _
 refine aI fun Q HQ=>?_;have hl:=mI x hc w S st node _ h;obtain ⟨⟨r,st1⟩,hp⟩:∃ p,gQ x.c.ask x.n node st=p:=⟨_,rfl⟩
 rw [hp] at hl;clear h;obtain ⟨G,hG⟩:∃ G,G=bE nb node*(bE ob off*(KA db (.slice va l.length cap)*D))*F:=⟨_,rfl⟩
 rw [← hG] at hl HQ;have HG:=ae hG
 cases r with
 | bad cN=>
  have HE:=ae (show fW x.c.ask x.n node off l st=(.bad cN,st1) from WM.bG hp);clear hp hG
  go_enter Tryz.func88,Tryz.ntmps88
  go_wp2_with fail
  (with_reducible refine hl.mono ?_)
  rintro e w2 ⟨S',hS,d2,rfl,h2⟩
  go_wp2_with fail
  exact ⟨rfl,HQ.out _ _ (by rw [HE.out];exact ⟨S',hS,d2,rfl,h2⟩)⟩
 | ok hh=>
  obtain ⟨T,hT⟩:∃ T,C9 x.c.ask x.n off l hh st1=T:=⟨_,rfl⟩
  have HE:=ae (show fW x.c.ask x.n node off l st=T from (WM.aZ hp).trans hT);have HT:=ae hT;clear hp hG hT
  have sO:∀ W P,Sat W (P*G)→W.cell? ⟨ob,0,none⟩=some (.int .i64 off):=fun W P hW=>by
   rw [HG.out] at hW;exact (hW.to (by ac_rfl:_=bE ob off*(bE nb node*(KA db (.slice va l.length cap)*(D*(F*P)))))).cell 0
  have sB:∀ W P,Sat W (P*G)→W.cell? ⟨db,0,none⟩=some (.slice va l.length cap):=fun W P hW=>by
   rw [HG.out] at hW;exact (hW.to (by ac_rfl:_=KA db (.slice va l.length cap)*(bE nb node*(bE ob off*(D*(F*P)))))).cell 0
  have sR:∀ W P,Sat W (P*G)→Rd W (.slice va l.length cap) l:=fun W P hW=>by
   rw [HG.out] at hW;exact hD W _ (hW.to (by ac_rfl:_=D*(KA db (.slice va l.length cap)*(bE nb node*(bE ob off*(F*P))))))
  have SO:=ae sO;have SB:=ae sB;have SR:=ae sR;clear sO sB sR;have Hln:Hid (∃ m,l.length=m):=⟨_,rfl⟩
  obtain ⟨m,hm⟩:=Hln.out;rw [hm] at SB SR hcap hbig;have Hm:=ae hm;clear hm Hln hD
  go_enter Tryz.func88,Tryz.ntmps88
  go_wp2_with fail
  (with_reducible refine hl.mono ?_)
  rintro e w2 ⟨S',v,hS,d2,rfl,h2⟩;obtain ⟨hb,rfl,h3⟩:=Sat.rF h2;have h4:Sat w2 (aW hb hh*(aL x S' st1*(aj S'*G))):=h3.to (by ac_rfl);have co:=SO.out w2 (aW hb hh*(aL x S' st1*aj S')) (h4.to (by ac_rfl));have cb:=SB.out w2 (aW hb hh*(aL x S' st1*aj S')) (h4.to (by ac_rfl));have H4:=ae h4;clear h2 h3 hl cn h4;have hbm:(m:Int)≤1000000000000:=by omega
  by_cases hz:0≤off∧l.length≤4096∧off≤122880-(l.length:Int)
  ·obtain ⟨z0,z1,z2⟩:=hz
   obtain ⟨o,rfl⟩:∃ o:Nat,off=(o:Int):=⟨off.toNat,by omega⟩
   by_cases h0:m=0
   ·subst h0
    have HT2:Hid (T=(.ok (),st1)):=by rw [← HT.out];exact (if_pos ⟨z0,z1,z2⟩).trans (if_pos Hm.out)
    rw [Hm.out] at z2;have z3:(o:Int)≤122880:=by omega
    clear z1 z2 HT
    go_wp2_with fail
    (with_reducible refine (gT w2).mono ?_)
    rintro e w3 ⟨rfl,rfl⟩
    go_wp2_with fail
    go_end0
    exact HQ.out _ _ (by rw [HE.out,HT2.out];exact ⟨S',_,hS,d2,rfl,Sat.ak.2 ⟨rfl,(H4.out).right⟩⟩)
   ·have hT2:(WM.bind (vZ x.c.ask x.n o l l.length 0 hh) (EW o l)) st1=T:=by
     rw [← HT.out];exact ((if_pos ⟨z0,z1,z2⟩).trans (if_neg (by rw [Hm.out];exact h0))).symm
    have HT2:=ae hT2;rw [Hm.out] at z1 z2;have z1':(m:Int)≤4096:=by omega
    have z2':(o:Int)+(m:Int)≤122880:=by omega
    have z3:(o:Int)≤122880-(m:Int):=by omega
    have hm0:((m:Int) == 0)=false:=by simpa using h0
    clear hT2 HT z2
    go_wp2_with fail
    (with_reducible refine (gT w2).mono ?_)
    rintro e w3 ⟨rfl,rfl⟩;have hm1:(m:Int)≠0:=by omega
    clear co cb;have cb:w2.cell? ⟨db,0,none⟩=some (.slice va m cap):=SB.out w2 (aW hb hh*(aL x S' st1*aj S')) (H4.out.to (by ac_rfl))
    go_wp2_with fail
    clear cb
    go_loopw [6] (fun u wr=>Qo x hb o l S G w T u wr) (fun u _=>m-(intOf u).toNat)
    case atStart=>exact ⟨0,l.length,hh,st1,S',Nat.zero_le _,Nat.le_refl _,rfl,HT2.out,hS,d2,H4.out⟩
    case round=>
     obtain ⟨done,f,h,stk,Sk,hdm,hf,rfl,hTk,hSk,dk,hk4⟩:=hrel;have HTk:=ae hTk;have HSk:=ae hSk;clear H4 HT2 hTk hSk;rw [Hm.out] at hdm hf;have co:=SO.out wr (aW hb h*(aL x Sk stk*aj Sk)) (hk4.to (by ac_rfl));have cb:=SB.out wr (aW hb h*(aL x Sk stk*aj Sk)) (hk4.to (by ac_rfl))
     by_cases hlt:done<m
     ·have hlt':(done:Int)<(m:Int):=by omega
      obtain ⟨f',rfl⟩:∃ f',f=f'+1:=⟨f-1,by omega⟩
      have hA:done<l.length:=by rw [Hm.out];exact hlt
      obtain ⟨k,hk⟩:∃ k,gY (l.length-done) (o+done)=k:=⟨_,rfl⟩
      have hk2:k=min (m-done) (480-(o+done)%480):=by rw [← hk,Hm.out];rfl
      obtain ⟨q,hq⟩:∃ q,(o+done)/480=q:=⟨_,rfl⟩
      obtain ⟨r,hr⟩:∃ r,(o+done)%480=r:=⟨_,rfl⟩
      have hq256:q<256:=by omega
      have hr480:r<480:=by omega
      rw [hr] at hk2;have hk1:1≤k:=by omega
      have hkm:done+k≤m:=by omega
      have hkr:r+k≤480:=by omega
      have hquo:((o:Int)+(done:Int)).tdiv 480=(q:Int):=by rw [Int.tdiv_eq_ediv_of_nonneg (by omega)];omega
      have hrem:((o:Int)+(done:Int)).tmod 480=(r:Int):=by rw [Int.tmod_eq_emod_of_nonneg (by omega)];omega
      have hmin:(if (480:Int)-(r:Int)<((m-done:Nat):Int) then (480:Int)-(r:Int) else ((m-done:Nat):Int))=(k:Int):=by split <;> omega
      have hsub:(m:Int)-(done:Int)=((m-done:Nat):Int):=by omega
      have hop:=mm x hc hn wr Sk stk hb h q (k == 480) G hq256 hk4;obtain ⟨⟨r2,st2⟩,hp2⟩:∃ p,lC x.c.ask x.n h q (k == 480) stk=p:=⟨_,rfl⟩
      rw [hp2] at hop;have hp3:lC x.c.ask x.n h ((o+done)/480) (gY (l.length-done) (o+done) == 480) stk=(r2,st2):=by rw [hq,hk];exact hp2
      have hwhole:((k:Int) == 480)=(k == 480):=by
       by_cases h9:k=480
       ·subst h9;rfl
       ·rw [beq_eq_false_iff_ne.2 h9,beq_eq_false_iff_ne.2 (by omega)]
      have hop2:=hop;rw [← hwhole] at hop2
      cases r2 with
      | bad cN=>
       have HN:=ae ((WM.bG (Qr hA hp3)).symm.trans HTk.out);clear hp2 hp3 hk2 hq hr hk hop hwhole
       go_wp2_with fail
       (with_reducible refine hop2.mono ?_)
       rintro e w4 ⟨S2,h',hS2,d4,rfl,h6⟩
       go_wp2_with fail
       exact ⟨rfl,HQ.out _ _ (by rw [HE.out,← HN.out];exact ⟨S2,HSk.out.trans hS2,dk.trans d4,rfl,h6.right⟩)⟩
      | ok p=>
       obtain ⟨h',b,L⟩:=p
       have HN0:=ae (show (WM.bind (xy (vZ x.c.ask x.n o l f') done o k l (h',b,L)) (EW o l)) st2=T from by
        rw [← hk];exact (nJ (Qw hA hp3)).symm.trans HTk.out)
       clear hp2 hp3 hk2 hq hk hop hwhole
       go_wp2_with fail
       (with_reducible refine hop2.mono ?_)
       rintro e w4 ⟨S2,v4,hS2,d4,hL,rfl,h6⟩;dsimp only at hL h6 ⊢;have HL:=ae hL;obtain ⟨ga,ca,cur,rfl,a1,a2,a3,a4,a5,a6⟩:=qe h6 (by rw [hL];decide);have rd:=(SR.out w4 (bs 5 (.slice (some ⟨ga,0,none⟩) L.length ca) L*(aW hb h'*(aL x S2 st2*aj S2))) (h6.to (by ac_rfl)))
       obtain ⟨-,(⟨-,h9⟩|⟨va',c',e,ha⟩)⟩:=rd
       ·exact absurd h9 (by rw [Hm.out];omega)
       simp only [Value.slice.injEq] at e;obtain ⟨rfl,-,rfl⟩:=e;obtain ⟨part,hpt⟩:∃ part,(l.drop done).take k=part:=⟨_,rfl⟩
       have hpl:part.length=k:=by rw [← hpt,List.length_take,List.length_drop,Hm.out];omega
       have h7:=(a6 r part (by rw [hpl,hL];omega)).1
       have hcp:=fun ty=>run_copy_row (P:=Tryz.prog) w4 37 37 ty 5 ga r (480-r) (ca-r) (va'.add done) k (cap-done) cur 5 (part.map SL.u8) Tryz.underlying37 xV a4
        (by rw [List.length_map,hpl];exact (Nat.min_eq_left (by omega)).symm)
        (fun j v hv=>by
         have hj:j<k:=by rw [← hpl];simpa using (List.getElem?_eq_some_iff.1 hv).1
         rw [Addr.add_add];refine ha (done+j) v ?_;rw [← hv,← hpt,List.getElem?_map,List.getElem?_map,List.getElem?_take,if_pos hj,List.getElem?_drop])
        (by rw [List.length_map,hpl,a3];omega) (pT _)
       rw [List.length_map,hpl] at hcp;obtain ⟨RW,hRW⟩:∃ RW,RW=(cur.toList.take r++part.map SL.u8++cur.toList.drop (r+(part.map SL.u8).length)).toArray:=⟨_,rfl⟩
       rw [← hRW] at h7;rw [List.length_map,hpl] at hRW;rw [← hRW] at hcp;have Hcp:=ae hcp;have hrd:=h7.nB;have hwr:=nY x _ S2 st2 b _ (putAt L r part) _ (h7.to (by ac_rfl:_=aL x S2 st2*(aj S2*(bs 5 (.slice (some ⟨ga,0,none⟩) L.length ca) (putAt L r part)*(aW hb h'*G))))) hrd;obtain ⟨⟨r3,st3⟩,hp3⟩:∃ p,bN b (putAt L r part) st2=p:=⟨_,rfl⟩
       have hK:∀ p,bN b (putAt L r part) st2=p→xy (vZ x.c.ask x.n o l f') done o k l (h',b,L) st2=match p with|(.ok _,st')=>vZ x.c.ask x.n o l f' (done+k) h' st'|(.bad c,st')=>(.bad c,st'):=by
        intro p hp;unfold xy WM.bind;dsimp only;rw [hr,hpt,hp]
        cases p with
        | mk a c=>cases a <;> rfl
       have hK2:=hK _ hp3;rw [hp3] at hwr;have hln:(putAt L r part).length=480:=by rw [gL (by rw [hpl,HL.out];omega)];exact HL.out
       rw [HL.out] at hwr a1 ⊢;have Hwr:=ae hwr;have D5:=ae ((dk.trans d4).setRow ga RW);clear hop2 h6 h7 hcp hRW hrd hwr ha a2 a3 a4 a5 a6 hK hp3 hL hpl hpt hr hln cb
       go_wp2_with (refine eU (Hcp.out _) _ _ rfl rfl rfl rfl rfl ?_)
       generalize w4.setRow ga RW=w5 at *;clear Hcp;refine Hwr.out.mono ?_
       cases r3 with
       | bad cN=>
        have HN:=ae ((WM.bG hK2).symm.trans HN0.out);rintro e w6 ⟨S6,hS6,d6,rfl,h8⟩
        go_wp2_with fail
        exact ⟨rfl,HQ.out _ _ (by rw [HE.out,← HN.out];exact ⟨S6,(HSk.out.trans hS2).trans hS6,D5.out.trans d6,rfl,(h8.to (by ac_rfl:_=(bs 5 (.slice (some ⟨ga,0,none⟩) 480 ca) (putAt L r part)*aW hb h')*(aL x S6 st3*(aj S6*G)))).right⟩)⟩
       | ok u=>
        have HN:=ae ((nJ hK2).symm.trans HN0.out);rintro e w6 ⟨S6,v6,hS6,d6,rfl,h8⟩;obtain ⟨rfl,h9⟩:=Sat.ak.1 h8;clear h8
        go_wp2_with fail
        go_roundw
        case rel=>exact ⟨done+k,f',h',st3,S6,by rw [Hm.out];omega,by rw [Hm.out];omega,by go_num,HN.out,(HSk.out.trans hS2).trans hS6,D5.out.trans d6,(h9.to (by ac_rfl:_=bs 5 (.slice (some ⟨ga,0,none⟩) 480 ca) (putAt L r part)*(aW hb h'*(aL x S6 st3*(aj S6*G))))).right⟩
        case measure=>simp [intOf];omega
     ·obtain rfl:done=m:=by omega
      have HN0:=ae (show EW o l h stk=T from (WM.aZ (Lk (by rw [Hm.out];exact Nat.le_refl _) stk)).symm.trans HTk.out);have hf:=Sat.xi hk4;have c3:=(gD hk4 (j:=3) (by decide)).1;have f3:=(gD hk4 (j:=3) (by decide)).2;rw [show h.l.getD 3 0=h.n.sz from rfl] at c3;obtain ⟨z,hz⟩:∃ z,max h.n.sz ((o+l.length:Nat):Int)=z:=⟨_,rfl⟩
      have h20:=(ub (h':=h.lL z) hk4 (j:=3) (z:=z) hf rfl).drew;have D20:=ae (dk.setCell ⟨hb,3,none⟩ (.int .i64 z)).drew;have hsv:=qy x _ Sk stk hb (h.lL z) _ h20;obtain ⟨⟨r6,st6⟩,hp6⟩:∃ p,dS (h.lL z) stk=p:=⟨_,rfl⟩
      rw [hp6] at hsv;have HN:=ae (show (r6,st6)=T by rw [← HN0.out,← hp6,← hz];rfl);have hwr:IntKind.i64.wrap ((o:Int)+(done:Int))=(o:Int)+(done:Int):=by rw [IntKind.wrap_i64];omega
      have hz2:(if h.n.sz<IntKind.i64.wrap ((o:Int)+(done:Int)) then IntKind.i64.wrap ((o:Int)+(done:Int)) else h.n.sz)=z:=by rw [hwr,← hz,Hm.out];split <;> omega
      have Hz2:=ae hz2;have Hsv:=ae hsv;have H20:=ae h20;have hlt':¬ (done:Int)<(done:Int):=by omega
      clear hf h20 hsv hp6 hz hk4 HN0 hwr hz2;generalize h.n.sz=sz at *
      go_wp2_with fail
      go_region_law (fail)
      all_goals
       rw [Hz2.out];generalize (wr.setCell ⟨hb,3,none⟩ (.int .i64 z)).drew=w20 at *
       cases r6 with
       | bad cN=>
        go_wp2_with fail
        refine Hsv.out.mono ?_;rintro e w22 ⟨S6,hS6,d6,rfl,h23⟩
        go_wp2_with fail
        exact ⟨rfl,HQ.out _ _ (by rw [HE.out,← HN.out];exact ⟨S6,HSk.out.trans hS6,D20.out.trans d6,rfl,(h23.to (by ac_rfl:_=aW hb (h.lL z)*(aL x S6 st6*(aj S6*G)))).right⟩)⟩
       | ok u6=>
        go_wp2_with fail
        refine Hsv.out.mono ?_;rintro e w22 ⟨S6,v6,hS6,d6,rfl,h23⟩;obtain ⟨rfl,h24⟩:=Sat.ak.1 h23
        go_wp2_with fail
        go_end0
        exact HQ.out _ _ (by rw [HE.out,← HN.out];exact ⟨S6,_,HSk.out.trans hS6,D20.out.trans d6,rfl,Sat.ak.2 ⟨rfl,(h24.to (by ac_rfl:_=aW hb (h.lL z)*(aL x S6 st6*(aj S6*G)))).right⟩⟩)
  ·have hT:T=(.bad 1,st1):=by rw [← HT.out];exact if_neg hz
   have HT2:=ae hT;rw [Hm.out] at hz;clear hT HT
   by_cases hz1:0≤off
   ·by_cases hz2:(m:Int)≤4096
    ·have hz4:¬ off≤122880-(m:Int):=fun h9=>hz ⟨hz1,by omega,h9⟩
     have hz3:decide (off≤122880-(m:Int))=false:=decide_eq_false hz4;clear hz hz4
     go_wp2_with fail
     (with_reducible refine (iB w2).mono ?_)
     rintro e w4 ⟨rfl,rfl⟩
     go_wp2_with fail
     exact ⟨rfl,HQ.out _ _ (by rw [HE.out,HT2.out];exact ⟨S',hS,d2,rfl,H4.out.right⟩)⟩
    ·clear hz
     go_wp2_with fail
     (with_reducible refine (iB w2).mono ?_)
     rintro e w4 ⟨rfl,rfl⟩
     go_wp2_with fail
     exact ⟨rfl,HQ.out _ _ (by rw [HE.out,HT2.out];exact ⟨S',hS,d2,rfl,H4.out.right⟩)⟩
   ·have hz2:off<0:=by omega
    clear hz
    go_wp2_with fail
    (with_reducible refine (iB w2).mono ?_)
    rintro e w4 ⟨rfl,rfl⟩
    go_wp2_with fail
    exact ⟨rfl,HQ.out _ _ (by rw [HE.out,HT2.out];exact ⟨S',hS,d2,rfl,H4.out.right⟩)⟩
end
section
variable {σ α:Type}
abbrev dh (mb n:Nat):Obj:=.cells #[.pointer (some ⟨mb,0,none⟩),.int .i64 (n:Int)] 83 (0,0)
def KI:Value:=.agg #[.int .i64 0,.int .i64 0,.int .i64 0,.int .i64 0,.int .i64 0,.int .i64 0,.int .i64 0,.int .i64 0,.int .i64 0,.int .i64 0,.int .i64 0,.int .i64 0,.int .i64 0,.int .i64 0,.int .i64 0,.int .i64 0,.int .i64 0,.int .i64 0,.int .i64 0,.int .i64 0]
def QY:Rs Nat→Value
 | .ok a=>.int .i64 (a:Int)
 | .bad _=>.int .i64 0
def Ru (c:Cx σ) (mb:Nat) (S:Hp) (F:ah) (w:World) (p:Rs Nat × gW σ) (e:Ending) (w':World):Prop:=
 ∃ S',Ext S S'∧ai w w'∧e = .returned (.tuple #[QY p.1,.int .i64 p.1.code])∧Sat w' (cC c S' mb p.2*(aj S'*F))
theorem DN (c:Cx σ) (hc:c.Ok) (n:Nat) (hn1:4≤n) (hn2:n≤3840) (mb:Nat) (M:gW σ) (w:World) (S:Hp)  (F:ah) (h:Sat w (cC c S mb M*(aj S*(F)))) :
  Calls Tryz.prog 64 #[gm mb n] w (Lb c mb S F w (eh (iA c.ask) M)):=by
 refine aI fun Q HQ=>?_;obtain ⟨p,hp⟩:∃ p,eh (iA c.ask) M=p:=⟨_,rfl⟩
 rw [hp] at HQ;have hmf:=nV Tryz.prog;have hrun:=fun  w F h=>Bf c hc n hn1 hn2 117 #[] (emp) (iA c.ask) (fun args w=>enters Tryz.func117 (by kernel_rfl) rfl args w) (BL hc) mb M w S F h;rw [hp] at hrun;have Hrun:=ae hrun;have hA:=(h.alloc (dh mb n))
 have dA:=((ai.refl w).alloc (dh mb n))
 have hB:Sat (w.alloc (dh mb n)) (cC c S mb M*(aj S*((emp)*(pt w.heap.size (dh mb n)*F)))):=(Sat.lP hA).to (by unfold dh;ac_rfl);have HB:=ae hB;clear hA hB hrun h;unfold gm
 go_enter Tryz.func64,Tryz.ntmps64
 go_wp2_with fail
 refine Hrun.out _ _ HB.out _ ?_;clear Hrun HB;generalize hw1:(w.alloc (dh mb n))=w1 at *;generalize w.heap.size=b0 at *;rintro e w2 ⟨S2,hS,d2,rfl,h2⟩;have h3:=ae (h2.to (by ac_rfl:_=((emp*pt b0 (dh mb n)))*(cC c S2 mb p.2*(aj S2*F)))).right;clear h2
 go_wp2_with fail
 try go_ret
 exact HQ.out _ _ ⟨S2,hS,dA.trans d2,rfl,h3.out⟩
theorem Oc (c:Cx σ) (hc:c.Ok) (n:Nat) (hn1:4≤n) (hn2:n≤3840) (mb:Nat) (M:gW σ) (w:World) (S:Hp) (kd:Int) (F:ah) (h:Sat w (cC c S mb M*(aj S*(F)))) :
  Calls Tryz.prog 68 #[gm mb n,.int .i64 kd] w (Ru c mb S F w (eh (uA c.ask n kd) M)):=by
 refine aI fun Q HQ=>?_;obtain ⟨p,hp⟩:∃ p,eh (uA c.ask n kd) M=p:=⟨_,rfl⟩
 rw [hp] at HQ;have hmf:=nV Tryz.prog;have hrun:=fun kdb w F h=>GG c hc n hn1 hn2 121 #[.pointer (some ⟨kdb,0,none⟩)] (bE kdb kd) (uA c.ask n kd) (fun args w=>enters Tryz.func121 (by kernel_rfl) rfl args w) (LR hc hn2 kd kdb) mb M w S F h;rw [hp] at hrun;have Hrun:=ae hrun;have hA:=((h.alloc (dh mb n)).alloc (.cells #[.int .i64 kd] 3 (0,0)))
 have dA:=(((ai.refl w).alloc (dh mb n)).alloc (.cells #[.int .i64 kd] 3 (0,0)))
 simp only [World.size_alloc] at hA;have hB:Sat ((w.alloc (dh mb n)).alloc (.cells #[.int .i64 kd] 3 (0,0))) (cC c S mb M*(aj S*((bE (w.heap.size+1) kd)*(pt w.heap.size (dh mb n)*F)))):=hA.to (by unfold bE;ac_rfl);have HB:=ae hB;clear hA hB hrun h;unfold gm
 go_enter Tryz.func68,Tryz.ntmps68
 go_wp2_with fail
 refine Hrun.out (w.heap.size+1) _ _ HB.out _ ?_;clear Hrun HB;generalize hw1:((w.alloc (dh mb n)).alloc (.cells #[.int .i64 kd] 3 (0,0)))=w1 at *;generalize w.heap.size+1=b1 at *;generalize w.heap.size=b0 at *;obtain ⟨r,M2⟩:=p
 cases r with
 | bad cN=>
  rintro e w2 ⟨S2,hS,d2,rfl,h2⟩;have h3:=ae (h2.to (by ac_rfl:_=(pt b0 (dh mb n)*bE b1 kd)*(cC c S2 mb M2*(aj S2*F)))).right;clear h2
  go_wp2_with fail
  try go_ret
  exact HQ.out _ _ ⟨S2,hS,dA.trans d2,rfl,h3.out⟩
 | ok a=>
  rintro e w2 ⟨S2,v,hS,d2,rfl,h2⟩;have h3:=ae (h2.to (by ac_rfl:_=(pt b0 (dh mb n)*bE b1 kd)*(Jc a v*(cC c S2 mb M2*(aj S2*F))))).right;clear h2;obtain ⟨rfl,h4⟩:=Sat.ak.1 h3.out
  go_wp2_with fail
  try go_ret
  exact HQ.out _ _ ⟨S2,hS,dA.trans d2,rfl,h4⟩
theorem GR (c:Cx σ) (hc:c.Ok) (n:Nat) (hn1:4≤n) (hn2:n≤3840) (mb:Nat) (M:gW σ) (w:World) (S:Hp) (node:Int) (d:Int) (F:ah) (h:Sat w (cC c S mb M*(aj S*(F)))) :
  Calls Tryz.prog 38 #[gm mb n,.int .i64 node,.int .i64 d] w (Lb c mb S F w (eh (j0 c.ask n node d) M)):=by
 refine aI fun Q HQ=>?_;obtain ⟨p,hp⟩:∃ p,eh (j0 c.ask n node d) M=p:=⟨_,rfl⟩
 rw [hp] at HQ;have hmf:=nV Tryz.prog;have hrun:=fun nodeb db w F h=>Bf c hc n hn1 hn2 81 #[.pointer (some ⟨nodeb,0,none⟩),.pointer (some ⟨db,0,none⟩)] (bE nodeb node*(bE db d)) (j0 c.ask n node d) (fun args w=>enters Tryz.func81 (by kernel_rfl) rfl args w) (Ey hc node d nodeb db) mb M w S F h;rw [hp] at hrun;have Hrun:=ae hrun;have hA:=(((h.alloc (dh mb n)).alloc (.cells #[.int .i64 node] 3 (0,0))).alloc (.cells #[.int .i64 d] 3 (0,0)))
 have dA:=((((ai.refl w).alloc (dh mb n)).alloc (.cells #[.int .i64 node] 3 (0,0))).alloc (.cells #[.int .i64 d] 3 (0,0)))
 simp only [World.size_alloc] at hA;have hB:Sat (((w.alloc (dh mb n)).alloc (.cells #[.int .i64 node] 3 (0,0))).alloc (.cells #[.int .i64 d] 3 (0,0))) (cC c S mb M*(aj S*((bE (w.heap.size+1) node*(bE (w.heap.size+1+1) d))*(pt w.heap.size (dh mb n)*F)))):=hA.to (by unfold bE;ac_rfl);have HB:=ae hB;clear hA hB hrun h;unfold gm
 go_enter Tryz.func38,Tryz.ntmps38
 go_wp2_with fail
 refine Hrun.out (w.heap.size+1) (w.heap.size+1+1) _ _ HB.out _ ?_;clear Hrun HB;generalize hw1:(((w.alloc (dh mb n)).alloc (.cells #[.int .i64 node] 3 (0,0))).alloc (.cells #[.int .i64 d] 3 (0,0)))=w1 at *;generalize w.heap.size+1+1=b2 at *;generalize w.heap.size+1=b1 at *;generalize w.heap.size=b0 at *;rintro e w2 ⟨S2,hS,d2,rfl,h2⟩;have h3:=ae (h2.to (by ac_rfl:_=(pt b0 (dh mb n)*bE b1 node*bE b2 d)*(cC c S2 mb p.2*(aj S2*F)))).right;clear h2
 go_wp2_with fail
 try go_ret
 exact HQ.out _ _ ⟨S2,hS,dA.trans d2,rfl,h3.out⟩
theorem DY (c:Cx σ) (hc:c.Ok) (n:Nat) (hn1:4≤n) (hn2:n≤3840) (mb:Nat) (M:gW σ) (w:World) (S:Hp) (node:Int) (off:Int) (cnt:Int) (F:ah) (h:Sat w (cC c S mb M*(aj S*(F)))) :
  Calls Tryz.prog 92 #[gm mb n,.int .i64 node,.int .i64 off,.int .i64 cnt] w (zv c mb (.slice none 0 0) fB S F w (eh (iU c.ask n node off cnt) M)):=by
 refine aI fun Q HQ=>?_;obtain ⟨p,hp⟩:∃ p,eh (iU c.ask n node off cnt) M=p:=⟨_,rfl⟩
 rw [hp] at HQ;have hmf:=nV Tryz.prog;have hrun:=fun nodeb offb cntb w F h=>sJ c hc n hn1 hn2 154 #[.pointer (some ⟨nodeb,0,none⟩),.pointer (some ⟨offb,0,none⟩),.pointer (some ⟨cntb,0,none⟩)] (bE nodeb node*(bE offb off*(bE cntb cnt))) (iU c.ask n node off cnt) (fun args w=>enters Tryz.func154 (by kernel_rfl) rfl args w) (BX hc hn2 node off cnt nodeb offb cntb) mb M w S F h;rw [hp] at hrun;have Hrun:=ae hrun;have hA:=((((h.alloc (dh mb n)).alloc (.cells #[.int .i64 node] 3 (0,0))).alloc (.cells #[.int .i64 off] 3 (0,0))).alloc (.cells #[.int .i64 cnt] 3 (0,0)))
 have dA:=(((((ai.refl w).alloc (dh mb n)).alloc (.cells #[.int .i64 node] 3 (0,0))).alloc (.cells #[.int .i64 off] 3 (0,0))).alloc (.cells #[.int .i64 cnt] 3 (0,0)))
 simp only [World.size_alloc] at hA;have hB:Sat ((((w.alloc (dh mb n)).alloc (.cells #[.int .i64 node] 3 (0,0))).alloc (.cells #[.int .i64 off] 3 (0,0))).alloc (.cells #[.int .i64 cnt] 3 (0,0))) (cC c S mb M*(aj S*((bE (w.heap.size+1) node*(bE (w.heap.size+1+1) off*(bE (w.heap.size+1+1+1) cnt)))*(pt w.heap.size (dh mb n)*F)))):=hA.to (by unfold bE;ac_rfl);have HB:=ae hB;clear hA hB hrun h;unfold gm
 go_enter Tryz.func92,Tryz.ntmps92
 go_wp2_with fail
 refine Hrun.out (w.heap.size+1) (w.heap.size+1+1) (w.heap.size+1+1+1) _ _ HB.out _ ?_;clear Hrun HB;generalize hw1:((((w.alloc (dh mb n)).alloc (.cells #[.int .i64 node] 3 (0,0))).alloc (.cells #[.int .i64 off] 3 (0,0))).alloc (.cells #[.int .i64 cnt] 3 (0,0)))=w1 at *;generalize w.heap.size+1+1+1=b3 at *;generalize w.heap.size+1+1=b2 at *;generalize w.heap.size+1=b1 at *;generalize w.heap.size=b0 at *;obtain ⟨r,M2⟩:=p
 cases r with
 | bad cN=>
  rintro e w2 ⟨S2,hS,d2,rfl,h2⟩;have h3:=ae (h2.to (by ac_rfl:_=(pt b0 (dh mb n)*bE b1 node*bE b2 off*bE b3 cnt)*(cC c S2 mb M2*(aj S2*F)))).right;clear h2
  go_wp2_with fail
  try go_ret
  exact HQ.out _ _ ⟨S2,hS,dA.trans d2,rfl,h3.out⟩
 | ok a=>
  rintro e w2 ⟨S2,v,hS,d2,rfl,h2⟩;have h3:=ae (h2.to (by ac_rfl:_=(pt b0 (dh mb n)*bE b1 node*bE b2 off*bE b3 cnt)*(fB a v*(cC c S2 mb M2*(aj S2*F))))).right;clear h2
  go_wp2_with fail
  try go_ret
  exact HQ.out _ _ ⟨S2,v,hS,dA.trans d2,rfl,h3.out⟩
theorem sw (c:Cx σ) (hc:c.Ok) (n:Nat) (hn1:4≤n) (hn2:n≤3840) (mb:Nat) (M:gW σ) (w:World) (S:Hp) (node:Int) (off:Int) (l:List UInt8) (va:Option Addr) (cap:Nat) (D:ah) (hD:∀ W P,Sat W (D*P)→Rd W (.slice va l.length cap) l) (hcap:l.length≤cap) (hbig:l.length≤1000000000000) (F:ah) (h:Sat w (cC c S mb M*(aj S*(D*F)))) :
  Calls Tryz.prog 42 #[gm mb n,.int .i64 node,.int .i64 off,.slice va l.length cap] w (Lb c mb S (D*F) w (eh (fW c.ask n node off l) M)):=by
 refine aI fun Q HQ=>?_;obtain ⟨p,hp⟩:∃ p,eh (fW c.ask n node off l) M=p:=⟨_,rfl⟩
 rw [hp] at HQ;have hmf:=nV Tryz.prog;have hrun:=fun nodeb offb vb w F h=>Bf c hc n hn1 hn2 88 #[.pointer (some ⟨nodeb,0,none⟩),.pointer (some ⟨offb,0,none⟩),.pointer (some ⟨vb,0,none⟩)] (bE nodeb node*(bE offb off*((KA vb (.slice va l.length cap)*D)))) (fW c.ask n node off l) (fun args w=>enters Tryz.func88 (by kernel_rfl) rfl args w) (yN hc hn2 node off l va cap D hD hcap hbig nodeb offb vb) mb M w S F h;rw [hp] at hrun;have Hrun:=ae hrun;have hA:=((((h.alloc (dh mb n)).alloc (.cells #[.int .i64 node] 3 (0,0))).alloc (.cells #[.int .i64 off] 3 (0,0))).alloc (.cells #[.slice va l.length cap] 37 (0,0)))
 have dA:=(((((ai.refl w).alloc (dh mb n)).alloc (.cells #[.int .i64 node] 3 (0,0))).alloc (.cells #[.int .i64 off] 3 (0,0))).alloc (.cells #[.slice va l.length cap] 37 (0,0)))
 simp only [World.size_alloc] at hA;have hB:Sat ((((w.alloc (dh mb n)).alloc (.cells #[.int .i64 node] 3 (0,0))).alloc (.cells #[.int .i64 off] 3 (0,0))).alloc (.cells #[.slice va l.length cap] 37 (0,0))) (cC c S mb M*(aj S*((bE (w.heap.size+1) node*(bE (w.heap.size+1+1) off*((KA (w.heap.size+1+1+1) (.slice va l.length cap)*D))))*(pt w.heap.size (dh mb n)*F)))):=hA.to (by unfold bE KA;ac_rfl);have HB:=ae hB;clear hA hB hrun h;unfold gm
 go_enter Tryz.func42,Tryz.ntmps42
 go_wp2_with fail
 refine Hrun.out (w.heap.size+1) (w.heap.size+1+1) (w.heap.size+1+1+1) _ _ HB.out _ ?_;clear Hrun HB;generalize hw1:((((w.alloc (dh mb n)).alloc (.cells #[.int .i64 node] 3 (0,0))).alloc (.cells #[.int .i64 off] 3 (0,0))).alloc (.cells #[.slice va l.length cap] 37 (0,0)))=w1 at *;generalize w.heap.size+1+1+1=b3 at *;generalize w.heap.size+1+1=b2 at *;generalize w.heap.size+1=b1 at *;generalize w.heap.size=b0 at *;rintro e w2 ⟨S2,hS,d2,rfl,h2⟩;have h3:=ae (h2.to (by ac_rfl:_=(pt b0 (dh mb n)*bE b1 node*bE b2 off*KA b3 (.slice va l.length cap))*(cC c S2 mb p.2*(aj S2*(D*F))))).right;clear h2
 go_wp2_with fail
 try go_ret
 exact HQ.out _ _ ⟨S2,hS,dA.trans d2,rfl,h3.out⟩
theorem pN {w:World} {tmps:Array Value} {a:Nat} {e:Value} {X:Array Value} {F:ah} (h4:tmps[4]?=some (ax a)) (h5:tmps[5]?=some e) (ha:Sat w (pt a (.cells X 73 (0,0))*F)) (hX:X.size=20) :
  (results Tryz.f91 tmps).run Tryz.prog w = .ok (.tuple #[.agg X,e]) w:=by
 have hl:=run_loadVar_row (P:=Tryz.prog) w a 73 73 X (0,0) _ ha.heap Tryz.underlying73 rfl (by rw [hX];exact aY);have hp:tmps.getD 4 undef = .pointer (some ⟨a,0,none⟩):=by simp [h4]
 have hp5:tmps.getD 5 undef=e:=by simp [h5]
 simp [results,Tryz.results91,h4,h5,asAddr,hl]
theorem Lx (c:Cx σ) (hc:c.Ok) (n:Nat) (hn1:4≤n) (hn2:n≤3840) (mb:Nat) (M:gW σ) (w:World) (S:Hp) (node:Int) (F:ah) (h:Sat w (cC c S mb M*(aj S*F))) :
  Calls Tryz.prog 91 #[gm mb n,.int .i64 node] w (zv c mb KI zk S F w (eh (pj c.ask n node) M)):=by
 refine aI fun Q HQ=>?_;obtain ⟨p,hp⟩:∃ p,eh (pj c.ask n node) M=p:=⟨_,rfl⟩
 rw [hp] at HQ;have hmf:=nV Tryz.prog;have hrun:=fun nodeb w F h=>G9 c hc n hn1 hn2 152 #[.pointer (some ⟨nodeb,0,none⟩)] (bE nodeb node) (pj c.ask n node) (fun args w=>enters Tryz.func152 (by kernel_rfl) rfl args w) (GU hc node nodeb) mb M w S F h;rw [hp] at hrun;have Hrun:=ae hrun;have hA:=(((h.alloc (dh mb n)).alloc (.cells #[.int .i64 node] 3 (0,0))).alloc (.cells #[.int .i64 0,.int .i64 0,.int .i64 0,.int .i64 0,.int .i64 0,.int .i64 0,.int .i64 0,.int .i64 0,.int .i64 0,.int .i64 0,.int .i64 0,.int .i64 0,.int .i64 0,.int .i64 0,.int .i64 0,.int .i64 0,.int .i64 0,.int .i64 0,.int .i64 0,.int .i64 0] 73 (0,0)))
 have dA:=((((ai.refl w).alloc (dh mb n)).alloc (.cells #[.int .i64 node] 3 (0,0))).alloc (.cells #[.int .i64 0,.int .i64 0,.int .i64 0,.int .i64 0,.int .i64 0,.int .i64 0,.int .i64 0,.int .i64 0,.int .i64 0,.int .i64 0,.int .i64 0,.int .i64 0,.int .i64 0,.int .i64 0,.int .i64 0,.int .i64 0,.int .i64 0,.int .i64 0,.int .i64 0,.int .i64 0] 73 (0,0)))
 simp only [World.size_alloc] at hA;have hB:Sat (((w.alloc (dh mb n)).alloc (.cells #[.int .i64 node] 3 (0,0))).alloc (.cells #[.int .i64 0,.int .i64 0,.int .i64 0,.int .i64 0,.int .i64 0,.int .i64 0,.int .i64 0,.int .i64 0,.int .i64 0,.int .i64 0,.int .i64 0,.int .i64 0,.int .i64 0,.int .i64 0,.int .i64 0,.int .i64 0,.int .i64 0,.int .i64 0,.int .i64 0,.int .i64 0] 73 (0,0))) (cC c S mb M*(aj S*(bE (w.heap.size+1) node*(pt (w.heap.size+1+1) (.cells #[.int .i64 0,.int .i64 0,.int .i64 0,.int .i64 0,.int .i64 0,.int .i64 0,.int .i64 0,.int .i64 0,.int .i64 0,.int .i64 0,.int .i64 0,.int .i64 0,.int .i64 0,.int .i64 0,.int .i64 0,.int .i64 0,.int .i64 0,.int .i64 0,.int .i64 0,.int .i64 0] 73 (0,0))*(pt w.heap.size (dh mb n)*F))))):=hA.to (by unfold bE;ac_rfl);have HB:=ae hB;clear hA hB hrun h;unfold gm
 go_enter Tryz.func91,Tryz.ntmps91
 go_wp2_with fail
 refine Hrun.out (w.heap.size+1) _ _ HB.out _ ?_;clear Hrun HB;generalize hw1:(((w.alloc (dh mb n)).alloc (.cells #[.int .i64 node] 3 (0,0))).alloc (.cells #[.int .i64 0,.int .i64 0,.int .i64 0,.int .i64 0,.int .i64 0,.int .i64 0,.int .i64 0,.int .i64 0,.int .i64 0,.int .i64 0,.int .i64 0,.int .i64 0,.int .i64 0,.int .i64 0,.int .i64 0,.int .i64 0,.int .i64 0,.int .i64 0,.int .i64 0,.int .i64 0] 73 (0,0)))=w1 at *;generalize w.heap.size+1+1=b2 at *;generalize w.heap.size+1=b1 at *;generalize w.heap.size=b0 at *;obtain ⟨r,M2⟩:=p;have hinfz:(Tryz.prog.info? 73).map (·.size)=some 20:=aY;have hfin:∀ (X:Array Value) (w2:World) (P:ah),X.size=20→Sat w2 (pt b2 (.cells #[.int .i64 0,.int .i64 0,.int .i64 0,.int .i64 0,.int .i64 0,.int .i64 0,.int .i64 0,.int .i64 0,.int .i64 0,.int .i64 0,.int .i64 0,.int .i64 0,.int .i64 0,.int .i64 0,.int .i64 0,.int .i64 0,.int .i64 0,.int .i64 0,.int .i64 0,.int .i64 0] 73 (0,0))*P)→Sat (w2.setRow b2 X) (pt b2 (.cells X 73 (0,0))*P):=fun X w2 P hX hS=>hS.setRow
 cases r with
 | bad cN=>
  rintro e w2 ⟨S2,hS,d2,rfl,h2⟩;have h3:=h2.to (by ac_rfl:_=pt b2 (.cells #[.int .i64 0,.int .i64 0,.int .i64 0,.int .i64 0,.int .i64 0,.int .i64 0,.int .i64 0,.int .i64 0,.int .i64 0,.int .i64 0,.int .i64 0,.int .i64 0,.int .i64 0,.int .i64 0,.int .i64 0,.int .i64 0,.int .i64 0,.int .i64 0,.int .i64 0,.int .i64 0] 73 (0,0))*((bE b1 node*pt b0 (dh mb n))*(cC c S2 mb M2*(aj S2*F))));have Hz:=ae h3.heap;have h4:=ae (hfin #[.int .i64 0,.int .i64 0,.int .i64 0,.int .i64 0,.int .i64 0,.int .i64 0,.int .i64 0,.int .i64 0,.int .i64 0,.int .i64 0,.int .i64 0,.int .i64 0,.int .i64 0,.int .i64 0,.int .i64 0,.int .i64 0,.int .i64 0,.int .i64 0,.int .i64 0,.int .i64 0] _ _ rfl h3);have Hone:Hid ((#[.int .i64 0,.int .i64 0,.int .i64 0,.int .i64 0,.int .i64 0,.int .i64 0,.int .i64 0,.int .i64 0,.int .i64 0,.int .i64 0,.int .i64 0,.int .i64 0,.int .i64 0,.int .i64 0,.int .i64 0,.int .i64 0,.int .i64 0,.int .i64 0,.int .i64 0,.int .i64 0]:Array Value).all (·.oneCell')=true):=C5;have D4:=ae ((dA.trans d2).setRow b2 #[.int .i64 0,.int .i64 0,.int .i64 0,.int .i64 0,.int .i64 0,.int .i64 0,.int .i64 0,.int .i64 0,.int .i64 0,.int .i64 0,.int .i64 0,.int .i64 0,.int .i64 0,.int .i64 0,.int .i64 0,.int .i64 0,.int .i64 0,.int .i64 0,.int .i64 0,.int .i64 0]);clear h2 h3 hfin
  go_wp2_with (refine wpList_store_row (by exact rfl) 73 (.tmp 4) (.tmp 9) (by exact rfl) b2 #[.int .i64 0,.int .i64 0,.int .i64 0,.int .i64 0,.int .i64 0,.int .i64 0,.int .i64 0,.int .i64 0,.int .i64 0,.int .i64 0,.int .i64 0,.int .i64 0,.int .i64 0,.int .i64 0,.int .i64 0,.int .i64 0,.int .i64 0,.int .i64 0,.int .i64 0,.int .i64 0] (by exact rfl) (by exact rfl) 73 _ (by with_reducible exact Hz.out) hinfz (by rfl) Hone.out ?_)
  exact bodyPost_ret (pN rfl rfl h4.out rfl) rfl (HQ.out _ _ ⟨S2,hS,D4.out,rfl,h4.out.right.right⟩)
 | ok a=>
  rintro e w2 ⟨S2,v,hS,d2,rfl,h2⟩;obtain ⟨⟨rfl,h16⟩,h2b⟩:=Sat.ak.1 h2;have h3:=h2b.to (by ac_rfl:_=pt b2 (.cells #[.int .i64 0,.int .i64 0,.int .i64 0,.int .i64 0,.int .i64 0,.int .i64 0,.int .i64 0,.int .i64 0,.int .i64 0,.int .i64 0,.int .i64 0,.int .i64 0,.int .i64 0,.int .i64 0,.int .i64 0,.int .i64 0,.int .i64 0,.int .i64 0,.int .i64 0,.int .i64 0] 73 (0,0))*((bE b1 node*pt b0 (dh mb n))*(cC c S2 mb M2*(aj S2*F))));have hX:(ints a.l).size=20:=by rw [dw,Nd.cells h16]
  have Hz:=ae h3.heap;have h4:=ae (hfin (ints a.l) _ _ hX h3);have Hone:Hid ((ints a.l).all (·.oneCell')=true):=by simp [RowKit.Hid,ints,Value.oneCell']
  have Hinf:Hid ((Tryz.prog.info? 73).map (·.size)=some (ints a.l).size):=by show _=_;rw [hX];exact aY
  have D4:=ae ((dA.trans d2).setRow b2 (ints a.l));have HX:=ae hX;have H16:=ae h16;clear h2 h2b h3 hfin hX h16;unfold Nd.v
  go_wp2_with (refine wpList_store_row (by exact rfl) 73 (.tmp 4) (.tmp 9) (by exact rfl) b2 (ints a.l) (by exact rfl) (by exact rfl) 73 _ (by with_reducible exact Hz.out) Hinf.out (by rw [HX.out];rfl) Hone.out ?_)
  exact bodyPost_ret (pN rfl rfl h4.out HX.out) rfl (HQ.out _ _ ⟨S2,_,hS,D4.out,rfl,Sat.ak.2 ⟨⟨rfl,H16.out⟩,h4.out.right.right⟩⟩)
end
end Go.Fs
namespace Go.SL
open Go.RowKit
section
variable {σ α β:Type}
structure rN (ask:dx σ) (n:Nat) (V:Nat→List UInt8) (I:σ→Prop):Prop where
 len:∀ i,i<n→(V i).length=480
 ans:∀ (s:σ) (i:Nat),I s→i<n→(ask s (i:Int)).1=(0,V i)∧I (ask s (i:Int)).2
structure Good (n:Nat) (V:Nat→List UInt8) (I:σ→Prop) (b:gW σ):Prop where
 err:b.err=0
 inv:I b.s
 wr:∀ (i:Nat) l,i<n→aH b.W (i:Int)=some l→l.length=480
 rd:∀ (i:Nat) l,i<n→aH b.D (i:Int)=some l→l=V i
 keys:∀ p ∈ b.W,0≤p.1∧p.1<(n:Int)
def vw (V:Nat→List UInt8) (W:List (Int × List UInt8)) (i:Nat):List UInt8:=(aH W (i:Int)).getD (V i)
structure Aw where
 V:Nat→List UInt8
 B:List UInt8
structure Rel (n:Nat) (V0:Nat→List UInt8) (I:σ→Prop) (st:eV σ) (a:Aw):Prop where
 good:Good n V0 I st.b
 view:∀ i,0<i→i<n→vw V0 st.b.W i=a.V i
 bits:st.bits=some a.B∨(st.bits=none∧st.dt=false∧vw V0 st.b.W 0=a.B)
 dt:st.dt=false→vw V0 st.b.W 0=a.B
 len:a.B.length=480
def zB (V:Nat→List UInt8) (i:Nat) (l:List UInt8):Nat→List UInt8:=fun k=>if k=i then l else V k
theorem tl (V:Nat→List UInt8) (W:List (Int × List UInt8)) (i:Nat) (l:List UInt8) (k:Nat):vw V (SL.fw W (i:Int) l) k=if k=i then l else vw V W k:=by
 unfold vw;rw [ki]
 by_cases h:k=i
 ·subst h;rw [if_pos rfl,if_pos rfl];rfl
 ·rw [if_neg h,if_neg (by omega)]
theorem Good.LC {n:Nat} {V:Nat→List UInt8} {I:σ→Prop} {b:gW σ} {ask:dx σ} (hr:rN ask n V I) (h:Good n V I b) {i:Nat} (hi:i<n):(vw V b.W i).length=480:=by
 unfold vw
 cases hk:aH b.W (i:Int) with
 | some l=>exact h.wr i l hi hk
 | none=>exact hr.len i hi
def aP (n:Nat) (V0:Nat→List UInt8) (I:σ→Prop) (m:WM σ α) (a:Aw) (P:α→Aw→Prop) (E:Int→Prop):Prop:=
 ∀ st,Rel n V0 I st a→match m st with
  | (.ok x,st')=>∃ a',Rel n V0 I st' a'∧P x a'
  | (.bad c,st')=>I st'.b.s∧E c
variable {n:Nat} {V0:Nat→List UInt8} {I:σ→Prop} {ask:dx σ} {m:WM σ α} {a:Aw} {P:α→Aw→Prop} {E:Int→Prop}
theorem aP.bind {k:α→WM σ β} {R:β→Aw→Prop} (h:aP n V0 I m a P E) (hk:∀ x a',P x a'→aP n V0 I (k x) a' R E):aP n V0 I (WM.bind m k) a R E:=by
 intro st hst;have:=h st hst;unfold WM.bind
 match hm:m st,this with
 | (.ok x,st'),⟨a',h1,h2⟩=>exact hk x a' h2 st' h1
 | (.bad c,st'),h1=>exact h1
theorem aP.mono {P':α→Aw→Prop} {E':Int→Prop} (h:aP n V0 I m a P E) (hP:∀ x a',P x a'→P' x a') (hE:∀ c,E c→E' c):aP n V0 I m a P' E':=by
 intro st hst;have:=h st hst
 match hm:m st,this with
 | (.ok x,st'),⟨a',h1,h2⟩=>exact ⟨a',h1,hP _ _ h2⟩
 | (.bad c,st'),h1=>exact ⟨h1.1,hE _ h1.2⟩
theorem aP.pure {x:α} (h:P x a):aP n V0 I (WM.pure x) a P E:=fun st hst=>⟨a,hst,h⟩
theorem aP.bad {c:Int} (h:E c):aP n V0 I (fun st=>((.bad c,st):Rs α × eV σ)) a P E:=fun st hst=>⟨hst.good.inv,h⟩
theorem aP.congr {m':WM σ α} (h:aP n V0 I m' a P E) (e:∀ st,m st=m' st):aP n V0 I m a P E:=fun st hst=>by
 have:=h st hst;rw [← e st] at this;exact this
theorem BW (hr:rN ask n V0 I) {b:gW σ} (h:Good n V0 I b) {i:Nat} (hi:i<n) :
  ∃ b',fy ask b (i:Int)=((0,vw V0 b.W i),b')∧b'.W=b.W∧Good n V0 I b':=by
 unfold fy vw;rw [if_neg (by rw [h.err];simp)]
 cases hw:aH b.W (i:Int) with
 | some l=>exact ⟨b,rfl,rfl,h⟩
 | none=>
  cases hd:aH b.D (i:Int) with
  | some l=>exact ⟨b,by rw [h.rd i l hi hd];rfl,rfl,h⟩
  | none=>
   obtain ⟨h1,h2⟩:=hr.ans b.s i h.inv hi;refine ⟨{ b with D:=SL.fw b.D (i:Int) (V0 i),s:=(ask b.s (i:Int)).2 },?_,rfl,h.err,h2,h.wr,fun k l hk hl=>?_,h.keys⟩
   ·show qA ask b (i:Int)=_
    unfold qA;rw [h1];rfl
   ·rw [ki] at hl
    split at hl
    ·rename_i e;cases hl;congr 1;omega
    ·exact h.rd k l hk hl
theorem vo (hr:rN ask n V0 I) {st:eV σ} (h:Good n V0 I st.b) {i:Nat} (hi:i<n) :
  ∃ b',cS ask (i:Int) st=(.ok (vw V0 st.b.W i),{ st with b:=b' })∧b'.W=st.b.W∧Good n V0 I b':=by
 obtain ⟨b',h1,h2,h3⟩:=BW hr h hi;refine ⟨b',?_,h2,h3⟩;unfold cS;rw [h1];rw [if_neg (by simp),if_neg (by simp [h.LC hr hi])]
theorem aP.read (hr:rN ask n V0 I) {i:Nat} (h0:0<i) (hi:i<n):aP n V0 I (cS ask (i:Int)) a (fun l a'=>l=a.V i∧l.length=480∧a'=a) E:=by
 intro st hst;obtain ⟨b',h1,h2,h3⟩:=vo hr hst.good hi;rw [h1];refine ⟨a,⟨h3,fun k hk hk2=>?_,?_,fun hd=>?_,hst.len⟩,hst.view i h0 hi,hst.good.LC hr hi,rfl⟩
 ·show vw V0 b'.W k=_;rw [h2];exact hst.view k hk hk2
 ·show st.bits=_∨(st.bits=none∧st.dt=false∧vw V0 b'.W 0=_);rw [h2];exact hst.bits
 ·show vw V0 b'.W 0=_;rw [h2];exact hst.dt hd
theorem aP.write {i:Nat} {l:List UInt8} (h0:0<i) (hin:i<n) (hl:l.length=480):aP n V0 I (bN (i:Int) l) a (fun _ a'=>a'={ a with V:=zB a.V i l }) E:=by
 intro st hst
 have e:jw st.b.err (i:Int) l=0:=by
  unfold jw;rw [hst.good.err,if_neg (by simp),if_neg (by omega)]
 have e2:bN (i:Int) l st=(.ok (),{ st with b:={ st.b with W:=SL.fw st.b.W (i:Int) l } }):=if_pos e;rw [e2];refine ⟨{ a with V:=zB a.V i l },⟨⟨hst.good.err,hst.good.inv,fun k l' hk h'=>?_,hst.good.rd,fun p hp=>(xK hp).elim (fun e=>by rw [e];exact ⟨by omega,by omega⟩) (hst.good.keys p)⟩,fun k hk hk2=>?_,?_,fun hd=>?_,hst.len⟩,rfl⟩
 ·have h'':aH (SL.fw st.b.W (i:Int) l) (k:Int)=some l':=h'
  rw [ki] at h''
  split at h''
  ·cases h'';exact hl
  ·exact hst.good.wr k l' hk h''
 ·show vw V0 (SL.fw st.b.W (i:Int) l) k=zB a.V i l k
  rw [tl];unfold zB
  split
  ·rfl
  ·exact hst.view k hk hk2
 ·rcases hst.bits with h|⟨h,h1,h2⟩
  ·exact .inl h
  ·refine .inr ⟨h,h1,?_⟩
   show vw V0 (SL.fw st.b.W (i:Int) l) 0=a.B
   rw [tl,if_neg (by omega)];exact h2
 ·show vw V0 (SL.fw st.b.W (i:Int) l) 0=a.B
  rw [tl,if_neg (by omega)];exact hst.dt hd
theorem aP.bits (hr:rN ask n V0 I) (h0:0<n):∀ st,Rel n V0 I st a→∃ st',kG ask st=(.ok a.B,st')∧Rel n V0 I st' a∧st'.bits=some a.B:=by
 intro st hst;unfold kG;rcases hst.bits with h|⟨h,h1,h2⟩
 ·rw [h];exact ⟨st,rfl,hst,h⟩
 ·rw [h]
  obtain ⟨b',e1,e2,e3⟩:=vo hr hst.good h0;have e1':cS ask 0 st=(.ok (vw V0 st.b.W 0),{ st with b:=b' }):=e1;dsimp only;rw [e1',h2];refine ⟨_,rfl,⟨e3,fun k hk hk2=>?_,.inl rfl,fun hd=>?_,hst.len⟩,rfl⟩
  ·show vw V0 b'.W k=_;rw [e2];exact hst.view k hk hk2
  ·show vw V0 b'.W 0=_;rw [e2];exact h2
theorem aP.mark (hr:rN ask n V0 I) (h0:0<n) {id:Nat} {t:Bool}:aP n V0 I (fq ask id t) a (fun _ a'=>a'={ a with B:=dV a.B id t }) E:=by
 intro st hst;obtain ⟨st',h1,h2,h3⟩:=aP.bits hr h0 st hst;have e:fq ask id t st=xC id t a.B st':=WM.aZ h1;rw [e];unfold xC;exact ⟨{ a with B:=dV a.B id t },⟨h2.good,h2.view,.inl rfl,fun hd=>by simp at hd,by rw [eJ];exact h2.len⟩,rfl⟩
theorem aP.take (hr:rN ask n V0 I) (h0:0<n) (hE:eL a.B n=none→E 7):aP n V0 I (ib ask n) a (fun k a'=>eL a.B n=some k∧a'={ a with B:=dV a.B k true }) E:=by
 intro st hst;obtain ⟨st',h1,h2,h3⟩:=aP.bits hr h0 st hst;have e:ib ask n st=pU n a.B st':=WM.aZ h1;rw [e];unfold pU
 cases hf:eL a.B n with
 | none=>exact ⟨h2.good.inv,hE hf⟩
 | some k=>exact ⟨{ a with B:=dV a.B k true },⟨h2.good,h2.view,.inl rfl,fun hd=>by simp at hd,by rw [eJ];exact h2.len⟩,rfl,rfl⟩
def Kq (V0:Nat→List UInt8) (M:gW σ):Aw:=⟨vw V0 M.W,vw V0 M.W 0⟩
theorem Rel.start (hr:rN ask n V0 I) (h0:0<n) {M:gW σ} (h:Good n V0 I M):Rel n V0 I ⟨M,none,false⟩ (Kq V0 M):=
 ⟨h,fun _ _ _=>rfl,.inr ⟨rfl,rfl,rfl⟩,fun _=>rfl,h.LC hr h0⟩
theorem aP.run (hr:rN ask n V0 I) (h0:0<n) {M:gW σ} (hM:Good n V0 I M) (h:aP n V0 I m (Kq V0 M) P E) :
  (∃ x M' a',eh m M=(.ok x,M')∧Good n V0 I M'∧P x a'∧vw V0 M'.W 0=a'.B∧∀ i,0<i→i<n→vw V0 M'.W i=a'.V i) ∨
  (∃ c s',eh m M=(.bad c,{ M with s:=s' })∧I s'∧E c):=by
 have h1:=h _ (Rel.start hr h0 hM)
 match hm:m ⟨M,none,false⟩,h1 with
 | (.ok x,st'),⟨a',h2,h3⟩=>
  cases hd:st'.dt with
  | false=>exact .inl ⟨x,st'.b,a',mz hm hd,h2.good,h3,h2.dt hd,h2.view⟩
  | true=>
   have hb:st'.bits=some a'.B:=by
    rcases h2.bits with hb|⟨_,hb,_⟩
    ·exact hb
    ·rw [hd] at hb;cases hb
   have e:jw st'.b.err 0 (st'.bits.getD [])=0:=by
    unfold jw;rw [h2.good.err,if_neg (by simp),hb];simp [h2.len]
   have e2:bN 0 (st'.bits.getD []) st'=(.ok (),{ st' with b:={ st'.b with W:=SL.fw st'.b.W 0 (st'.bits.getD []) } }):=if_pos e;refine .inl ⟨x,_,a',oP hm hd e2,⟨h2.good.err,h2.good.inv,fun k l' hk h'=>?_,h2.good.rd,fun p hp=>(xK hp).elim (fun e=>by rw [e];exact ⟨by omega,by omega⟩) (h2.good.keys p)⟩,h3,?_,fun k hk hk2=>?_⟩
   ·have h'':aH (SL.fw st'.b.W ((0:Nat):Int) (st'.bits.getD [])) (k:Int)=some l':=h'
    rw [ki] at h''
    split at h''
    ·cases h'';rw [hb];exact h2.len
    ·exact h2.good.wr k l' hk h''
   ·have:=tl V0 st'.b.W 0 (st'.bits.getD []) 0
    rw [if_pos rfl,hb] at this;rw [hb];exact this
   ·have:=tl V0 st'.b.W 0 (st'.bits.getD []) k
    rw [if_neg (by omega)] at this;exact this.trans (h2.view k hk hk2)
 | (.bad c,st'),h2=>exact .inr ⟨c,st'.b.s,kF hm,h2.1,h2.2⟩
end
theorem Ko (x:Int) (xs:List Int):jg (x :: xs)=cZ x 2++jg xs:=rfl
theorem y0 (l:List UInt8) (o m:Nat):bu l o (m+1)=ia (l.drop o) 2 :: bu l (o+2) m:=by
 simp only [bu,List.range_succ_eq_map,List.map_cons,List.map_map];congr 1;apply List.map_congr_left;intro i _;simp only [Function.comp,Nat.mul_succ];congr 2;omega
theorem sf (xs:List Int):∀ (pre rest:List UInt8),xs.all cP=true→bu (pre++(jg xs++rest)) pre.length xs.length=xs:=by
 induction xs with
 | nil=>intro pre rest _;rfl
 | cons x xs ih=>
  intro pre rest h;simp only [List.all_cons,Bool.and_eq_true] at h;rw [List.length_cons,y0,List.drop_left,Ko,List.append_assoc,lo x 2 _ 2 (Nat.le_refl _)];have hx:=iE h.1;have e:x%(256:Int) ^ 2=x:=by rw [show (256:Int) ^ 2=65536 by decide];omega
  rw [e];congr 1;have:=ih (pre++cZ x 2) rest h.2;rw [List.length_append,aS,List.append_assoc] at this;exact this
theorem G2 {n:Nd} (h16:n.dr.length=16):ic n=cZ n.kd 1++(cZ n.lk 2++(cZ n.sz 4++(jg n.dr++(cZ n.rw 2++zs 439)))):=by
 unfold ic MQ bJ;have hl:(jg [n.rw])=cZ n.rw 2:=by simp [jg]
 rw [hl];have hlen:(cZ n.kd 1++cZ n.lk 2++cZ n.sz 4++jg n.dr++cZ n.rw 2).length=41:=by simp [aS,iv,h16]
 rw [List.take_append,hlen,List.take_of_length_le (by omega)];have hz:(zs 480).take (480-41)=zs 439:=by unfold zs;rw [List.take_replicate];exact congrArg (fun m=>List.replicate m 0) (by decide)
 rw [hz];simp only [List.append_assoc]
theorem Jy {n:Nd} (h16:n.dr.length=16) (hok:n.ok=true):jA (ic n)=(n,0):=by
 have hf:=Nd.pE hok;obtain ⟨hk,l0,l1,s0,s1,hd,hr,-,-⟩:=hf;have hrr:=iE hr;rw [G2 h16];obtain ⟨kd,lk,sz,dr,rw'⟩:=n;dsimp only at *
 have e1:ia (cZ kd 1++(cZ lk 2++(cZ sz 4++(jg dr++(cZ rw' 2++zs 439))))) 1=kd:=by
  rw [lo kd 1 _ 1 (Nat.le_refl _),show (256:Int) ^ 1=256 by decide];omega
 have d1:(cZ kd 1++(cZ lk 2++(cZ sz 4++(jg dr++(cZ rw' 2++zs 439))))).drop 1=cZ lk 2++(cZ sz 4++(jg dr++(cZ rw' 2++zs 439))):=List.drop_left' (aS _ _)
 have d3:(cZ kd 1++(cZ lk 2++(cZ sz 4++(jg dr++(cZ rw' 2++zs 439))))).drop 3=cZ sz 4++(jg dr++(cZ rw' 2++zs 439)):=by
  rw [show 3=1+2 from rfl,← List.drop_drop,d1];exact List.drop_left' (aS _ _)
 have d7:(cZ kd 1++(cZ lk 2++(cZ sz 4++(jg dr++(cZ rw' 2++zs 439))))).drop 7=jg dr++(cZ rw' 2++zs 439):=by
  rw [show 7=3+4 from rfl,← List.drop_drop,d3];exact List.drop_left' (aS _ _)
 have d39:(cZ kd 1++(cZ lk 2++(cZ sz 4++(jg dr++(cZ rw' 2++zs 439))))).drop 39=cZ rw' 2++zs 439:=by
  rw [show 39=7+32 from rfl,← List.drop_drop,d7];exact List.drop_left' (by rw [iv,h16])
 have d41:(cZ kd 1++(cZ lk 2++(cZ sz 4++(jg dr++(cZ rw' 2++zs 439))))).drop 41=zs 439:=by
  rw [show 41=39+2 from rfl,← List.drop_drop,d39];exact List.drop_left' (aS _ _)
 have hp:bu (cZ kd 1++(cZ lk 2++(cZ sz 4++(jg dr++(cZ rw' 2++zs 439))))) 7 16=dr:=by
  have:=sf dr (cZ kd 1++(cZ lk 2++cZ sz 4)) (cZ rw' 2++zs 439) hd;rw [h16] at this;have e:(cZ kd 1++(cZ lk 2++cZ sz 4)).length=7:=by simp [aS]
  rw [e] at this;simpa only [List.append_assoc] using this
 have hn:gP (cZ kd 1++(cZ lk 2++(cZ sz 4++(jg dr++(cZ rw' 2++zs 439)))))=⟨kd,lk,sz,dr,rw'⟩:=by
  unfold gP;rw [e1,d1,d3,d39,hp,lo lk 2 _ 2 (Nat.le_refl _),lo sz 4 _ 4 (Nat.le_refl _),lo rw' 2 _ 2 (Nat.le_refl _)];have a1:lk%(256:Int) ^ 2=lk:=by rw [show (256:Int) ^ 2=65536 by decide];omega
  have a2:sz%(256:Int) ^ 4=sz:=by rw [show (256:Int) ^ 4=4294967296 by decide];omega
  have a3:rw'%(256:Int) ^ 2=rw':=by rw [show (256:Int) ^ 2=65536 by decide];omega
  rw [a1,a2,a3]
 unfold jA;rw [hn,d41,hok];have hz:(zs 439).all (· == 0)=true:=List.all_eq_true.2 fun x hx=>by rw [List.eq_of_mem_replicate hx];rfl
 rw [hz]
 rfl
theorem IE {l:List Int} (h:l.length=240) (hok:l.all cP=true):kq (jg l)=(l,0):=by
 have:=sf l [] [] hok;simp only [List.nil_append,List.append_nil,List.length_nil,h] at this;unfold kq;rw [this,hok]
 rfl
abbrev Own:=Nat × Nat × Nat
abbrev qj:Own:=(0,0,0)
abbrev Hu:Own:=(1,0,0)
abbrev Np:Own:=(2,0,0)
abbrev FU (id:Nat):Own:=(3,id,0)
abbrev C2 (id i:Nat):Own:=(4,id,i)
def eS {α:Type} (f:Nat→α) (k:Nat) (x:α):Nat→α:=fun b=>if b=k then x else f b
theorem bF {α:Type} (f:Nat→α) (k:Nat) (x:α):eS f k x k=x:=if_pos rfl
theorem aQ {α:Type} (f:Nat→α) {k b:Nat} (x:α) (h:b≠k):eS f k x b=f b:=if_neg h
def xQ (own:Nat→Own) (n:Nat):Nat:=(List.range n).countP fun b=>own b == qj
theorem tf (own:Nat→Own) (n:Nat):xQ own (n+1)=xQ own n+if own n=qj then 1 else 0:=by
 unfold xQ;rw [List.range_succ,List.countP_append];simp [List.countP_cons]
theorem Dv {own own':Nat→Own} {n:Nat} (h:∀ b,b<n→own b=own' b):xQ own n=xQ own' n:=by
 unfold xQ;apply List.countP_congr;intro b hb;rw [h b (List.mem_range.1 hb)]
theorem rZ {own:Nat→Own} {k:Nat} {x:Own}:∀ {n:Nat},k<n→xQ (eS own k x) n+(if own k=qj then 1 else 0)=xQ own n+if x=qj then 1 else 0
 | n+1,h=>by
  rw [tf,tf]
  by_cases hk:k=n
  ·subst hk
   rw [bF,Dv (own:=eS own k x) (own':=own) fun b hb=>aQ _ _ (by omega)];omega
  ·have:=rZ (own:=own) (x:=x) (show k<n by omega)
   rw [aQ _ _ (by omega:n≠k)];omega
structure Bm (n:Nat) (own:Nat→Own) (B:List UInt8):Prop where
 len:B.length=480
 bit:∀ b,b<n→(ea B b=true↔own b≠qj)
theorem Bm.set {n:Nat} {own:Nat→Own} {B:List UInt8} (h:Bm n own B) (hn:n≤3840) {k:Nat} (hk:k<n) (x:Own) (t:Bool) (ht:t=true↔x≠qj):Bm n (eS own k x) (dV B k t):=by
 refine ⟨by rw [eJ];exact h.len,fun b hb=>?_⟩;rw [uZ (by rw [h.len];omega)]
 by_cases hbk:b=k
 ·subst hbk;rw [if_pos rfl,bF];exact ht
 ·rw [if_neg hbk,aQ _ _ hbk];exact h.bit b hb
theorem Bm.qd {n:Nat} {own:Nat→Own} {B:List UInt8} (h:Bm n own B) {k:Nat} (hf:eL B n=some k):k<n∧own k=qj:=by
 unfold eL at hf;have h1:=List.mem_of_find?_eq_some hf;have h2:=List.find?_some hf;have hk:=List.mem_range.1 h1;refine ⟨hk,?_⟩;have:=(h.bit k hk)
 by_cases h9:own k=qj
 ·exact h9
 ·have h10:=this.2 h9
  rw [h10] at h2;simp at h2
theorem Bm.gF {n:Nat} {own:Nat→Own} {B:List UInt8} (h:Bm n own B) (hf:eL B n=none):xQ own n=0:=by
 unfold eL at hf;rw [List.find?_eq_none] at hf;unfold xQ;rw [List.countP_eq_zero];intro b hb h9;have hbn:=List.mem_range.1 hb;have h1:=hf b hb;have h2:own b=qj:=by simpa using h9
 have h3:=(h.bit b hbn)
 have h4:ea B b=true:=by
  cases hbb:ea B b with
  | true=>rfl
  | false=>rw [hbb] at h1;simp at h1
 exact h3.1 h4 h2
structure Hd.Ok (n id:Nat) (h:Hd):Prop where
 fit:h.fit
 id:h.id=id
 kd:h.n.kd=1∨h.n.kd=2
 L7:0≤h.n.lk
 lk1:h.n.lk≤65535
 sz0:0≤h.n.sz
 sz1:h.n.sz≤122880
 rw0:0≤h.n.rw
 rw1:h.n.rw<n
 pg:∀ i,i<256→0≤h.bg i∧h.bg i<n
 rz:h.n.rw=0→∀ i,16≤i→i<256→h.bg i=0
def fS (N:Nat→Option Hd) (b id:Nat):Prop:=∃ h,N id=some h∧h.n.rw=(b:Int)∧b≠0
def fT (N:Nat→Option Hd) (b id i:Nat):Prop:=∃ h,N id=some h∧i<256∧h.bg i=(b:Int)∧b≠0
structure jJ (n:Nat) (own:Nat→Own) (N:Nat→Option Hd):Prop where
 bm:∀ b,own b=Hu↔b=0
 out:∀ b,n≤b→own b=qj
 ok:∀ id h,N id=some h→0<id∧id<n∧h.Ok n id
 nd:∀ b,own b=Np↔(N b).isSome=true
 rw:∀ b id,own b=FU id↔fS N b id
 pg:∀ b id i,own b=C2 id i↔fT N b id i
section
variable {n id k i:Nat} {own:Nat→Own} {N:Nat→Option Hd} {h h':Hd}
theorem jJ.vX (L:jJ n own N) (hN:N id=some h):own id=Np:=(L.nd id).2 (by rw [hN];rfl)
theorem jJ.xX (L:jJ n own N) (hN:N id=some h) (h0:h.n.rw≠0):own h.n.rw.toNat=FU id:=by
 have:=(L.ok id h hN).2.2.rw0;exact (L.rw _ _).2 ⟨h,hN,by omega,by omega⟩
theorem jJ.Kk (L:jJ n own N) (hN:N id=some h) (hi:i<256) (h0:h.bg i≠0):own (h.bg i).toNat=C2 id i:=by
 have:=((L.ok id h hN).2.2.pg i hi).1;exact (L.pg _ _ _).2 ⟨h,hN,hi,by omega,by omega⟩
theorem jJ.zero (L:jJ n own N):own 0=Hu:=(L.bm 0).2 rfl
theorem jJ.iR (L:jJ n own N) (hk:own k=qj):k≠0:=by rintro rfl;rw [L.zero] at hk;cases hk
theorem jJ.gF (L:jJ n own N) (hk:own k=qj):N k=none:=by
 cases hN:N k with
 | none=>rfl
 | some h=>have:=L.vX hN;rw [hk] at this;cases this
theorem jJ.fw (L:jJ n own N) {x:Own} {N':Nat→Option Hd} (hk:k≠0) (hkn:k<n) (hx:x≠Hu) (hok:∀ id h,N' id=some h→0<id∧id<n∧h.Ok n id)
  (hnd:∀ b,b≠k→(N' b).isSome=(N b).isSome) (hnk:x=Np↔(N' k).isSome=true)
  (hrw:∀ b id,b≠k→(fS N' b id↔fS N b id)) (hrk:∀ id,x=FU id↔fS N' k id)
  (hpg:∀ b id i,b≠k→(fT N' b id i↔fT N b id i)) (hpk:∀ id i,x=C2 id i↔fT N' k id i):jJ n (eS own k x) N':=by
 refine ⟨fun b=>?_,fun b hb=>?_,hok,fun b=>?_,fun b id=>?_,fun b id i=>?_⟩
 ·by_cases hbk:b=k
  ·subst hbk;rw [bF];exact ⟨fun h=>absurd h hx,fun h=>absurd h hk⟩
  ·rw [aQ _ _ hbk];exact L.bm b
 ·rw [aQ _ _ (by omega)];exact L.out b hb
 ·by_cases hbk:b=k
  ·subst hbk;rw [bF];exact hnk
  ·rw [aQ _ _ hbk,hnd b hbk];exact L.nd b
 ·by_cases hbk:b=k
  ·subst hbk;rw [bF];exact hrk id
  ·rw [aQ _ _ hbk,hrw b id hbk];exact L.rw b id
 ·by_cases hbk:b=k
  ·subst hbk;rw [bF];exact hpk id i
  ·rw [aQ _ _ hbk,hpg b id i hbk];exact L.pg b id i
theorem Dh {N:Nat→Option Hd} {o:Option Hd} {id id':Nat} {g:Hd} (h:eS N id o id'=some g):(id'=id∧o=some g)∨(id'≠id∧N id'=some g):=by
 by_cases e:id'=id
 ·subst e;rw [bF] at h;exact .inl ⟨rfl,h⟩
 ·rw [aQ _ _ e] at h;exact .inr ⟨e,h⟩
theorem ku {N:Nat→Option Hd} {id b:Nat} (hN:N id=some h):(eS N id (some h') b).isSome=(N b).isSome:=by
 by_cases e:b=id
 ·subst e;rw [bF,hN];rfl
 ·rw [aQ _ _ e]
theorem qa (hN:N id=some h) {b id':Nat} (hs:b≠0→(h'.n.rw=(b:Int)↔h.n.rw=(b:Int))):fS (eS N id (some h')) b id'↔fS N b id':=by
 by_cases e:id'=id
 ·subst e
  unfold fS;rw [bF,hN];constructor
  ·rintro ⟨g,e,h1,h2⟩;cases e;exact ⟨h,rfl,(hs h2).1 h1,h2⟩
  ·rintro ⟨g,e,h1,h2⟩;cases e;exact ⟨h',rfl,(hs h2).2 h1,h2⟩
 ·unfold fS;rw [aQ _ _ e]
theorem qo (hN:N id=some h) {b id' j:Nat} (hs:j<256→b≠0→(h'.bg j=(b:Int)↔h.bg j=(b:Int))):fT (eS N id (some h')) b id' j↔fT N b id' j:=by
 by_cases e:id'=id
 ·subst e
  unfold fT;rw [bF,hN];constructor
  ·rintro ⟨g,e,hj,h1,h2⟩;cases e;exact ⟨h,rfl,hj,(hs hj h2).1 h1,h2⟩
  ·rintro ⟨g,e,hj,h1,h2⟩;cases e;exact ⟨h',rfl,hj,(hs hj h2).2 h1,h2⟩
 ·unfold fT;rw [aQ _ _ e]
theorem jJ.N7 (L:jJ n own N) (hN:N id=some h) (ho:h'.Ok n id):∀ id' g,eS N id (some h') id'=some g→0<id'∧id'<n∧g.Ok n id':=by
 intro id' g hg;rcases Dh hg with ⟨rfl,e⟩|⟨_,e⟩
 ·cases e;exact ⟨(L.ok _ _ hN).1,(L.ok _ _ hN).2.1,ho⟩
 ·exact L.ok _ _ e
theorem jJ.J1 (L:jJ n own N) {x:Own} (hk:own k=x) (hx:∀ id,x≠FU id):∀ id,¬ fS N k id:=fun id h=>hx id (hk.symm.trans ((L.rw k id).2 h))
theorem jJ.CR (L:jJ n own N) {x:Own} (hk:own k=x) (hx:∀ id i,x≠C2 id i):∀ id i,¬ fT N k id i:=fun id i h=>hx id i (hk.symm.trans ((L.pg k id i).2 h))
theorem jJ.new (L:jJ n own N) (hk:own k=qj) (hkn:k<n) (ho:h'.Ok n k) (hp:∀ i,i<256→h'.bg i=0) (hr:h'.n.rw=0):jJ n (eS own k Np) (eS N k (some h')):=by
 have hN:=L.gF hk;have hk0:=L.iR hk
 have hR:∀ b id,fS (eS N k (some h')) b id↔fS N b id:=by
  intro b id
  by_cases e:id=k
  ·subst e
   unfold fS;rw [bF,hN];constructor
   ·rintro ⟨g,e,h1,h2⟩;cases e;rw [hr] at h1;exact absurd h1 (by omega)
   ·rintro ⟨g,e,_⟩;cases e
  ·unfold fS;rw [aQ _ _ e]
 have hP:∀ b id i,fT (eS N k (some h')) b id i↔fT N b id i:=by
  intro b id i
  by_cases e:id=k
  ·subst e
   unfold fT;rw [bF,hN];constructor
   ·rintro ⟨g,e,hi,h1,h2⟩;cases e;rw [hp i hi] at h1;exact absurd h1 (by omega)
   ·rintro ⟨g,e,_⟩;cases e
  ·unfold fT;rw [aQ _ _ e]
 refine L.fw hk0 hkn (by decide) ?_ (fun b hb=>by rw [aQ _ _ hb]) (by rw [bF];simp) (fun b id _=>hR b id) (fun id=>?_) (fun b id i _=>hP b id i) (fun id i=>?_)
 ·intro id g hg
  rcases Dh hg with ⟨rfl,e⟩|⟨_,e⟩
  ·cases e;exact ⟨by omega,hkn,ho⟩
  ·exact L.ok _ _ e
 ·rw [hR]
  exact ⟨fun h=>absurd h (by simp),fun h=>absurd h (L.J1 hk (by simp) id)⟩
 ·rw [hP]
  exact ⟨fun h=>absurd h (by simp),fun h=>absurd h (L.CR hk (by simp) id i)⟩
theorem jJ.bg (L:jJ n own N) (hN:N id=some h) (hk:own k=qj) (hkn:k<n) (hi:i<256) (h0:h.bg i=0) (hr:16≤i→h.n.rw≠0):jJ n (eS own k (C2 id i)) (eS N id (some (h.put i (k:Int)))):=by
 have hk0:=L.iR hk;have ho:=(L.ok _ _ hN).2.2;have hpp:=fun j=>Hd.oO ho.fit hi (k:Int) j;have hR:∀ b id',fS (eS N id (some (h.put i (k:Int)))) b id'↔fS N b id':=fun b id'=>qa hN (by rw [Hd.qG];exact fun _=>Iff.rfl);refine L.fw hk0 hkn (by simp) (L.N7 hN ?_) (fun b _=>ku hN) ?_ (fun b id _=>hR b id) (fun id'=>?_) (fun b id' j hb=>qo hN fun hj=>?_) (fun id' j=>?_)
 ·refine ⟨Hd.CD ho.fit _ _,by rw [Hd.NL];exact ho.id,?_,?_,?_,?_,?_,by rw [Hd.qG];exact ho.rw0,by rw [Hd.qG];exact ho.rw1,fun j hj=>?_,fun h9 j hj1 hj2=>?_⟩
  ·unfold Hd.put;split <;> exact ho.kd
  ·unfold Hd.put;split <;> exact ho.L7
  ·unfold Hd.put;split <;> exact ho.lk1
  ·rw [Hd.Kg];exact ho.sz0
  ·rw [Hd.Kg];exact ho.sz1
  ·rw [hpp];split
   ·exact ⟨by omega,by omega⟩
   ·exact ho.pg j hj
  ·rw [Hd.qG] at h9
   rw [hpp,if_neg (by rintro rfl;exact hr hj1 h9)];exact ho.rz h9 j hj1 hj2
 ·have:(N k)=none:=L.gF hk
  rw [ku hN,this];simp
 ·rw [hR];exact ⟨fun h=>absurd h (by simp),fun h=>absurd h (L.J1 hk (by simp) id')⟩
 ·rw [hpp]
  intro hb0
  split
  ·rename_i e;subst e;rw [h0]
   exact ⟨fun h=>absurd (by omega) hb,fun h=>absurd h.symm (by omega)⟩
  ·exact Iff.rfl
 ·by_cases e:id'=id
  ·subst e
   by_cases ej:j=i
   ·subst ej
    exact ⟨fun _=>⟨_,bF _ _ _,hi,by rw [hpp,if_pos rfl],hk0⟩,fun _=>rfl⟩
   ·refine ⟨fun h=>absurd h (by simp;omega),fun h9=>?_⟩
    obtain ⟨g,e,hj,h1,h2⟩:=h9;rw [bF] at e;cases e
    rw [hpp,if_neg ej] at h1;exact absurd ⟨h,hN,hj,h1,h2⟩ (L.CR hk (by simp) _ _)
  ·refine ⟨fun h=>absurd h (by simp;omega),fun h9=>?_⟩
   obtain ⟨g,e2,h9⟩:=h9;rw [aQ _ _ e] at e2;exact absurd ⟨g,e2,h9⟩ (L.CR hk (by simp) _ _)
theorem jJ.row (L:jJ n own N) (hN:N id=some h) (hk:own k=qj) (hkn:k<n) (h0:h.n.rw=0):jJ n (eS own k (FU id)) (eS N id (some (h.iO (k:Int)))):=by
 have hk0:=L.iR hk;have ho:=(L.ok _ _ hN).2.2;have hP:∀ b id' j,fT (eS N id (some (h.iO (k:Int)))) b id' j↔fT N b id' j:=fun b id' j=>qo hN fun _ _=>Iff.rfl;refine L.fw hk0 hkn (by simp) (L.N7 hN ?_) (fun b _=>ku hN) ?_ (fun b id' hb=>qa hN fun hb0=>?_) (fun id'=>?_) (fun b id i _=>hP b id i) (fun id' j=>?_)
 ·exact ⟨ho.fit,ho.id,ho.kd,ho.L7,ho.lk1,ho.sz0,ho.sz1,show 0≤(k:Int) by omega,show (k:Int)<n by omega,ho.pg,fun h9=>absurd (show (k:Int)=0 from h9) (by omega)⟩
 ·rw [ku hN,L.gF hk];simp
 ·rw [h0];show (k:Int)=b↔_;constructor <;> intro h9 <;> omega
 ·by_cases e:id'=id
  ·subst e
   exact ⟨fun _=>⟨_,bF _ _ _,rfl,hk0⟩,fun _=>rfl⟩
  ·refine ⟨fun h=>absurd h (by simp;omega),fun h9=>?_⟩
   obtain ⟨g,e2,h9⟩:=h9;rw [aQ _ _ e] at e2;exact absurd ⟨g,e2,h9⟩ (L.J1 hk (by simp) _)
 ·rw [hP];exact ⟨fun h=>absurd h (by simp),fun h=>absurd h (L.CR hk (by simp) id' j)⟩
theorem jJ.set (L:jJ n own N) (hN:N id=some h) (ho:h'.Ok n id) (hr:h'.n.rw=h.n.rw) (hp:∀ i,i<256→h'.bg i=h.bg i):jJ n own (eS N id (some h')):=by
 refine ⟨L.bm,L.out,L.N7 hN ho,fun b=>?_,fun b id'=>?_,fun b id' j=>?_⟩
 ·rw [ku hN];exact L.nd b
 ·rw [qa hN fun _=>by rw [hr]];exact L.rw b id'
 ·rw [qo hN fun hj _=>by rw [hp j hj]];exact L.pg b id' j
end
def j9 (V:Nat→List UInt8) (h:Hd) (p:Nat):UInt8:=if h.bg (p/480)=0 then 0 else (V (h.bg (p/480)).toNat).getD (p%480) 0
structure yX (V:Nat→List UInt8) (h:Hd):Prop where
 dec:jA (V h.id)=(h.n,0)
 row:h.n.rw≠0→kq (V h.n.rw.toNat)=(h.row,0)
structure Hd.Fin (h:Hd):Prop where
 hi:∀ i:Nat,i<256→cJ h.n.sz≤i→h.bg i=0
 rwp:h.n.rw≠0→∃ i,16≤i∧i<256∧h.bg i≠0
def BB (V:Nat→List UInt8) (h:Hd):Prop:=∀ p:Nat,p<122880→h.n.sz≤p→j9 V h p=0
structure tA (n:Nat) (a:Aw) (own:Nat→Own) (N:Nat→Option Hd) (id:Nat):Prop where
 lay:jJ n own N
 bm:Bm n own a.B
 len:∀ b,0<b→b<n→(a.V b).length=480
 rest:∀ id' h,id'≠id→N id'=some h→h.Fin∧yX a.V h∧BB a.V h
section
variable {n id k i:Nat} {own:Nat→Own} {N:Nat→Option Hd} {h h':Hd} {a:Aw} {V V':Nat→List UInt8}
theorem jJ.Rt (L:jJ n own N):N 0=none:=by
 cases hN:N 0 with
 | none=>rfl
 | some h=>exact absurd (L.ok 0 h hN).1 (by omega)
theorem jy (V:Nat→List UInt8) (k:Nat) (l:List UInt8):zB V k l k=l:=if_pos rfl
theorem eY (V:Nat→List UInt8) {k b:Nat} (l:List UInt8) (h:b≠k):zB V k l b=V b:=if_neg h
theorem yX.frame (L:jJ n own N) (hN:N id=some h) (hs:yX V h) (hV:∀ b,b=id∨own b=FU id→V' b=V b):yX V' h:=by
 have ho:=(L.ok _ _ hN).2.2;refine ⟨?_,fun h0=>?_⟩
 ·rw [hV _ (.inl ho.id)];exact hs.dec
 ·rw [hV _ (.inr (L.xX hN h0))];exact hs.row h0
theorem mA (L:jJ n own N) (hN:N id=some h) (hV:∀ b i,own b=C2 id i→V' b=V b) {p:Nat} (hp:p<122880):j9 V' h p=j9 V h p:=by
 unfold j9
 split
 ·rfl
 ·rename_i h0
  rw [hV _ _ (L.Kk hN (by omega) h0)]
theorem BB.frame (L:jJ n own N) (hN:N id=some h) (ht:BB V h) (hV:∀ b i,own b=C2 id i→V' b=V b):BB V' h:=fun p h1 h2=>by
 rw [mA L hN hV h1];exact ht p h1 h2
def FE (own:Nat→Own) (id k:Nat):Prop:=own k=qj∨(own k=Np∧k=id)∨own k=FU id∨∃ i,own k=C2 id i
theorem sP {id':Nat} (L:jJ n own N) (hN:N id'=some h) (hne:id'≠id) (hm:FE own id k):k≠id'∧own k≠FU id'∧∀ i,own k≠C2 id' i:=by
 have:=L.vX hN;refine ⟨?_,?_,?_⟩
 ·rintro rfl
  rcases hm with h1|⟨_,h1⟩|h1|⟨i,h1⟩
  ·rw [this] at h1;cases h1
  ·exact hne h1
  ·rw [this] at h1;cases h1
  ·rw [this] at h1;cases h1
 ·intro h2
  rcases hm with h1|⟨h1,_⟩|h1|⟨i,h1⟩
  ·rw [h2] at h1;cases h1
  ·rw [h2] at h1;cases h1
  ·rw [h2] at h1;simp at h1;exact hne h1
  ·rw [h2] at h1;cases h1
 ·intro j h2
  rcases hm with h1|⟨h1,_⟩|h1|⟨i,h1⟩
  ·rw [h2] at h1;cases h1
  ·rw [h2] at h1;cases h1
  ·rw [h2] at h1;cases h1
  ·rw [h2] at h1;simp at h1;exact hne h1.1
theorem tA.Nj (S:tA n a own N id) {id':Nat} (hne:id'≠id) (hN:N id'=some h) (hV:∀ b,¬ FE own id b→V' b=a.V b):h.Fin∧yX V' h∧BB V' h:=by
 obtain ⟨h1,h2,h3⟩:=S.rest id' h hne hN;refine ⟨h1,h2.frame S.lay hN fun b hb=>hV b fun hm=>?_,h3.frame S.lay hN fun b i hb=>hV b fun hm=>?_⟩
 ·have:=sP S.lay hN hne hm
  rcases hb with rfl|hb
  ·exact this.1 rfl
  ·exact this.2.1 hb
 ·exact (sP S.lay hN hne hm).2.2 i hb
theorem vP (L:jJ n own N) {id':Nat} (hne:id'≠id) (hN:N id'=some h) (hV:∀ b,¬ FE own id b→V' b=V b) {p:Nat} (hp:p<122880):j9 V' h p=j9 V h p:=
 mA L hN (fun b i hb=>hV b fun hm=>(sP L hN hne hm).2.2 i hb) hp
theorem tA.fh (S:tA n a own N 0) (id:Nat):tA n a own N id:=⟨S.lay,S.bm,S.len,fun id' h hne hN=>S.rest id' h (by rintro rfl;rw [S.lay.Rt] at hN;cases hN) hN⟩
theorem tA.write (S:tA n a own N id) (hk:FE own id k) {l:List UInt8} (hl:l.length=480):tA n { a with V:=zB a.V k l } own N id:=by
 refine ⟨S.lay,S.bm,fun b h0 hb=>?_,fun id' h hne hN=>S.Nj hne hN fun b hm=>eY _ _ (by rintro rfl;exact hm hk)⟩
 by_cases e:b=k
 ·subst e;show (zB a.V b l b).length=480;rw [jy];exact hl
 ·show (zB a.V k l b).length=480;rw [eY _ _ e];exact S.len b h0 hb
theorem tA.step (S:tA n a own N id) {own':Nat→Own} {N':Nat→Option Hd} {B':List UInt8} (L':jJ n own' N') (hb:Bm n own' B') (hN:∀ id',id'≠id→N' id'=N id'):tA n { a with B:=B' } own' N' id:=
 ⟨L',hb,S.len,fun id' h hne hN'=>S.rest id' h hne ((hN id' hne).symm.trans hN')⟩
theorem Hd.Ok.ok (ho:h.Ok n id) (hn:n≤3840) (hf:h.Fin):h.n.ok=true:=by
 have hpg:∀ i,i<16→h.bg i=h.n.dr.getD i 0:=fun i hi=>by unfold Hd.bg;rw [if_pos hi]
 unfold Nd.ok
 have e1:h.n.dr.all cP=true:=by
  rw [List.all_eq_true];intro p hp;obtain ⟨i,hi,rfl⟩:=List.getElem_of_mem hp;have hi16:i<16:=by have:=ho.fit.1;omega
  have h1:=ho.pg i (by omega);have h2:=hpg i hi16;rw [List.getD,List.getElem?_eq_getElem hi] at h2;simp only [Option.getD_some] at h2;unfold cP;simp only [Bool.and_eq_true,decide_eq_true_eq];omega
 have e2:cP h.n.rw=true:=by
  have:=ho.rw0;have:=ho.rw1;unfold cP;simp only [Bool.and_eq_true,decide_eq_true_eq];omega
 have e3:(16<cJ h.n.sz)∨h.n.rw=0:=by
  by_cases h0:h.n.rw=0
  ·exact .inr h0
  ·obtain ⟨i,i1,i2,i3⟩:=hf.rwp h0
   left
   by_cases h9:cJ h.n.sz≤i
   ·exact absurd (hf.hi i i2 h9) i3
   ·omega
 have e4:((List.range 16).all fun i=>decide ((i:Int)<cJ h.n.sz) || decide (h.n.dr.getD i 0=0))=true:=by
  rw [List.all_eq_true];intro i hi;have hi:=List.mem_range.1 hi;simp only [Bool.or_eq_true,decide_eq_true_eq]
  by_cases h9:cJ h.n.sz≤i
  ·right;rw [← hpg i hi];exact hf.hi i (by omega) h9
  ·left;omega
 rw [e1,e2,e4];have:=ho.kd;have:=ho.L7;have:=ho.lk1;have:=ho.sz0;have:=ho.sz1;simp only [Bool.and_eq_true,Bool.or_eq_true,decide_eq_true_eq];exact ⟨⟨⟨⟨⟨⟨⟨⟨ho.kd,ho.L7⟩,ho.lk1⟩,ho.sz0⟩,ho.sz1⟩,trivial⟩,trivial⟩,e3⟩,trivial⟩
theorem Hd.Ok.row (ho:h.Ok n id) (hn:n≤3840):h.row.all cP=true∧h.row.all (fun x=>decide (x<n))=true:=by
 have key:∀ x ∈ h.row,0≤x∧x<n:=by
  intro x hx;obtain ⟨i,hi,rfl⟩:=List.getElem_of_mem hx;have h240:=ho.fit.2;have h1:=ho.pg (16+i) (by omega)
  have h2:h.bg (16+i)=h.row[i]:=by
   unfold Hd.bg;rw [if_neg (by omega),show 16+i-16=i by omega,List.getD,List.getElem?_eq_getElem hi];rfl
  omega
 constructor
 ·rw [List.all_eq_true];intro x hx;have:=key x hx;unfold cP;simp only [Bool.and_eq_true,decide_eq_true_eq];omega
 ·rw [List.all_eq_true];intro x hx;have:=key x hx;simp only [decide_eq_true_eq];omega
theorem Hd.Ok.dr (ho:h.Ok n id):h.n.dr.all (fun x=>decide (x<n))=true:=by
 rw [List.all_eq_true];intro x hx;obtain ⟨i,hi,rfl⟩:=List.getElem_of_mem hx;have h16:=ho.fit.1;have h1:=ho.pg i (by omega)
 have h2:h.bg i=h.n.dr[i]:=by
  unfold Hd.bg;rw [if_pos (by omega),List.getD,List.getElem?_eq_getElem hi];rfl
 simp only [decide_eq_true_eq];omega
theorem Hd.Ok.QP (ho:h.Ok n id) (h0:h.n.rw=0):h.row=List.replicate 240 0:=by
 rw [List.eq_replicate_iff];refine ⟨ho.fit.2,fun x hx=>?_⟩;obtain ⟨i,hi,rfl⟩:=List.getElem_of_mem hx;have h240:=ho.fit.2;have h1:=ho.rz h0 (16+i) (by omega) (by omega);unfold Hd.bg at h1;rw [if_neg (by omega),show 16+i-16=i by omega,List.getD,List.getElem?_eq_getElem hi] at h1;exact h1
end
section
variable {σ:Type} {n id:Nat} {own:Nat→Own} {N:Nat→Option Hd} {h:Hd} {a:Aw} {V0:Nat→List UInt8} {I:σ→Prop} {ask:dx σ} {E:Int→Prop}
theorem aP.within {l:List Int} (hl:l.all (fun x=>decide (x<n))=true):aP n V0 I (ed n l) a (fun _ a'=>a'=a) E:=
 aP.congr (m':=WM.pure ()) (aP.pure rfl) fun st=>by unfold ed WM.pure;rw [if_pos hl]
theorem aP.load (hr:rN ask n V0 I) (hn:n≤3840) (S:tA n a own N 0) (hN:N id=some h):aP n V0 I (gQ ask n (id:Int)) a (fun x a'=>x=h∧a'=a) E:=by
 obtain ⟨i0,i1,ho⟩:=S.lay.ok _ _ hN;obtain ⟨hf,hs,ht⟩:=S.rest id h (by omega) hN
 have hL2:∀ a,aP n V0 I (ik n id h.n h.row) a (fun x a'=>x=h∧a'=a) E:=by
  intro a;refine (aP.within ho.dr).bind fun _ a' e=>?_;subst e;refine (aP.within (ho.row hn).2).bind fun _ a' e=>?_;subst e;exact aP.pure ⟨by rw [← ho.id],rfl⟩
 refine aP.congr (m':=WM.bind (cS ask (id:Int)) fun L=>NH (jA L) (jS ask n id)) ?_ fun st=>if_pos ⟨by omega,by omega⟩;refine (aP.read hr i0 i1).bind fun L a' e=>?_;obtain ⟨rfl,-,rfl⟩:=e;have hd:=hs.dec;rw [ho.id] at hd;rw [hd];refine aP.congr (m':=jS ask n id h.n) ?_ fun st=>if_pos rfl
 by_cases h0:h.n.rw=0
 ·refine aP.congr (m':=ik n id h.n h.row) (hL2 _) fun st=>?_
  rw [ho.QP h0];exact if_pos h0
 ·have r0:=ho.rw0
  have r1:=ho.rw1;obtain ⟨k,hk⟩:∃ k:Nat,h.n.rw=(k:Int):=⟨h.n.rw.toNat,by omega⟩
  have hrow:=hs.row h0;refine aP.congr (m':=WM.bind (ed n [h.n.rw]) fun _=>WM.bind (cS ask h.n.rw) fun L=>JF (kq L) (ik n id h.n)) ?_ fun st=>if_neg h0;refine (aP.within (by simp;omega)).bind fun _ a' e=>?_;subst e;rw [hk] at hrow ⊢;refine (aP.read hr (by omega) (by omega)).bind fun L a' e=>?_;obtain ⟨rfl,-,rfl⟩:=e;rw [Int.toNat_natCast] at hrow;rw [hrow];exact (hL2 _).congr fun st=>if_pos rfl
def ke (V:Nat→List UInt8) (h:Hd):Nat→List UInt8:=if h.n.rw=0 then zB V h.id (ic h.n) else zB (zB V h.id (ic h.n)) h.n.rw.toNat (jg h.row)
theorem aP.save (hid:0<h.id) (hidn:h.id<n) (hrn:h.n.rw<n) (hr0:0≤h.n.rw) (hok:h.n.ok=true) (hrow:h.row.all cP=true) (h240:h.row.length=240):aP n V0 I (dS h) a (fun _ a'=>a'={ a with V:=ke a.V h }) E:=by
 refine aP.congr (m':=WM.bind (bN (h.id:Int) (ic h.n)) fun _=>F9 h) ?_ fun st=>if_pos hok;refine (aP.write hid hidn (om _)).bind fun _ a' e=>?_;subst e
 by_cases h0:h.n.rw=0
 ·refine aP.congr (m':=WM.pure ()) (aP.pure ?_) fun st=>if_pos h0
  unfold ke;rw [if_pos h0]
 ·obtain ⟨k,hk⟩:∃ k:Nat,h.n.rw=(k:Int):=⟨h.n.rw.toNat,by omega⟩
  refine aP.congr (m':=bN h.n.rw (jg h.row)) ?_ fun st=>(if_neg h0).trans (if_pos hrow);unfold ke;rw [if_neg h0];rw [hk,Int.toNat_natCast];exact aP.write (by omega) (by omega) (by rw [iv,h240])
theorem oh {V:Nat→List UInt8} {b:Nat} (h1:b≠h.id) (h2:h.n.rw≠0→b≠h.n.rw.toNat):ke V h b=V b:=by
 unfold ke
 split
 ·exact eY _ _ h1
 ·rename_i h0;rw [eY _ _ (h2 h0),eY _ _ h1]
theorem tA.saved (S:tA n a own N id) (hn:n≤3840) (hN:N id=some h) (hf:h.Fin) (ht:BB a.V h):tA n { a with V:=ke a.V h } own N 0∧∀ p,p<122880→j9 (ke a.V h) h p=j9 a.V h p:=by
 obtain ⟨i0,i1,ho⟩:=S.lay.ok _ _ hN;have hid:=ho.id
 have hm:∀ b,¬ FE own id b→ke a.V h b=a.V b:=by
  intro b hb;refine oh ?_ fun h0=>?_
  ·rintro rfl;exact hb (.inr (.inl ⟨by rw [hid];exact S.lay.vX hN,hid⟩))
  ·rintro rfl;exact hb (.inr (.inr (.inl (S.lay.xX hN h0))))
 have hp:∀ b i,own b=C2 id i→ke a.V h b=a.V b:=by
  intro b i hb;refine oh ?_ fun h0=>?_
  ·rintro rfl;rw [hid,S.lay.vX hN] at hb;cases hb
  ·rintro rfl;rw [S.lay.xX hN h0] at hb;cases hb
 refine ⟨⟨S.lay,S.bm,fun b h0 hb=>?_,fun id' g _ hg=>?_⟩,fun p hp'=>mA S.lay hN hp hp'⟩
 ·show (ke a.V h b).length=480
  unfold ke
  have e1:(zB a.V h.id (ic h.n) b).length=480:=by
   by_cases e:b=h.id
   ·subst e;rw [jy];exact om _
   ·rw [eY _ _ e];exact S.len b h0 hb
  split
  ·exact e1
  ·by_cases e:b=h.n.rw.toNat
   ·subst e;rw [jy,iv,ho.fit.2]
   ·rw [eY _ _ e];exact e1
 ·by_cases e:id'=id
  ·subst e
   rw [hN] at hg;cases hg
   refine ⟨hf,⟨?_,fun h0=>?_⟩,ht.frame S.lay hN hp⟩
   ·show jA (ke a.V h h.id)=_
    have e:ke a.V h h.id=ic h.n:=by
     unfold ke
     split
     ·exact jy _ _ _
     ·rename_i h0
      rw [eY _ _ ?_,jy];intro h9;have:=S.lay.xX hN h0;rw [← h9,hid,S.lay.vX hN] at this;cases this
    rw [e];exact Jy ho.fit.1 (ho.ok hn hf)
   ·show kq (ke a.V h h.n.rw.toNat)=_
    unfold ke;rw [if_neg h0,jy];exact IE ho.fit.2 (ho.row hn).1
  ·exact S.Nj e hg hm
end
structure AF where
 kd:Int
 lk:Int
 sz:Nat
 dat:Nat→UInt8
 pr:Nat→Bool
def eD (h:Hd) (i:Nat):Bool:=decide (i<256) && decide (h.bg i≠0)
def jC (V:Nat→List UInt8) (h:Hd):AF:=⟨h.n.kd,h.n.lk,h.n.sz.toNat,fun p=>if p<122880 then j9 V h p else 0,eD h⟩
def j8 (pr:Nat→Bool):Nat:=(List.range 256).countP pr
def Cg (pr:Nat→Bool):Bool:=(List.range 256).any fun i=>decide (16≤i) && pr i
def cl (pr:Nat→Bool):Nat:=1+j8 pr+if Cg pr=true then 1 else 0
def Hd.qV (h:Hd):Nat:=1+j8 (eD h)+if h.n.rw=0 then 0 else 1
theorem fY {pr:Nat→Bool}:Cg pr=true↔∃ i,16≤i∧i<256∧pr i=true:=by
 unfold Cg;rw [List.any_eq_true];constructor
 ·rintro ⟨i,hi,h⟩
  simp only [Bool.and_eq_true,decide_eq_true_eq] at h;exact ⟨i,h.1,List.mem_range.1 hi,h.2⟩
 ·rintro ⟨i,h1,h2,h3⟩
  exact ⟨i,List.mem_range.2 h2,by simp only [Bool.and_eq_true,decide_eq_true_eq];exact ⟨h1,h3⟩⟩
theorem n7 {p q:Nat→Bool} (h:∀ i,i<256→p i=q i):j8 p=j8 q:=by
 unfold j8;exact List.countP_congr fun i hi=>by rw [h i (List.mem_range.1 hi)]
theorem rC {p q:Nat→Bool} (h:∀ i,i<256→p i=q i):cl p=cl q:=by
 have e:Cg p=Cg q:=by
  cases hq:Cg q with
  | true=>
   obtain ⟨i,h1,h2,h3⟩:=fY.1 hq;exact fY.2 ⟨i,h1,h2,by rw [h i h2];exact h3⟩
  | false=>
   cases hp:Cg p with
   | false=>rfl
   | true=>
    obtain ⟨i,h1,h2,h3⟩:=fY.1 hp;rw [fY.2 ⟨i,h1,h2,by rw [← h i h2];exact h3⟩] at hq;cases hq
 unfold cl;rw [n7 h,e]
theorem sx (p q:Nat→Bool) (k:Nat) (h:∀ i,i≠k→p i=q i):∀ m,k<m→(List.range m).countP p+(if q k=true then 1 else 0)=(List.range m).countP q+if p k=true then 1 else 0
 | m+1,hk=>by
  rw [List.range_succ,List.countP_append,List.countP_append];simp only [List.countP_cons,List.countP_nil,Nat.zero_add]
  by_cases e:k=m
  ·subst e
   have:(List.range k).countP p=(List.range k).countP q:=List.countP_congr fun i hi=>by rw [h i (by have:=List.mem_range.1 hi;omega)]
   omega
  ·have:=sx p q k h m (by omega)
   rw [h m (Ne.symm e)];omega
theorem yM {p q:Nat→Bool} {k:Nat} (hk:k<256) (h:∀ i,i≠k→p i=q i):j8 p+(if q k=true then 1 else 0)=j8 q+if p k=true then 1 else 0:=sx p q k h 256 hk
theorem ov {p q:Nat→Bool}:∀ m,(∀ i,i<m→p i=true→q i=true)→(List.range m).countP p≤(List.range m).countP q
 | 0,_=>Nat.le_refl _
 | m+1,h=>by
  rw [List.range_succ,List.countP_append,List.countP_append];simp only [List.countP_cons,List.countP_nil,Nat.zero_add];have:=ov m fun i hi=>h i (by omega);have h2:=h m (by omega)
  split
  ·rename_i e;rw [if_pos (h2 e)];omega
  ·split <;> omega
theorem Mf {p q:Nat→Bool} (h:∀ i,i<256→p i=true→q i=true):j8 p≤j8 q:=ov 256 h
theorem KW {p q:Nat→Bool} {k:Nat} (hk:k<256) (h:∀ i,i<256→p i=true→q i=true) (h1:p k=false) (h2:q k=true):j8 p+1≤j8 q:=by
 have e:=yM (p:=fun i=>if i=k then true else p i) (q:=p) hk fun i hi=>if_neg hi;rw [if_neg (by rw [h1];decide),if_pos (if_pos rfl)] at e
 have:=Mf (p:=fun i=>if i=k then true else p i) (q:=q) fun i hi h3=>by
  by_cases e:i=k
  ·subst e;exact h2
  ·rw [if_neg e] at h3;exact h i hi h3
 omega
section
variable {n id k i:Nat} {own:Nat→Own} {N:Nat→Option Hd} {h h':Hd} {a:Aw} {V V':Nat→List UInt8}
theorem fG:eD h i=true↔i<256∧h.bg i≠0:=by unfold eD;simp
theorem gu (hi:i<256):eD h i=false↔h.bg i=0:=by
 unfold eD;simp [hi]
theorem zf (hf:h.fit) (hi:i<256) (b:Int) (j:Nat):eD (h.put i b) j=if j=i then decide (b≠0) else eD h j:=by
 unfold eD;rw [Hd.oO hf hi]
 by_cases e:j=i
 ·subst e;rw [if_pos rfl,if_pos rfl];simp [hi]
 ·rw [if_neg e,if_neg e]
theorem Hd.Ok.qV (ho:h.Ok n id) (hf:h.Fin):h.qV=cl (eD h):=by
 unfold Hd.qV cl;congr 1
 by_cases h0:h.n.rw=0
 ·rw [if_pos h0,if_neg]
  intro h9;obtain ⟨i,h1,h2,h3⟩:=fY.1 h9;exact (fG.1 h3).2 (ho.rz h0 i h1 h2)
 ·obtain ⟨i,h1,h2,h3⟩:=hf.rwp h0
  rw [if_neg h0,if_pos (fY.2 ⟨i,h1,h2,fG.2 ⟨h2,h3⟩⟩)]
def Has (n:Nat) (a:Aw) (A:Nat→Option AF) (k:Nat):Prop:=∃ own N,tA n a own N 0∧xQ own n=k∧∀ id,A id=(N id).map (jC a.V)
theorem Has.at {A:Nat→Option AF} {f:AF} (hA:∀ id,A id=(N id).map (jC a.V)) (hf:A id=some f):∃ h,N id=some h∧f=jC a.V h:=by
 rw [hA id] at hf
 cases hN:N id with
 | none=>rw [hN] at hf;cases hf
 | some h=>rw [hN] at hf;exact ⟨h,rfl,by cases hf;rfl⟩
structure AF.Wf (f:AF):Prop where
 kd:f.kd=1∨f.kd=2
 L7:0≤f.lk
 lk1:f.lk≤65535
 sz:f.sz≤122880
 tail:∀ p,f.sz≤p→f.dat p=0
 hole:∀ p,f.pr (p/480)=false→f.dat p=0
 prs:∀ i,f.pr i=true→480*i<f.sz
theorem tA.wf (S:tA n a own N 0) (hN:N id=some h):(jC a.V h).Wf:=by
 obtain ⟨i0,i1,ho⟩:=S.lay.ok _ _ hN;obtain ⟨hf,hs,ht⟩:=S.rest id h (by omega) hN;have z0:=ho.sz0;have z1:=ho.sz1;refine ⟨ho.kd,ho.L7,ho.lk1,show h.n.sz.toNat≤122880 by omega,fun p hp=>?_,fun p hp=>?_,fun i hi=>?_⟩
 ·show (if p<122880 then j9 a.V h p else 0)=0
  split
  ·rename_i h1;exact ht p h1 (by have:h.n.sz.toNat≤p:=hp;omega)
  ·rfl
 ·show (if p<122880 then j9 a.V h p else 0)=0
  split
  ·rename_i h1
   unfold j9;rw [if_pos ((gu (by omega)).1 hp)]
  ·rfl
 ·obtain ⟨h1,h2⟩:=fG.1 (show eD h i=true from hi)
  show 480*i<h.n.sz.toNat
  by_cases h9:cJ h.n.sz≤i
  ·exact absurd (hf.hi i h1 h9) h2
  ·unfold cJ at h9;omega
theorem Has.wf {A:Nat→Option AF} {f:AF} (hh:Has n a A k) (hf:A id=some f):f.Wf∧0<id∧id<n:=by
 obtain ⟨own,N,S,_,hA⟩:=hh;obtain ⟨h,hN,rfl⟩:=Has.at hA hf;exact ⟨S.wf hN,(S.lay.ok _ _ hN).1,(S.lay.ok _ _ hN).2.1⟩
end
section
variable {σ α:Type} {n id k:Nat} {own:Nat→Own} {N:Nat→Option Hd} {h:Hd} {a:Aw} {V0:Nat→List UInt8} {I:σ→Prop} {ask:dx σ} {E:Int→Prop} {A:Nat→Option AF} {f:AF}
theorem aP.node (hr:rN ask n V0 I) (hn:n≤3840) (hh:Has n a A k) (hf:A id=some f):aP n V0 I (pj ask n (id:Int)) a (fun x a'=>x.kd=f.kd∧x.lk=f.lk∧x.sz=f.sz∧a'=a) E:=by
 obtain ⟨own,N,S,_,hA⟩:=hh;obtain ⟨h,hN,rfl⟩:=Has.at hA hf;have ho:=(S.lay.ok _ _ hN).2.2;refine (aP.load hr hn S hN).bind fun x a' e=>?_;obtain ⟨rfl,rfl⟩:=e;have:=ho.sz0;exact aP.pure ⟨rfl,rfl,show x.n.sz=(x.n.sz.toNat:Int) by omega,rfl⟩
theorem sA {l d:List UInt8} {o:Nat} (h:o+d.length≤l.length) (j:Nat):(putAt l o d).getD j 0=if o≤j∧j<o+d.length then d.getD (j-o) 0 else l.getD j 0:=by
 unfold putAt;have h1:(l.take o++d).length=o+d.length:=by rw [List.length_append,List.length_take];omega
 have h2:(l.take o).length=o:=by rw [List.length_take];omega
 simp only [List.getD]
 by_cases h3:j<o
 ·rw [if_neg (by omega),List.getElem?_append_left (by rw [h1];omega),List.getElem?_append_left (by rw [h2];exact h3),List.getElem?_take,if_pos h3]
 ·by_cases h4:j<o+d.length
  ·rw [if_pos ⟨by omega,h4⟩,List.getElem?_append_left (by rw [h1];omega),List.getElem?_append_right (by rw [h2];omega),h2]
  ·rw [if_neg (by omega),List.getElem?_append_right (by rw [h1];omega),h1,List.getElem?_drop,show o+d.length+(j-(o+d.length))=j by omega]
theorem aP.rd (hr:rN ask n V0 I) (S:tA n a own N 0) (hN:N id=some h) (off m:Nat) (hm:off+m≤122880):∀ (f done:Nat) (L:List UInt8),L.length=m→m-done≤f→(∀ j,j<m→L.getD j 0=if j<done then j9 a.V h (off+j) else 0) →
  aP n V0 I (Au ask h off f done L) a (fun x a'=>x.length=m∧(∀ j,j<m→x.getD j 0=j9 a.V h (off+j))∧a'=a) E:=by
 intro f
 induction f with
 | zero=>intro done L hL hf hj;exact aP.pure ⟨hL,fun j h1=>by rw [hj j h1,if_pos (by omega)],rfl⟩
 | succ f ih=>
  intro done L hL hf hj;obtain ⟨i0,i1,ho⟩:=S.lay.ok _ _ hN
  by_cases hd:done<m
  ·obtain ⟨l,hl⟩:∃ l,gY (L.length-done) (off+done)=l:=⟨_,rfl⟩
   have hl2:l=min (m-done) (480-(off+done)%480):=by rw [← hl,hL];rfl
   have hbyt:∀ j,done≤j→j<done+l→(off+j)/480=(off+done)/480∧(off+j)%480=(off+done)%480+(j-done):=fun j h1 h2=>by omega
   by_cases h0:h.bg ((off+done)/480)=0
   ·refine aP.congr (m':=Au ask h off f (done+l) L) ?_ fun st=>by rw [← hl];exact MM (by omega) h0 st
    refine ih (done+l) L hL (by omega) fun j h1=>?_;rw [hj j h1]
    by_cases h2:j<done
    ·rw [if_pos h2,if_pos (by omega)]
    ·rw [if_neg h2]
     split
     ·unfold j9;rw [(hbyt j (by omega) (by omega)).1,if_pos h0]
     ·rfl
   ·have hp:=ho.pg ((off+done)/480) (by omega)
    obtain ⟨b,hb⟩:∃ b:Nat,h.bg ((off+done)/480)=(b:Int):=⟨(h.bg ((off+done)/480)).toNat,by omega⟩
    refine aP.congr (m':=WM.bind (cS ask (b:Int)) fun X=>Au ask h off f (done+l) (putAt L done ((X.drop ((off+done)%480)).take l))) ?_ fun st=>by
     refine (if_pos (by omega)).trans ((if_neg h0).trans ?_);rw [hl,hb]
    refine (aP.read hr (by omega) (by omega)).bind fun X a' e=>?_;obtain ⟨rfl,hX,e3⟩:=e;rw [e3];have hlen:(((a.V b).drop ((off+done)%480)).take l).length=l:=by rw [List.length_take,List.length_drop,hX];omega
    refine ih (done+l) _ (by rw [gL (by rw [hlen];omega)];exact hL) (by omega) fun j h1=>?_;rw [sA (by rw [hlen];omega),hlen]
    by_cases h2:done≤j∧j<done+l
    ·rw [if_pos h2,if_pos (by omega)]
     obtain ⟨e1,e2⟩:=hbyt j h2.1 h2.2;unfold j9;rw [e1,if_neg h0,hb,e2,Int.toNat_natCast];simp only [List.getD];rw [List.getElem?_take,if_pos (by omega),List.getElem?_drop]
    ·rw [if_neg h2,hj j h1]
     by_cases h3:j<done
     ·rw [if_pos h3,if_pos (by omega)]
     ·rw [if_neg h3,if_neg (by omega)]
  ·refine aP.congr (m':=WM.pure L) (aP.pure ⟨hL,fun j h1=>by rw [hj j h1,if_pos (by omega)],rfl⟩) fun st=>if_neg (by omega)
def AF.sub (f:AF) (off cnt:Nat):List UInt8:=(List.range (min cnt (f.sz-off))).map fun j=>f.dat (off+j)
theorem aP.O5 (hr:rN ask n V0 I) (hn:n≤3840) (hh:Has n a A k) (hf:A id=some f) (off cnt:Nat):aP n V0 I (iU ask n (id:Int) (off:Int) (cnt:Int)) a (fun x a'=>x=f.sub off cnt∧a'=a) E:=by
 obtain ⟨own,N,S,_,hA⟩:=hh;obtain ⟨h,hN,rfl⟩:=Has.at hA hf;obtain ⟨i0,i1,ho⟩:=S.lay.ok _ _ hN;have z0:=ho.sz0;have z1:=ho.sz1;refine (aP.load hr hn S hN).bind fun x a' e=>?_;obtain ⟨rfl,rfl⟩:=e;have hsz:(jC a'.V x).sz=x.n.sz.toNat:=rfl
 by_cases h1:x.n.sz≤(off:Int)
 ·refine aP.congr (m':=WM.pure []) (aP.pure ⟨?_,rfl⟩) fun st=>(if_pos ⟨by omega,by omega⟩).trans (if_pos h1)
  unfold AF.sub;rw [hsz,show min cnt (x.n.sz.toNat-off)=0 by omega];rfl
 ·obtain ⟨m,hm⟩:∃ m,(min (cnt:Int) (x.n.sz-(off:Int))).toNat=m:=⟨_,rfl⟩
  refine aP.congr (m':=Au ask x off m 0 (zs m)) ?_ fun st=>by
   refine (if_pos ⟨by omega,by omega⟩).trans ((if_neg h1).trans ?_);rw [hm,Int.toNat_natCast]
  refine (aP.rd hr S hN off m (by omega) m 0 (zs m) (aT m) (by omega) fun j hj=>?_).mono (fun y a'' e=>?_) fun _ h=>h
  ·rw [if_neg (by omega)]
   show (List.replicate m 0).getD j 0=0
   simp only [List.getD,List.getElem?_replicate];split <;> rfl
  ·obtain ⟨e1,e2,e3⟩:=e
   refine ⟨?_,e3⟩;have hm2:min cnt ((jC a'.V x).sz-off)=m:=by rw [hsz];omega
   unfold AF.sub;rw [hm2];apply List.ext_getElem
   ·simp [e1]
   ·intro j h2 h3
    rw [e1] at h2;have:=e2 j h2;rw [List.getD,List.getElem?_eq_getElem (by omega)] at this;simp only [Option.getD_some] at this;rw [this,List.getElem_map,List.getElem_range];show _=if off+j<122880 then j9 a'.V x (off+j) else 0
    rw [if_pos (by omega)]
end
structure cm (n:Nat) (a0:Aw) (N0:Nat→Option Hd) (id:Nat) (K:Nat) (a:Aw) (own:Nat→Own) (N:Nat→Option Hd) (h:Hd):Prop where
 sp:tA n a own N id
 hN:N id=some h
 oth:∀ id',id'≠id→N id'=N0 id'
 byts:∀ id' g,id'≠id→N0 id'=some g→∀ p,p<122880→j9 a.V g p=j9 a0.V g p
 cons:xQ own n+h.qV=K
section
variable {n id k i K:Nat} {own:Nat→Own} {N N0:Nat→Option Hd} {h h':Hd} {a a0:Aw} {V V':Nat→List UInt8}
theorem cm.start (S:tA n a own N 0) (hN:N id=some h):cm n a N id (xQ own n+h.qV) a own N h:=
 ⟨S.fh id,hN,fun _ _=>rfl,fun _ _ _ _ _ _=>rfl,rfl⟩
theorem cm.ok (T:cm n a0 N0 id K a own N h):h.Ok n id:=(T.sp.lay.ok _ _ T.hN).2.2
theorem cm.write (T:cm n a0 N0 id K a own N h) (hk:FE own id k) {l:List UInt8} (hl:l.length=480):cm n a0 N0 id K { a with V:=zB a.V k l } own N h:=
 ⟨T.sp.write hk hl,T.hN,T.oth,fun id' g hne hg p hp=>by
  have hg':N id'=some g:=(T.oth id' hne).trans hg;rw [← T.byts id' g hne hg p hp];exact vP T.sp.lay hne hg' (fun b hm=>eY _ _ (by rintro rfl;exact hm hk)) hp,T.cons⟩
theorem cm.step (T:cm n a0 N0 id K a own N h) {own':Nat→Own} {B':List UInt8} (L':jJ n own' (eS N id (some h'))) (hb:Bm n own' B') (hc:xQ own' n+h'.qV=K):cm n a0 N0 id K { a with B:=B' } own' (eS N id (some h')) h':=
 ⟨T.sp.step L' hb fun id' hne=>aQ _ _ hne,bF _ _ _,fun id' hne=>(aQ _ _ hne).trans (T.oth id' hne),T.byts,hc⟩
theorem Ip (hf:h.fit) (hi:i<256) {b:Int} (h0:h.bg i=0) (hb:b≠0):(h.put i b).qV=h.qV+1:=by
 unfold Hd.qV;rw [Hd.qG];have:=yM (p:=eD (h.put i b)) (q:=eD h) hi fun j hj=>by rw [zf hf hi,if_neg hj]
 rw [zf hf hi,if_pos rfl,(gu hi).2 h0] at this;simp only [hb,ne_eq,not_false_eq_true,decide_true,if_true,Bool.false_eq_true,if_false] at this;omega
theorem Kr (h0:h.n.rw=0) {b:Int} (hb:b≠0):(h.iO b).qV=h.qV+1:=by
 unfold Hd.qV;have e:eD (h.iO b)=eD h:=rfl;rw [e,if_pos h0,if_neg (show (h.iO b).n.rw≠0 from hb)]
theorem cm.Jt (T:cm n a0 N0 id K a own N h) (hn:n≤3840) (hk:own k=qj) (hkn:k<n) (hi:i<256) (h0:h.bg i=0) (hr:16≤i→h.n.rw≠0) :
  cm n a0 N0 id K { a with B:=dV a.B k true } (eS own k (C2 id i)) (eS N id (some (h.put i (k:Int)))) (h.put i (k:Int)):=by
 have hk0:=T.sp.lay.iR hk;refine T.step (T.sp.lay.bg T.hN hk hkn hi h0 hr) (T.sp.bm.set hn hkn _ _ (by simp)) ?_;have:=rZ (own:=own) (x:=C2 id i) hkn;rw [if_pos hk,if_neg (by simp)] at this;rw [Ip T.ok.fit hi h0 (by omega)];have:=T.cons;omega
theorem cm.Ln (T:cm n a0 N0 id K a own N h) (hn:n≤3840) (hk:own k=qj) (hkn:k<n) (h0:h.n.rw=0) :
  cm n a0 N0 id K { a with B:=dV a.B k true } (eS own k (FU id)) (eS N id (some (h.iO (k:Int)))) (h.iO (k:Int)):=by
 have hk0:=T.sp.lay.iR hk;refine T.step (T.sp.lay.row T.hN hk hkn h0) (T.sp.bm.set hn hkn _ _ (by simp)) ?_;have:=rZ (own:=own) (x:=FU id) hkn;rw [if_pos hk,if_neg (by simp)] at this;rw [Kr h0 (by omega)];have:=T.cons;omega
theorem cm.set (T:cm n a0 N0 id K a own N h) (ho:h'.Ok n id) (hr:h'.n.rw=h.n.rw) (hp:∀ i,i<256→h'.bg i=h.bg i):cm n a0 N0 id K a own (eS N id (some h')) h':=by
 refine T.step (T.sp.lay.set T.hN ho hr hp) T.sp.bm ?_
 have:h'.qV=h.qV:=by
  unfold Hd.qV;rw [hr,n7 (p:=eD h') (q:=eD h) fun i hi=>by unfold eD;rw [hp i hi]]
 rw [this];exact T.cons
theorem cm.done (T:cm n a0 N0 id K a own N h) (hn:n≤3840) (hf:h.Fin) (ht:BB a.V h) {A:Nat→Option AF} (hA:∀ id,A id=(N0 id).map (jC a0.V)) (f:AF) (h1:h.n.kd=f.kd) (h2:h.n.lk=f.lk) (h3:h.n.sz=f.sz)
  (h4:∀ p,p<122880→j9 a.V h p=f.dat p) (h4b:∀ p,122880≤p→f.dat p=0) (h5:∀ i,i<256→eD h i=f.pr i) (h5b:∀ i,256≤i→f.pr i=false):Has n { a with V:=ke a.V h } (eS A id (some f)) (K-cl f.pr):=by
 obtain ⟨S,hb⟩:=T.sp.saved hn T.hN hf ht;have hnd:=T.ok.qV hf;rw [rC h5] at hnd;refine ⟨own,N,S,by have:=T.cons;omega,fun id'=>?_⟩
 by_cases e:id'=id
 ·subst e
  rw [bF,T.hN];show some f=some (jC (ke a.V h) h)
  congr 1;obtain ⟨kd,lk,sz,dat,pr⟩:=f;dsimp only at *;unfold jC;have e1:sz=h.n.sz.toNat:=by omega
  have e2:dat=fun p=>if p<122880 then j9 (ke a.V h) h p else 0:=by
   funext p
   split
   ·rename_i hp;rw [hb p hp];exact (h4 p hp).symm
   ·rename_i hp;exact h4b p (by omega)
  have e3:pr=eD h:=by
   funext i
   by_cases hi:i<256
   ·exact (h5 i hi).symm
   ·rw [h5b i (by omega)];unfold eD;simp [hi]
  rw [h1,h2,← e1,← e2,← e3]
 ·rw [aQ _ _ e,hA id',← T.oth id' e]
  cases hg:N id' with
  | none=>rfl
  | some g=>
   show some (jC a0.V g)=some (jC (ke a.V h) g)
   congr 1;have h0:N0 id'=some g:=(T.oth id' e).symm.trans hg;unfold jC;congr 1;funext p
   split
   ·rename_i hp
    rw [← T.byts id' g e h0 p hp];refine (vP T.sp.lay e hg (fun b hm=>oh ?_ fun h0=>?_) hp).symm
    ·rintro rfl;exact hm (.inr (.inl ⟨by rw [T.ok.id];exact T.sp.lay.vX T.hN,T.ok.id⟩))
    ·rintro rfl;exact hm (.inr (.inr (.inl (T.sp.lay.xX T.hN h0))))
   ·rfl
end
section
variable {σ α:Type} {n id k K:Nat} {own:Nat→Own} {N N0:Nat→Option Hd} {h:Hd} {a a0:Aw} {V0:Nat→List UInt8} {I:σ→Prop} {ask:dx σ} {E:Int→Prop} {A:Nat→Option AF} {f:AF}
theorem aP.pJ (T:cm n a0 N0 id K a own N h) (hn:n≤3840) (hf:h.Fin):aP n V0 I (dS h) a (fun _ a'=>a'={ a with V:=ke a.V h }) E:=by
 have ho:=T.ok;exact aP.save (by rw [ho.id];exact (T.sp.lay.ok _ _ T.hN).1) (by rw [ho.id];exact (T.sp.lay.ok _ _ T.hN).2.1) ho.rw1 ho.rw0 (ho.ok hn hf) (ho.row hn).1 ho.fit.2
def fN (kd:Int):AF:=⟨kd,1,0,fun _=>0,fun _=>false⟩
theorem fz (id:Nat) (kd:Int) (i:Nat):(cW id kd).bg i=0:=by
 unfold cW Hd.bg
 split
 ·show (List.replicate 16 (0:Int)).getD i 0=0
  simp only [List.getD,List.getElem?_replicate];split <;> rfl
 ·show (List.replicate 240 (0:Int)).getD (i-16) 0=0
  simp only [List.getD,List.getElem?_replicate];split <;> rfl
theorem Iq {kd:Int} (hk:kd=1∨kd=2) (h0:0<n):(cW id kd).Ok n id:=
 ⟨⟨rfl,rfl⟩,rfl,hk,(by decide:(0:Int)≤1),(by decide:(1:Int)≤65535),(by decide:(0:Int)≤0),(by decide:(0:Int)≤122880),(by decide:(0:Int)≤0),show (0:Int)<n by omega,fun i _=>by rw [fz];exact ⟨by omega,by omega⟩,fun _ i _ _=>fz _ _ _⟩
theorem mV (id:Nat) (kd:Int):(cW id kd).Fin:=⟨fun i _ _=>fz _ _ _,fun h=>absurd rfl h⟩
theorem na (V:Nat→List UInt8) (id:Nat) (kd:Int) (p:Nat):j9 V (cW id kd) p=0:=by unfold j9;rw [if_pos (fz _ _ _)]
theorem uT (id:Nat) (kd:Int):(cW id kd).qV=1:=by
 unfold Hd.qV
 have e:j8 (eD (cW id kd))=0:=by
  unfold j8;rw [List.countP_eq_zero];intro i _ h;exact (fG.1 h).2 (fz _ _ _)
 rw [e,if_pos (show (cW id kd).n.rw=0 from rfl)]
theorem tZ:cl (fun _=>false)=1:=by
 unfold cl;have e:j8 (fun _=>false)=0:=by unfold j8;rw [List.countP_eq_zero];intro i _ h;cases h
 rw [e,if_neg];intro h9;obtain ⟨i,_,_,h3⟩:=fY.1 h9;cases h3
theorem cm.made (S:tA n a own N 0) (hn:n≤3840) (hk:own k=qj) (hkn:k<n) {kd:Int} (hkd:kd=1∨kd=2) :
  cm n a N k (xQ own n) { a with B:=dV a.B k true } (eS own k Np) (eS N k (some (cW k kd))) (cW k kd):=by
 have hk0:=S.lay.iR hk;refine ⟨(S.fh k).step (S.lay.new hk hkn (Iq hkd (by omega)) (fun i _=>fz _ _ _) rfl) (S.bm.set hn hkn _ _ (by simp)) fun id' hne=>aQ _ _ hne,bF _ _ _,fun id' hne=>aQ _ _ hne,fun _ _ _ _ _ _=>rfl,?_⟩;have:=rZ (own:=own) (x:=Np) hkn;rw [if_pos hk,if_neg (by simp)] at this;rw [uT];omega
theorem aP.new (hr:rN ask n V0 I) (h0:0<n) (hn:n≤3840) (hh:Has n a A k) {kd:Int} (hkd:kd=1∨kd=2) :
  aP n V0 I (uA ask n kd) a (fun x a'=>A x=none∧0<x∧x<n∧0<k∧Has n a' (eS A x (some (fN kd))) (k-1)) (fun c=>c=7∧k=0):=by
 obtain ⟨own,N,S,hk,hA⟩:=hh;refine aP.congr (m':=WM.bind (ib ask n) (Cj kd)) ?_ fun st=>if_pos hkd;refine (aP.take hr h0 fun hf=>⟨rfl,by rw [← hk,S.bm.gF hf]⟩).bind fun x a' e=>?_;obtain ⟨e1,rfl⟩:=e;obtain ⟨hxn,hx⟩:=S.bm.qd e1;have hx0:=S.lay.iR hx;have T:=cm.made S hn hx hxn hkd
 have hkp:0<k:=by
  have h1:=T.cons;rw [uT] at h1;omega
 refine (aP.pJ T hn (mV _ _)).bind fun _ a' e=>?_;subst e;refine aP.pure ⟨by rw [hA,S.lay.gF hx];rfl,by omega,hxn,hkp,?_⟩;have:=T.done hn (mV _ _) (fun p _ _=>na _ _ _ _) hA (fN kd) rfl rfl rfl (fun p _=>na _ _ _ _) (fun _ _=>rfl) (fun i hi=>(gu hi).2 (fz _ _ _)) fun _ _=>rfl;have e2:cl (fN kd).pr=1:=tZ;rw [e2,hk] at this;exact this
theorem aP.Pq (hr:rN ask n V0 I) (hn:n≤3840) (hh:Has n a A k) (hf:A id=some f) (d:Int) :
  aP n V0 I (j0 ask n (id:Int) d) a (fun _ a'=>(0≤wrap64 (f.lk+d)∧wrap64 (f.lk+d)≤65535)∧Has n a' (eS A id (some { f with lk:=wrap64 (f.lk+d) })) k) (fun c=>c=1∧¬ (0≤wrap64 (f.lk+d)∧wrap64 (f.lk+d)≤65535)):=by
 obtain ⟨own,N,S,hk,hA⟩:=hh;obtain ⟨h,hN,rfl⟩:=Has.at hA hf;obtain ⟨i0,i1,ho⟩:=S.lay.ok _ _ hN;obtain ⟨hfin,hs,ht⟩:=S.rest id h (by omega) hN;refine (aP.load hr hn S hN).bind fun x a' e=>?_;obtain ⟨rfl,rfl⟩:=e;show aP n V0 I (rQ x (wrap64 (x.n.lk+d))) a' (fun _ a''=>(0≤wrap64 (x.n.lk+d)∧wrap64 (x.n.lk+d)≤65535)∧Has n a'' (eS A id (some { jC a'.V x with lk:=wrap64 (x.n.lk+d) })) k) (fun c=>c=1∧¬ (0≤wrap64 (x.n.lk+d)∧wrap64 (x.n.lk+d)≤65535))
 generalize wrap64 (x.n.lk+d)=z
 by_cases hz:0≤z∧z≤65535
 ·refine aP.congr (m':=dS (x.nL z)) ?_ fun st=>if_pos hz
  have ho':(x.nL z).Ok n id:=⟨ho.fit,ho.id,ho.kd,hz.1,hz.2,ho.sz0,ho.sz1,ho.rw0,ho.rw1,ho.pg,ho.rz⟩
  have T:=(cm.start S hN).set ho' rfl fun _ _=>rfl;have hfin':(x.nL z).Fin:=⟨hfin.hi,hfin.rwp⟩
  refine (aP.pJ T hn hfin').mono (fun _ a'' e=>?_) fun _ h=>h;subst e;refine ⟨hz,?_⟩;have z0:=ho.sz0
  have:=T.done hn hfin' (fun p h1 h2=>ht p h1 h2) hA { jC a'.V x with lk:=z } rfl rfl (show x.n.sz=(x.n.sz.toNat:Int) by omega) (fun p hp=>by show j9 a'.V x p=if p<122880 then j9 a'.V x p else 0;rw [if_pos hp])
   (fun p hp=>if_neg (by omega)) (fun i _=>rfl) (fun i hi=>by show eD x i=false;unfold eD;simp;omega)
  have e:cl ({ jC a'.V x with lk:=z }:AF).pr=x.qV:=(ho.qV hfin).symm;rw [e,Nat.add_sub_cancel,hk] at this;exact this
 ·exact (aP.bad ⟨rfl,hz⟩).congr fun st=>if_neg hz
theorem aP.format (hr:rN ask n V0 I) (h0:4≤n) (hn:n≤3840) (hlen:∀ b,0<b→b<n→(a.V b).length=480) :
  aP n V0 I (iA ask) a (fun _ a'=>Has n a' (fun id=>if id=1 then some (fN 2) else none) (n-2)) E:=by
 have hz:∀ b,ea (zs 480) b=false:=by
  intro b;unfold ea
  have e:(zs 480).getD (b/8) 0=0:=by
   show (List.replicate 480 (0:UInt8)).getD (b/8) 0=0
   simp only [List.getD,List.getElem?_replicate];split <;> rfl
  rw [e];show decide ((0:UInt8).toNat/2 ^ (b%8)%2=1)=false
  have:(0:UInt8).toNat=0:=rfl;rw [this,Nat.zero_div];decide
 obtain ⟨own0,ho0⟩:∃ o:Nat→Own,o=fun b=>if b=0 then Hu else qj:=⟨_,rfl⟩
 have L0:jJ n own0 (fun _=>none):=by
  subst ho0;refine ⟨fun b=>?_,fun b hb=>if_neg (by omega),fun id h hh=>(by cases hh),fun b=>?_,fun b id=>?_,fun b id i=>?_⟩
  ·show (if b=0 then Hu else qj)=Hu↔b=0
   split
   ·rename_i e;exact ⟨fun _=>e,fun _=>rfl⟩
   ·rename_i e;exact ⟨fun h=>(by cases h),fun h=>absurd h e⟩
  ·show (if b=0 then Hu else qj)=Np↔_
   split <;> simp
  ·show (if b=0 then Hu else qj)=FU id↔_
   unfold fS
   split <;> simp
  ·show (if b=0 then Hu else qj)=C2 id i↔_
   unfold fT
   split <;> simp
 have Bm0:Bm n own0 (dV (zs 480) 0 true):=by
  subst ho0;refine ⟨by rw [eJ];exact aT 480,fun b hb=>?_⟩;rw [uZ (by rw [aT];omega),hz]
  by_cases e:b=0
  ·subst e;simp
  ·rw [if_neg e,if_neg e];simp
 have hfr:xQ own0 n=n-1:=by
  subst ho0
  have:∀ m,0<m→xQ (fun b=>if b=0 then Hu else qj) m=m-1:=by
   intro m
   induction m with
   | zero=>intro h;omega
   | succ m ih=>
    intro _;rw [tf]
    by_cases e:m=0
    ·subst e;rfl
    ·rw [ih (by omega),if_neg e,if_pos rfl];omega
  exact this n (by omega)
 have S0:tA n ⟨a.V,dV (zs 480) 0 true⟩ own0 (fun _=>none) 0:=⟨L0,Bm0,hlen,fun id' h _ hh=>(by cases hh)⟩
 have hk1:own0 1=qj:=by subst ho0;rfl
 have T:=cm.made S0 hn hk1 (by omega) (.inr rfl)
 have hD:aP n V0 I (WM.bind (fq ask 1 true) fun _=>dS (cW 1 2)) ⟨a.V,dV (zs 480) 0 true⟩ (fun _ a'=>Has n a' (fun id=>if id=1 then some (fN 2) else none) (n-2)) E:=by
  refine (aP.mark hr (by omega)).bind fun _ a' e=>?_;subst e;refine (aP.pJ T hn (mV _ _)).mono (fun _ a' e=>?_) fun _ h=>h;subst e;have:=T.done hn (mV _ _) (fun p _ _=>na _ _ _ _) (A:=fun _=>none) (fun _=>rfl) (fN 2) rfl rfl rfl (fun p _=>na _ _ _ _) (fun _ _=>rfl) (fun i hi=>(gu hi).2 (fz _ _ _)) fun _ _=>rfl;have e2:cl (fN 2).pr=1:=tZ;rw [e2,hfr] at this;exact this
 intro st hst;have h1:fq ask 0 true { st with bits:=some (zs 480) }=(.ok (),{ st with bits:=some (dV (zs 480) 0 true),dt:=true }):=rfl;have e:iA ask st=(WM.bind (fq ask 1 true) fun _=>dS (cW 1 2)) { st with bits:=some (dV (zs 480) 0 true),dt:=true }:=WM.aZ h1;rw [e];exact hD _ ⟨hst.good,hst.view,.inl rfl,fun h=>by simp at h,by rw [eJ];exact aT 480⟩
end
def cG (off m i:Nat):Bool:=decide (0<m) && (decide (480*i<off+m) && decide (off<480*i+480))
theorem cE {off m i:Nat}:cG off m i=true↔0<m∧480*i<off+m∧off<480*i+480:=by
 unfold cG;simp only [Bool.and_eq_true,decide_eq_true_eq]
def AF.wr (f:AF) (off:Nat) (d:List UInt8):AF:=
 { f with sz:=if d.length=0 then f.sz else max f.sz (off+d.length),dat:=fun p=>if off≤p∧p<off+d.length then d.getD (p-off) 0 else f.dat p,pr:=fun i=>f.pr i || cG off d.length i }
def yL (h h':Hd):Prop:=h.n.kd=h'.n.kd∧h.n.lk=h'.n.lk∧h.n.sz=h'.n.sz
section
variable {n id k q K:Nat} {own:Nat→Own} {N N0:Nat→Option Hd} {h h' h0:Hd} {a a0:Aw}
theorem Fp (h:Hd) (i:Nat) (b:Int):yL (h.put i b) h:=by unfold Hd.put yL;split <;> exact ⟨rfl,rfl,rfl⟩
theorem Io {V:Nat→List UInt8} {p:Nat} (e:h.bg (p/480)=h'.bg (p/480)):j9 V h p=j9 V h' p:=by unfold j9;rw [e]
theorem cm.DV (T:cm n a0 N0 id K a own N h) (hq:q<256) {b:Nat} (hb:h.bg q=(b:Int)) (hb0:0<b) {l:List UInt8} (hl:l.length=480) :
  cm n a0 N0 id K { a with V:=zB a.V b l } own N h∧∀ p,p<122880→j9 (zB a.V b l) h p=if p/480=q then l.getD (p%480) 0 else j9 a.V h p:=by
 have ho:=T.sp.lay.Kk T.hN hq (show h.bg q≠0 by omega);rw [hb,Int.toNat_natCast] at ho;refine ⟨T.write (.inr (.inr (.inr ⟨q,ho⟩))) hl,fun p hp=>?_⟩
 by_cases e:p/480=q
 ·rw [if_pos e]
  unfold j9;rw [e,if_neg (by omega),hb,Int.toNat_natCast,jy]
 ·rw [if_neg e]
  unfold j9
  split
  ·rfl
  ·rename_i h0
   rw [eY];intro h9;have:=T.sp.lay.Kk T.hN (show p/480<256 by omega) h0;rw [h9,ho] at this;simp only [Prod.mk.injEq] at this;exact e this.2.2.symm
end
section
variable {σ α:Type} {n id k q K:Nat} {own:Nat→Own} {N N0:Nat→Option Hd} {h h0:Hd} {a a0:Aw} {V0:Nat→List UInt8} {I:σ→Prop} {ask:dx σ} {E:Int→Prop} {A:Nat→Option AF} {f:AF}
def Ck (n:Nat) (a0:Aw) (N0:Nat→Option Hd) (id K:Nat) (a:Aw) (h:Hd) (q:Nat) (wh:Bool) (p:Hd × Int × List UInt8) (a':Aw):Prop:=
 ∃ own N,cm n a0 N0 id K a' own N p.1∧a'.V=a.V∧(∃ b:Nat,p.2.1=(b:Int)∧p.1.bg q=(b:Int)∧0<b)∧(∀ i,i≠q→p.1.bg i=h.bg i)∧yL p.1 h∧(p.1.n.rw≠0→h.n.rw≠0∨16≤q) ∧
  p.2.2.length=480∧(wh=false→∀ r,r<480→p.2.2.getD r 0=j9 a.V h (480*q+r))
def Dc (K:Nat) (h:Hd) (q:Nat) (c:Int):Prop:=c=7∧∃ hx:Hd,hx.qV=K∧(∀ i,hx.bg i=h.bg i)∧h.bg q=0∧(hx.n.rw≠0→h.n.rw≠0∨16≤q)
theorem Lo (m r:Nat):(zs m).getD r 0=0:=by
 show (List.replicate m (0:UInt8)).getD r 0=0
 simp only [List.getD,List.getElem?_replicate];split <;> rfl
theorem aP.MZ (hr:rN ask n V0 I) (hn:n≤3840) (T:cm n a0 N0 id K a own N h) (hq:q<256) (hp:h.bg q=0) (hrw:16≤q→h.n.rw≠0) {h1:Hd} {V1:Nat→List UInt8} (hV:a.V=V1) (e1:∀ i,h.bg i=h1.bg i) (e2:yL h h1) (e3:h.n.rw≠0→h1.n.rw≠0∨16≤q) (wh:Bool) :
  aP n V0 I (nX ask n h q) a (fun p a'=>Ck n a0 N0 id K ⟨V1,[]⟩ h1 q wh p a') (Dc K h1 q):=by
 have h0:0<n:=by have:=(T.sp.lay.ok _ _ T.hN);omega
 have hE:eL a.B n=none→Dc K h1 q 7:=fun hf=>⟨rfl,h,by have:=T.cons;have:=T.sp.bm.gF hf;omega,e1,by rw [← e1];exact hp,e3⟩
 refine (aP.take hr h0 hE).bind fun b a' e=>?_
 ·obtain ⟨hb,rfl⟩:=e
  obtain ⟨hbn,hbo⟩:=T.sp.bm.qd hb;have hb0:=T.sp.lay.iR hbo;have T':=T.Jt hn hbo hbn hq hp hrw;refine aP.pure ⟨_,_,T',hV,⟨b,rfl,?_,by omega⟩,fun i hi=>?_,?_,?_,aT 480,fun _ r hr'=>?_⟩
  ·show (h.put q (b:Int)).bg q=b
   rw [Hd.oO T.ok.fit hq,if_pos rfl]
  ·show (h.put q (b:Int)).bg i=_
   rw [Hd.oO T.ok.fit hq,if_neg hi];exact e1 i
  ·obtain ⟨s1,s2,s3⟩:=Fp h q (b:Int)
   exact ⟨s1.trans e2.1,s2.trans e2.2.1,s3.trans e2.2.2⟩
  ·show (h.put q (b:Int)).n.rw≠0→_
   rw [Hd.qG];exact e3
  ·show (zs 480).getD r 0=_
   rw [Lo];unfold j9;rw [show (480*q+r)/480=q by omega,if_pos (by rw [← e1];exact hp)]
theorem aP.open (hr:rN ask n V0 I) (hn:n≤3840) (T:cm n a0 N0 id K a own N h) (hq:q<256) (wh:Bool) :
  aP n V0 I (lC ask n h q wh) a (Ck n a0 N0 id K a h q wh) (Dc K h q):=by
 have h0:0<n:=by have:=(T.sp.lay.ok _ _ T.hN);omega
 have fin:∀ p a',Ck n a0 N0 id K ⟨a.V,[]⟩ h q wh p a'→Ck n a0 N0 id K a h q wh p a':=fun p a' h=>h
 by_cases hp:h.bg q=0
 ·by_cases hrw:16≤q∧h.n.rw=0
  ·refine aP.congr (m':=WM.bind (ib ask n) fun r=>nX ask n (h.iO (r:Int)) q) ?_ fun st=>(if_pos hp).trans (if_pos hrw)
   have hE:eL a.B n=none→Dc K h q 7:=fun hf=>⟨rfl,h,by have:=T.cons;have:=T.sp.bm.gF hf;omega,fun _=>rfl,hp,fun h9=>absurd hrw.2 h9⟩
   refine (aP.take hr h0 hE).bind fun b a' e=>?_
   ·obtain ⟨hb,rfl⟩:=e
    obtain ⟨hbn,hbo⟩:=T.sp.bm.qd hb;have hb0:=T.sp.lay.iR hbo;have T':=T.Ln hn hbo hbn hrw.2;exact (aP.MZ hr hn T' hq hp (fun _=>show (b:Int)≠0 by omega) (h1:=h) (V1:=a.V) rfl (fun _=>rfl) ⟨rfl,rfl,rfl⟩ (fun _=>.inr hrw.1) wh).mono fin fun _ h=>h
  ·refine aP.congr (m':=nX ask n h q) ?_ fun st=>(if_pos hp).trans (if_neg hrw)
   exact (aP.MZ hr hn T hq hp (fun h9 h10=>hrw ⟨h9,h10⟩) (h1:=h) (V1:=a.V) rfl (fun _=>rfl) ⟨rfl,rfl,rfl⟩ (fun h9=>.inl h9) wh).mono fin fun _ h=>h
 ·have hpg:=T.ok.pg q hq
  obtain ⟨b,hb⟩:∃ b:Nat,h.bg q=(b:Int):=⟨(h.bg q).toNat,by omega⟩
  cases wh with
  | true=>
   refine aP.congr (m':=WM.pure (h,h.bg q,zs 480)) (aP.pure ?_) fun st=>(if_neg hp).trans (if_pos rfl);exact ⟨own,N,T,rfl,⟨b,hb,hb,by omega⟩,fun _ _=>rfl,⟨rfl,rfl,rfl⟩,fun h9=>.inl h9,aT 480,fun h9=>by cases h9⟩
  | false=>
   refine aP.congr (m':=WM.bind (cS ask (b:Int)) fun L=>WM.pure (h,h.bg q,L)) ?_ fun st=>by
    refine ((if_neg hp).trans (if_neg (by decide))).trans ?_;rw [hb]
   refine (aP.read hr (by omega) (by omega)).bind fun L a' e=>?_;obtain ⟨rfl,hL,e3⟩:=e;rw [e3];refine aP.pure ⟨own,N,T,rfl,⟨b,hb,hb,by omega⟩,fun _ _=>rfl,⟨rfl,rfl,rfl⟩,fun h9=>.inl h9,hL,fun _ r hr'=>?_⟩;unfold j9;rw [show (480*q+r)/480=q by omega,if_neg hp,hb,show (480*q+r)%480=r by omega,Int.toNat_natCast]
structure Q3 (n:Nat) (a0:Aw) (N0:Nat→Option Hd) (id K:Nat) (h0:Hd) (off:Nat) (d:List UInt8) (done:Nat) (a:Aw) (h:Hd):Prop where
 st:∃ own N,cm n a0 N0 id K a own N h
 same:yL h h0
 byts:∀ p,p<122880→j9 a.V h p=if off≤p∧p<off+done then d.getD (p-off) 0 else j9 a0.V h0 p
 prs:∀ i,i<256→eD h i=(eD h0 i || cG off done i)
 rw:h.n.rw≠0→h0.n.rw≠0∨∃ i,16≤i∧i<256∧cG off done i=true
theorem aP.wr (hr:rN ask n V0 I) (hn:n≤3840) (hfin:h0.Fin) (off:Nat) (d:List UInt8) (hm:off+d.length≤122880):∀ (f done:Nat) (a:Aw) (h:Hd),done≤d.length→d.length-done≤f→Q3 n a0 N0 id K h0 off d done a h→(done<d.length→done=0∨(off+done)%480=0) →
  aP n V0 I (vZ ask n off d f done h) a (fun h' a'=>Q3 n a0 N0 id K h0 off d d.length a' h') (fun c=>c=7∧K<cl fun i=>eD h0 i || cG off d.length i):=by
 intro f
 induction f with
 | zero=>
  intro done a h hd hf T _;obtain rfl:done=d.length:=by omega
  exact aP.pure T
 | succ f ih=>
  intro done a h hd hf T hal
  by_cases hlt:done<d.length
  ·obtain ⟨k,hk⟩:∃ k,gY (d.length-done) (off+done)=k:=⟨_,rfl⟩
   have hk2:k=min (d.length-done) (480-(off+done)%480):=by rw [← hk];rfl
   obtain ⟨q,hq⟩:∃ q,(off+done)/480=q:=⟨_,rfl⟩
   obtain ⟨r,hr'⟩:∃ r,(off+done)%480=r:=⟨_,rfl⟩
   have hqr:off+done=480*q+r:=by omega
   have hr480:r<480:=by omega
   have hq256:q<256:=by omega
   rw [hr'] at hk2
   refine aP.congr (m':=WM.bind (lC ask n h q (k == 480)) (xy (vZ ask n off d f) done off k d)) ?_ fun st=>by
    rw [← hq,← hk];exact if_pos hlt
   obtain ⟨own,N,T0⟩:=T.st;have htq:cG off d.length q=true:=cE.2 ⟨by omega,by omega,by omega⟩
   have hmono:∀ i,cG off done i=true→cG off d.length i=true:=fun i hi=>by
    obtain ⟨h1,h2,h3⟩:=cE.1 hi;exact cE.2 ⟨by omega,by omega,h3⟩
   refine ((aP.open hr hn T0 hq256 (k == 480)).mono (fun _ _ h=>h) fun c hE=>?_).bind fun p a' hP=>?_
   ·obtain ⟨rfl,hx,x1,x2,x3,x4⟩:=hE
    refine ⟨rfl,?_⟩;rw [← x1];unfold Hd.qV cl
    have hlt2:j8 (eD hx)+1≤j8 fun i=>eD h0 i || cG off d.length i:=by
     refine KW hq256 (fun i hi h1=>?_) ((gu hq256).2 (by rw [x2];exact x3)) (by simp only [htq,Bool.or_true])
     have h2:eD h i=true:=by
      obtain ⟨h3,h4⟩:=fG.1 h1;rw [x2] at h4;exact fG.2 ⟨h3,h4⟩
     rw [T.prs i hi,Bool.or_eq_true] at h2;rw [Bool.or_eq_true];rcases h2 with h2|h2
     ·exact .inl h2
     ·exact .inr (hmono i h2)
    by_cases hx0:hx.n.rw=0
    ·rw [if_pos hx0];omega
    ·rw [if_neg hx0,if_pos]
     ·omega
     ·rw [fY]
      rcases x4 hx0 with h9|h9
      ·rcases T.rw h9 with h9|⟨i,i1,i2,i3⟩
       ·obtain ⟨i,i1,i2,i3⟩:=hfin.rwp h9
        exact ⟨i,i1,i2,by rw [Bool.or_eq_true];exact .inl (fG.2 ⟨i2,i3⟩)⟩
       ·exact ⟨i,i1,i2,by rw [Bool.or_eq_true];exact .inr (hmono i i3)⟩
      ·exact ⟨q,h9,hq256,by rw [Bool.or_eq_true];exact .inr htq⟩
   ·obtain ⟨h',bI,L⟩:=p
    obtain ⟨own',N',T1,hV,⟨b,p1,p2,p3⟩,p4,p5,p6,p7,p8⟩:=hP;dsimp only at T1 p1 p2 p4 p5 p6 p7 p8;subst p1;obtain ⟨seg,hseg⟩:∃ s,(d.drop done).take k=s:=⟨_,rfl⟩
    have hsl:seg.length=k:=by rw [← hseg,List.length_take,List.length_drop];omega
    have hpl:(putAt L r seg).length=480:=by rw [gL (by rw [hsl,p7];omega)];exact p7
    refine aP.congr (m':=WM.bind (bN (b:Int) (putAt L r seg)) fun _=>vZ ask n off d f (done+k) h') ?_ fun st=>by
     unfold xy;dsimp only;rw [hr',hseg]
    refine (aP.write p3 (by have h9:=(T1.ok.pg q (by omega)).2;rw [p2] at h9;omega) hpl).bind fun _ a'' e=>?_;rw [e];obtain ⟨T2,hb⟩:=T1.DV hq256 p2 p3 hpl;refine ih (done+k) _ h' (by omega) (by omega) ⟨⟨own',N',T2⟩,⟨p5.1.trans T.same.1,p5.2.1.trans T.same.2.1,p5.2.2.trans T.same.2.2⟩,fun p hp=>?_,fun i hi=>?_,fun h9=>?_⟩ (fun _=>by right;omega)
    ·show j9 (zB a'.V b (putAt L r seg)) h' p=_
     rw [hb p hp]
     by_cases e:p/480=q
     ·rw [if_pos e,sA (by rw [hsl,p7];omega),hsl]
      by_cases e2:r≤p%480∧p%480<r+k
      ·rw [if_pos e2,if_pos (by omega),← hseg]
       simp only [List.getD];rw [List.getElem?_take,if_pos (by omega),List.getElem?_drop,show done+(p%480-r)=p-off by omega]
      ·have hw:(k == 480)=false:=by
        cases hk9:(k == 480) with
        | false=>rfl
        | true=>
         have:k=480:=by simpa using hk9
         omega
       rw [if_neg e2,p8 hw _ (by omega),show 480*q+p%480=p by omega,T.byts p hp]
       by_cases e3:off≤p∧p<off+done
       ·rw [if_pos e3,if_pos (by omega)]
       ·rw [if_neg e3,if_neg (by omega)]
     ·rw [if_neg e,Io (p4 _ e),hV,T.byts p hp]
      by_cases e3:off≤p∧p<off+done
      ·rw [if_pos e3,if_pos (by omega)]
      ·rw [if_neg e3,if_neg (by omega)]
    ·by_cases e:i=q
     ·subst e
      rw [fG.2 ⟨hi,by omega⟩];have:cG off (done+k) i=true:=cE.2 ⟨by omega,by omega,by omega⟩;rw [this,Bool.or_true]
     ·have e1:eD h' i=eD h i:=by unfold eD;rw [p4 i e]
      rw [e1,T.prs i hi];congr 1
      cases h9:cG off done i with
      | true=>
       obtain ⟨h1,h2,h3⟩:=cE.1 h9;exact (cE.2 ⟨by omega,by omega,h3⟩).symm
      | false=>
       cases h10:cG off (done+k) i with
       | false=>rfl
       | true=>
        obtain ⟨h1,h2,h3⟩:=cE.1 h10;have:cG off done i=true:=cE.2 ⟨by omega,by omega,h3⟩;rw [this] at h9;cases h9
    ·rcases p6 h9 with h10|h10
     ·rcases T.rw h10 with h11|⟨i,i1,i2,i3⟩
      ·exact .inl h11
      ·obtain ⟨h1,h2,h3⟩:=cE.1 i3
       exact .inr ⟨i,i1,i2,cE.2 ⟨by omega,by omega,h3⟩⟩
     ·exact .inr ⟨q,h10,hq256,cE.2 ⟨by omega,by omega,by omega⟩⟩
  ·obtain rfl:done=d.length:=by omega
   refine aP.congr (m':=WM.pure h) (aP.pure T) fun st=>if_neg hlt
theorem JB {A:Nat→Option AF} (hf:A id=some f):eS A id (some f)=A:=by
 funext b
 by_cases e:b=id
 ·subst e;rw [bF,hf]
 ·exact aQ _ _ e
theorem AF.Nv (f:AF) (off:Nat) {d:List UInt8} (hd:d.length=0):f.wr off d=f:=by
 obtain ⟨kd,lk,sz,dat,pr⟩:=f;unfold AF.wr;rw [if_pos hd,hd];congr 1
 ·funext p;rw [if_neg (by omega)]
 ·funext i
  have:cG off 0 i=false:=by unfold cG;simp
  rw [this,Bool.or_false]
theorem aP.LU (hr:rN ask n V0 I) (hn:n≤3840) (hh:Has n a A k) (hf:A id=some f) (off:Nat) (d:List UInt8) (hd:d.length≤4096) (hm:off+d.length≤122880) :
  aP n V0 I (fW ask n (id:Int) (off:Int) d) a (fun _ a'=>Has n a' (eS A id (some (f.wr off d))) (k+cl f.pr-cl (f.wr off d).pr)∧cl (f.wr off d).pr≤k+cl f.pr) (fun c=>c=7∧k+cl f.pr<cl (f.wr off d).pr):=by
 have hh0:=hh;obtain ⟨own,N,S,hk,hA⟩:=hh;obtain ⟨h,hN,rfl⟩:=Has.at hA hf;obtain ⟨i0,i1,ho⟩:=S.lay.ok _ _ hN;obtain ⟨hfin,hs,ht⟩:=S.rest id h (by omega) hN;have z0:=ho.sz0;have z1:=ho.sz1;refine (aP.load hr hn S hN).bind fun x a' e=>?_;obtain ⟨rfl,rfl⟩:=e
 by_cases hd0:d.length=0
 ·rw [AF.Nv _ _ hd0]
  refine aP.congr (m':=WM.pure ()) (aP.pure ⟨?_,by omega⟩) fun st=>(if_pos ⟨by omega,hd,by omega⟩).trans (if_pos hd0);rw [JB hf,Nat.add_sub_cancel];exact hh0
 ·refine aP.congr (m':=WM.bind (vZ ask n off d d.length 0 x) (EW off d)) ?_ fun st=>by
   refine ((if_pos ⟨by omega,hd,by omega⟩).trans (if_neg hd0)).trans ?_;rw [Int.toNat_natCast]
  have hnd:cl (jC a'.V x).pr=x.qV:=(ho.qV hfin).symm
  have W0:Q3 n a' N id (xQ own n+x.qV) x off d 0 a' x:=⟨⟨own,N,cm.start S hN⟩,⟨rfl,rfl,rfl⟩,fun p _=>by rw [if_neg (by omega)],fun i _=>by
   have:cG off 0 i=false:=by unfold cG;simp
   rw [this,Bool.or_false],fun h9=>.inl h9⟩
  refine ((aP.wr hr hn hfin off d hm d.length 0 a' x (Nat.zero_le _) (by omega) W0 (fun _=>.inl rfl)).mono (fun _ _ h=>h) fun c hc=>⟨hc.1,by rw [hnd,← hk];exact hc.2⟩).bind fun h' a'' W=>?_
  ·obtain ⟨own',N',T⟩:=W.st
   obtain ⟨s1,s2,s3⟩:=W.same;obtain ⟨z,hz⟩:∃ z,max h'.n.sz ((off+d.length:Nat):Int)=z:=⟨_,rfl⟩
   show aP n V0 I (dS (h'.lL (max h'.n.sz ((off+d.length:Nat):Int)))) a'' _ _
   rw [hz];have hz2:z=max x.n.sz ((off+d.length:Nat):Int):=by rw [← hz,s3]
   have ho1:=T.ok;have ho':(h'.lL z).Ok n id:=⟨ho1.fit,ho1.id,ho1.kd,ho1.L7,ho1.lk1,show 0≤z by omega,show z≤122880 by omega,ho1.rw0,ho1.rw1,ho1.pg,ho1.rz⟩
   have T':=T.set ho' rfl fun _ _=>rfl
   have hfin':(h'.lL z).Fin:=by
    refine ⟨fun i hi hb=>?_,fun h9=>?_⟩
    ·have hb':cJ z≤i:=hb
     show h'.bg i=0
     rw [← gu hi,W.prs i hi];have e1:eD x i=false:=(gu hi).2 (hfin.hi i hi (by unfold cJ at hb' ⊢;omega))
     have e2:cG off d.length i=false:=by
      cases h9:cG off d.length i with
      | false=>rfl
      | true=>
       obtain ⟨h1,h2,h3⟩:=cE.1 h9;unfold cJ at hb';omega
     rw [e1,e2];rfl
    ·rcases W.rw h9 with h9|⟨i,i1,i2,i3⟩
     ·obtain ⟨i,i1,i2,i3⟩:=hfin.rwp h9
      refine ⟨i,i1,i2,?_⟩;have:eD h' i=true:=by rw [W.prs i i2,fG.2 ⟨i2,i3⟩];rfl
      exact (fG.1 this).2
     ·refine ⟨i,i1,i2,?_⟩
      have:eD h' i=true:=by rw [W.prs i i2,i3,Bool.or_true]
      exact (fG.1 this).2
   have hby:∀ p,p<122880→j9 a''.V (h'.lL z) p=((jC a'.V x).wr off d).dat p:=fun p hp=>by
    show j9 a''.V h' p=if off≤p∧p<off+d.length then d.getD (p-off) 0 else if p<122880 then j9 a'.V x p else 0
    rw [W.byts p hp,if_pos hp]
   refine (aP.pJ T' hn hfin').mono (fun _ b e=>?_) fun _ h=>h;subst e;have:=T'.done hn hfin' (fun p h1 h2=>?_) hA ((jC a'.V x).wr off d) s1 s2 ?_ hby (fun p hp=>?_) (fun i hi=>W.prs i hi) fun i hi=>?_
   ·rw [← hk,hnd]
    refine ⟨this,?_⟩;have h1:=T'.cons;have h2:=ho'.qV hfin';have h3:cl ((jC a'.V x).wr off d).pr=cl (eD (h'.lL z)):=rC fun i hi=>(W.prs i hi).symm;omega
   ·have h2':z≤p:=h2
    rw [hby p h1];show (if off≤p∧p<off+d.length then d.getD (p-off) 0 else if p<122880 then j9 a'.V x p else 0)=0
    rw [if_neg (by omega),if_pos h1];exact ht p h1 (by omega)
   ·show z=(((if d.length=0 then x.n.sz.toNat else max x.n.sz.toNat (off+d.length)):Nat):Int)
    rw [if_neg hd0];omega
   ·show (if off≤p∧p<off+d.length then d.getD (p-off) 0 else if p<122880 then j9 a'.V x p else 0)=0
    rw [if_neg (by omega),if_neg (by omega)]
   ·show (eD x i || cG off d.length i)=false
    have e1:eD x i=false:=by unfold eD;simp;omega
    have e2:cG off d.length i=false:=by
     cases h9:cG off d.length i with
     | false=>rfl
     | true=>
      obtain ⟨h1,h2,h3⟩:=cE.1 h9;omega
    rw [e1,e2];rfl
end
section
variable {σ α:Type} {n id k:Nat} {own:Nat→Own} {N:Nat→Option Hd} {a a':Aw} {V0:Nat→List UInt8} {I:σ→Prop} {ask:dx σ} {E:Int→Prop} {P:α→Aw→Prop} {A:Nat→Option AF} {f:AF} {M:gW σ} {m:WM σ α}
theorem Has.congr (h:Has n a A k) (hV:∀ i,0<i→i<n→a'.V i=a.V i) (hB:a'.B=a.B):Has n a' A k:=by
 obtain ⟨own,N,S,hk,hA⟩:=h
 have key:∀ id g,N id=some g→(∀ b,b=id∨own b=FU id→a'.V b=a.V b)∧∀ b i,own b=C2 id i→a'.V b=a.V b:=by
  intro id g hg;obtain ⟨i0,i1,ho⟩:=S.lay.ok _ _ hg
  have hlt:∀ b,own b≠qj→own b≠Hu→a'.V b=a.V b:=fun b h1 h2=>by
   refine hV b ?_ ?_
   ·rcases Nat.eq_zero_or_pos b with e|e
    ·subst e;exact absurd S.lay.zero h2
    ·exact e
   ·refine Nat.lt_of_not_le fun h9=>h1 (S.lay.out b h9)
  refine ⟨fun b hb=>?_,fun b i hb=>hlt b (by rw [hb];simp) (by rw [hb];simp)⟩;rcases hb with rfl|hb
  ·exact hV b i0 i1
  ·exact hlt b (by rw [hb];simp) (by rw [hb];simp)
 refine ⟨own,N,⟨S.lay,by rw [hB];exact S.bm,fun b h0 hb=>by rw [hV b h0 hb];exact S.len b h0 hb,fun id g hne hg=>?_⟩,hk,fun id=>?_⟩
 ·obtain ⟨h1,h2,h3⟩:=S.rest id g hne hg
  exact ⟨h1,h2.frame S.lay hg (key id g hg).1,h3.frame S.lay hg (key id g hg).2⟩
 ·rw [hA id]
  cases hg:N id with
  | none=>rfl
  | some g=>
   show some (jC a.V g)=some (jC a'.V g)
   congr 1;unfold jC;congr 1;funext p
   split
   ·rename_i hp;exact (mA S.lay hg (key id g hg).2 hp).symm
   ·rfl
structure pS (n:Nat) (V0:Nat→List UInt8) (I:σ→Prop) (M:gW σ) (A:Nat→Option AF) (k:Nat):Prop where
 good:Good n V0 I M
 has:Has n (Kq V0 M) A k
theorem pS.reader (h:pS n V0 I M A k) {s:σ} (hs:I s):pS n V0 I { M with s:=s } A k:=⟨⟨h.good.err,hs,h.good.wr,h.good.rd,h.good.keys⟩,h.has⟩
theorem pS.run (hr:rN ask n V0 I) (h0:0<n) (h:pS n V0 I M A k) (hD:aP n V0 I m (Kq V0 M) P E) :
  (∃ x M' a',eh m M=(.ok x,M')∧P x a'∧∀ A' k',Has n a' A' k'→pS n V0 I M' A' k')∨∃ c s',eh m M=(.bad c,{ M with s:=s' })∧E c∧pS n V0 I { M with s:=s' } A k:=by
 rcases aP.run hr h0 h.good hD with ⟨x,M',a',h1,h2,h3,h4,h5⟩|⟨c,s',h1,h2,h3⟩
 ·exact .inl ⟨x,M',a',h1,h3,fun A' k' hh=>⟨h2,hh.congr h5 h4⟩⟩
 ·exact .inr ⟨c,s',h1,h3,h.reader h2⟩
variable (hr:rN ask n V0 I) (h0:0<n) (hn:n≤3840)
include hr h0
theorem AM (h4:4≤n) (hn:n≤3840) (hM:Good n V0 I M):∃ M',eh (iA ask) M=(.ok (),M')∧pS n V0 I M' (fun id=>if id=1 then some (fN 2) else none) (n-2):=by
 rcases aP.run hr h0 hM (aP.format (E:=fun _=>False) hr h4 hn fun b _ hb=>hM.LC hr hb) with ⟨x,M',a',h1,h2,h3,h4,h5⟩|⟨c,s',h1,h2,h3⟩
 ·exact ⟨M',h1,h2,h3.congr h5 h4⟩
 ·exact h3.elim
include hn
theorem GC (h:pS n V0 I M A k) (hf:A id=some f):∃ x M',eh (pj ask n (id:Int)) M=(.ok x,M')∧x.kd=f.kd∧x.lk=f.lk∧x.sz=f.sz∧pS n V0 I M' A k:=by
 rcases h.run hr h0 (aP.node (E:=fun _=>False) hr hn h.has hf) with ⟨x,M',a',h1,⟨h2,h3,h4,h5⟩,h6⟩|⟨c,s',h1,h2,h3⟩
 ·exact ⟨x,M',h1,h2,h3,h4,h6 _ _ (by rw [h5];exact h.has)⟩
 ·exact h2.elim
theorem Bp (h:pS n V0 I M A k) (hf:A id=some f) (off cnt:Nat):∃ M',eh (iU ask n (id:Int) (off:Int) (cnt:Int)) M=(.ok (f.sub off cnt),M')∧pS n V0 I M' A k:=by
 rcases h.run hr h0 (aP.O5 (E:=fun _=>False) hr hn h.has hf off cnt) with ⟨x,M',a',h1,⟨h2,h5⟩,h6⟩|⟨c,s',h1,h2,h3⟩
 ·exact ⟨M',by rw [h1,h2],h6 _ _ (by rw [h5];exact h.has)⟩
 ·exact h2.elim
theorem LL (h:pS n V0 I M A k) {kd:Int} (hkd:kd=1∨kd=2) :
  (∃ id M',eh (uA ask n kd) M=(.ok id,M')∧A id=none∧0<id∧id<n∧0<k∧pS n V0 I M' (eS A id (some (fN kd))) (k-1))∨(∃ s',eh (uA ask n kd) M=(.bad 7,{ M with s:=s' })∧k=0∧pS n V0 I { M with s:=s' } A k):=by
 rcases h.run hr h0 (aP.new hr h0 hn h.has hkd) with ⟨x,M',a',h1,⟨h2,h3,h4,h5,h6⟩,h7⟩|⟨c,s',h1,⟨rfl,h2⟩,h3⟩
 ·exact .inl ⟨x,M',h1,h2,h3,h4,h5,h7 _ _ h6⟩
 ·exact .inr ⟨s',h1,h2,h3⟩
theorem EU (h:pS n V0 I M A k) (hf:A id=some f) (d:Int) :
  (∃ M',eh (j0 ask n (id:Int) d) M=(.ok (),M')∧(0≤wrap64 (f.lk+d)∧wrap64 (f.lk+d)≤65535)∧pS n V0 I M' (eS A id (some { f with lk:=wrap64 (f.lk+d) })) k) ∨
  (∃ s',eh (j0 ask n (id:Int) d) M=(.bad 1,{ M with s:=s' })∧¬ (0≤wrap64 (f.lk+d)∧wrap64 (f.lk+d)≤65535)∧pS n V0 I { M with s:=s' } A k):=by
 rcases h.run hr h0 (aP.Pq hr hn h.has hf d) with ⟨x,M',a',h1,⟨h2,h3⟩,h7⟩|⟨c,s',h1,⟨rfl,h2⟩,h3⟩
 ·exact .inl ⟨M',h1,h2,h7 _ _ h3⟩
 ·exact .inr ⟨s',h1,h2,h3⟩
theorem re (h:pS n V0 I M A k) (hf:A id=some f) (off:Nat) (d:List UInt8) (hd:d.length≤4096) (hm:off+d.length≤122880) :
  (∃ M',eh (fW ask n (id:Int) (off:Int) d) M=(.ok (),M')∧cl (f.wr off d).pr≤k+cl f.pr∧pS n V0 I M' (eS A id (some (f.wr off d))) (k+cl f.pr-cl (f.wr off d).pr)) ∨
  (∃ s',eh (fW ask n (id:Int) (off:Int) d) M=(.bad 7,{ M with s:=s' })∧k+cl f.pr<cl (f.wr off d).pr∧pS n V0 I { M with s:=s' } A k):=by
 rcases h.run hr h0 (aP.LU hr hn h.has hf off d hd hm) with ⟨x,M',a',h1,⟨h2,h3⟩,h7⟩|⟨c,s',h1,⟨rfl,h2⟩,h3⟩
 ·exact .inl ⟨M',h1,h3,h7 _ _ h2⟩
 ·exact .inr ⟨s',h1,h2,h3⟩
end
variable {σ α β:Type} {m:WM σ α} {k:α→WM σ β} {ask:dx σ} {c d n:Nat}
def bZ (m:WM σ α) (c:Nat):Prop:=∀ st a st',m st=(.ok a,st')→st'.b.W.length≤st.b.W.length+c
theorem bZ.bind (h:bZ m c) (hk:∀ a,bZ (k a) d):bZ (WM.bind m k) (c+d):=by
 intro st a st' e;unfold WM.bind at e
 cases hm:m st with
 | mk r s1=>
  rw [hm] at e
  cases r with
  | ok x=>have h1:=h _ _ _ hm;have h2:=hk x _ _ _ e;omega
  | bad c=>cases e
theorem bZ.iJ (h:bZ m 0) (hk:∀ a,bZ (k a) d):bZ (WM.bind m k) d:=by
 have:=h.bind hk;rwa [Nat.zero_add] at this
theorem bZ.mono (h:bZ m c) (hc:c≤d):bZ m d:=fun st a st' e=>by have:=h _ _ _ e;omega
theorem bZ.pure (a:α):bZ (WM.pure a:WM σ α) 0:=fun st b st' e=>by cases e;exact Nat.le_refl _
theorem bZ.ite {p:Prop} [Decidable p] {m':WM σ α} (h:bZ m c) (h':bZ m' c):bZ (fun st=>if p then m st else m' st) c:=fun st a st' e=>by
 simp only at e;split at e;exact h _ _ _ e;exact h' _ _ _ e
theorem bZ.stop (z:Int):bZ (fun st=>(.bad z,st):WM σ α) 0:=fun st a st' e=>by cases e
theorem bZ.skip (a:α):bZ (fun st=>(.ok a,st):WM σ α) 0:=fun st b st' e=>by cases e;exact Nat.le_refl _
theorem Bj (b:gW σ) (id:Int):(fy ask b id).2.W=b.W:=by
 unfold fy
 split
 ·rfl
 ·split
  ·rfl
  ·split
   ·rfl
   ·unfold qA;split <;> rfl
theorem kI (id:Int):bZ (cS ask id) 0:=fun st a st' e=>by
 unfold cS at e
 split at e
 ·cases e
 ·split at e
  ·cases e
  ·cases e;show (fy ask st.b id).2.W.length≤_;rw [Bj];omega
theorem kQ (id:Int) (l:List UInt8):bZ (bN id l:WM σ Unit) 1:=fun st a st' e=>by
 unfold bN at e
 split at e
 ·cases e
  show (SL.fw st.b.W id l).length≤_
  rw [A0];split <;> omega
 ·cases e
theorem uW:bZ (kG ask) 0:=fun st a st' e=>by
 unfold kG at e
 split at e
 ·cases e;exact Nat.le_refl _
 ·split at e
  ·rename_i h;cases e;have:=kI 0 _ _ _ h;exact this
  ·cases e
theorem uS (id:Nat) (t:Bool):bZ (fq ask id t) 0:=uW.iJ fun l st a st' e=>by cases e;exact Nat.le_refl _
theorem nf:bZ (ib ask n) 0:=uW.iJ fun l st a st' e=>by
 unfold pU at e
 cases hf:eL l n with
 | none=>rw [hf] at e;cases e
 | some k=>rw [hf] at e;cases e;exact Nat.le_refl _
theorem lS (l:List Int):bZ (ed n l:WM σ Unit) 0:=fun st a st' e=>by
 unfold ed at e;split at e <;> cases e;exact Nat.le_refl _
theorem si (id:Nat) (nd:Nd) (row:List Int):bZ (ik n id nd row:WM σ Hd) 0:=(lS _).iJ fun _=>(lS _).iJ fun _=>bZ.pure _
theorem vK (id:Int):bZ (gQ ask n id) 0:=by
 refine bZ.ite ((kI _).iJ fun L=>bZ.ite (bZ.ite (si _ _ _) ((lS _).iJ fun _=>(kI _).iJ fun L=>bZ.ite (si _ _ _) (bZ.stop _))) (bZ.stop _)) (bZ.stop _)
theorem mY (h:Hd):bZ (dS h:WM σ Unit) 2:=by
 refine bZ.ite ((kQ _ _).bind (d:=1) fun _=>bZ.ite ((bZ.skip _).mono (by omega)) (bZ.ite (kQ _ _) ((bZ.stop _).mono (by omega)))) ((bZ.stop _).mono (by omega))
def Still (m:WM σ α):Prop:=∀ st a st',m st=(.ok a,st')→st'.b.W.length≤st.b.W.length∧st'.dt=st.dt
theorem Still.bind (h:Still m) (hk:∀ a,Still (k a)):Still (WM.bind m k):=by
 intro st a st' e;unfold WM.bind at e
 cases hm:m st with
 | mk r s1=>
  rw [hm] at e
  cases r with
  | ok x=>have h1:=h _ _ _ hm;have h2:=hk x _ _ _ e;exact ⟨Nat.le_trans h2.1 h1.1,h2.2.trans h1.2⟩
  | bad c=>cases e
theorem Still.pure (a:α):Still (WM.pure a:WM σ α):=fun st b st' e=>by cases e;exact ⟨Nat.le_refl _,rfl⟩
theorem Still.ite {p:Prop} [Decidable p] {m':WM σ α} (h:Still m) (h':Still m'):Still (fun st=>if p then m st else m' st):=fun st a st' e=>by
 simp only at e;split at e;exact h _ _ _ e;exact h' _ _ _ e
theorem Still.stop (z:Int):Still (fun st=>(.bad z,st):WM σ α):=fun st a st' e=>by cases e
theorem Still.skip (a:α):Still (fun st=>(.ok a,st):WM σ α):=fun st b st' e=>by cases e;exact ⟨Nat.le_refl _,rfl⟩
theorem nO (id:Int):Still (cS ask id):=fun st a st' e=>by
 refine ⟨kI id _ _ _ e,?_⟩;unfold cS at e
 split at e
 ·cases e
 ·split at e <;> cases e
  rfl
theorem kO (l:List Int):Still (ed n l:WM σ Unit):=fun st a st' e=>by
 unfold ed at e;split at e <;> cases e;exact ⟨Nat.le_refl _,rfl⟩
theorem q9 (id:Nat) (nd:Nd) (row:List Int):Still (ik n id nd row:WM σ Hd):=(kO _).bind fun _=>(kO _).bind fun _=>Still.pure _
theorem uf (id:Int):Still (gQ ask n id):=
 Still.ite ((nO _).bind fun L=>Still.ite (Still.ite (q9 _ _ _) ((kO _).bind fun _=>(nO _).bind fun L=>Still.ite (q9 _ _ _) (Still.stop _))) (Still.stop _)) (Still.stop _)
theorem AL (node:Int):Still (pj ask n node):=(uf _).bind fun _=>Still.pure _
theorem ur (h:Hd) (off:Nat):∀ (f done:Nat) (L:List UInt8),Still (Au ask h off f done L)
 | 0,_,L=>Still.pure L
 | f+1,done,L=>Still.ite (Still.ite (ur h off f _ L) ((nO _).bind fun _=>ur h off f _ _)) (Still.skip _)
theorem wZ (node off cnt:Int):Still (iU ask n node off cnt):=(uf _).bind fun h=>Still.ite (Still.ite (Still.skip _) (ur _ _ _ _ _)) (Still.stop _)
theorem Still.run (h:Still m) {M M':gW σ} {x:α} (e:eh m M=(.ok x,M')):M'.W.length≤M.W.length:=by
 cases hm:m ⟨M,none,false⟩ with
 | mk r st=>
  cases r with
  | ok y=>
   have h1:=h _ _ _ hm;rw [mz hm h1.2] at e;cases e;exact h1.1
  | bad z=>rw [kF hm] at e;cases e
theorem bZ.run (h:bZ m c) {M M':gW σ} {x:α} (e:eh m M=(.ok x,M')):M'.W.length≤M.W.length+(c+1):=by
 unfold eh at e
 have hf:bZ (lW:WM σ Unit) 1:=fun st a st' e=>by
  unfold lW at e
  split at e
  ·exact kQ _ _ st a st' e
  ·cases e;omega
 have hb:bZ (WM.bind m fun a=>WM.bind lW fun _=>WM.pure a) (c+1):=h.bind fun a=>hf.bind (d:=0) fun _=>bZ.pure a
 cases hm:(WM.bind m fun a=>WM.bind lW fun _=>WM.pure a) ⟨M,none,false⟩ with
 | mk r st=>
  rw [hm] at e
  cases r with
  | ok y=>cases e;exact hb _ _ _ hm
  | bad z=>cases e
theorem G7 (kd:Int):bZ (uA ask n kd) 2:=bZ.ite (nf.iJ fun id=>(mY _).bind (d:=0) fun _=>bZ.pure _) ((bZ.stop _).mono (by omega))
theorem Bi (node d':Int):bZ (j0 ask n node d') 2:=(vK _).iJ fun h=>bZ.ite (mY _) ((bZ.stop _).mono (by omega))
theorem Er (h:Hd) (i:Nat) (wh:Bool):bZ (lC ask n h i wh) 0:=
 bZ.ite (bZ.ite (nf.iJ fun r=>nf.iJ fun _=>bZ.pure _) (nf.iJ fun _=>bZ.pure _)) (bZ.ite (bZ.skip _) ((kI _).iJ fun _=>bZ.pure _))
def yo (off l done:Nat):Nat:=if done<l then (off+l-1)/480-(off+done)/480+1 else 0
theorem EF {off l done:Nat} (h:done<l):1+yo off l (done+gY (l-done) (off+done))≤yo off l done:=by
 have e1:yo off l done=(off+l-1)/480-(off+done)/480+1:=if_pos h;rw [e1]
 by_cases h2:done+gY (l-done) (off+done)<l
 ·have e2:yo off l (done+gY (l-done) (off+done))=(off+l-1)/480-(off+(done+gY (l-done) (off+done)))/480+1:=if_pos h2
  rw [e2];have e3:gY (l-done) (off+done)=480-(off+done)%480:=by unfold gY at h2 ⊢;omega
  rw [e3] at h2 ⊢;omega
 ·have e2:yo off l (done+gY (l-done) (off+done))=0:=if_neg h2
  rw [e2];omega
theorem CX (off:Nat) (dt:List UInt8):∀ (f done:Nat) (h:Hd),bZ (vZ ask n off dt f done h) (yo off dt.length done)
 | 0,_,h=>(bZ.pure h).mono (by omega)
 | f+1,done,h=>by
  by_cases hd:done<dt.length
  ·have h2:bZ (WM.bind (lC ask n h ((off+done)/480) (gY (dt.length-done) (off+done) == 480)) (xy (vZ ask n off dt f) done off (gY (dt.length-done) (off+done)) dt)) (1+yo off dt.length (done+gY (dt.length-done) (off+done))):=
    (Er _ _ _).iJ fun p=>(kQ _ _).bind fun _=>CX off dt f _ _
   intro st a st' e;have e1:vZ ask n off dt (f+1) done h st=(WM.bind (lC ask n h ((off+done)/480) (gY (dt.length-done) (off+done) == 480)) (xy (vZ ask n off dt f) done off (gY (dt.length-done) (off+done)) dt)) st:=if_pos hd;rw [e1] at e;have h3:=h2 _ _ _ e;have h4:=EF (off:=off) hd;omega
  ·intro st a st' e
   have e1:vZ ask n off dt (f+1) done h st=(.ok h,st):=if_neg hd;rw [e1] at e;cases e
   omega
theorem xk (node off:Int) (dt:List UInt8):bZ (fW ask n node off dt) (dt.length/480+4):=by
 refine (vK _).iJ fun h=>bZ.ite (bZ.ite ((bZ.skip _).mono (by omega)) (((CX _ _ _ _ _).mono (d:=dt.length/480+2) ?_).bind fun _=>mY _)) ((bZ.stop _).mono (by omega));unfold yo
 split <;> omega
theorem xU:bZ (iA ask) 2:=fun st a st' e=>((uS 0 true).iJ fun _=>(uS 1 true).iJ fun _=>mY _) { st with bits:=some (zs 480) } a st' e
end Go.SL
namespace Go.Fs
open Go.RowKit Go.SL Go.Ba
structure Fx (n:Nat) where
 σ:Type
 c:Cx σ
 V0:Nat→List UInt8
 I:σ→Prop
 ok:c.Ok
 rdr:rN c.ask n V0 I
 h4:4≤n
 hn:n≤3840
 R:Hp→ah
 hR:∀ S S',Ext S S'→∀ h,R S h→R S' h
 C:Nat
@[reducible] def Fx.more {n:Nat} (x:Fx n) (m:Nat):Fx n:=⟨x.σ,x.c,x.V0,x.I,x.ok,x.rdr,x.h4,x.hn,x.R,x.hR,x.C+m⟩
def Ou {n:Nat} (x:Fx n) (b:Nat) (M:gW x.σ):ah:=ex fun S=>cC x.c S b M*(aj S*x.R S)
abbrev xT {n:Nat} (x:Fx n) (M:gW x.σ) (A:Nat→Option AF) (k:Nat):Prop:=pS n x.V0 x.I M A k∧M.W.length≤x.C
def et {n:Nat} (x:Fx n) (b:Nat) (A:Nat→Option AF) (k:Nat):ah:=ex fun M=>fact (xT x M A k)*Ou x b M
section
variable {n:Nat} {x:Fx n} {b k:Nat} {A:Nat→Option AF} {M:gW x.σ} {w w':World} {F:ah}
theorem Sat.ta (h:Sat w (Ou x b M*F)):∃ S,Sat w (cC x.c S b M*(aj S*(x.R S*F))):=by
 obtain ⟨S,h1⟩:=Sat.au.1 h;exact ⟨S,h1.to (by ac_rfl)⟩
theorem Sat.wj {S S':Hp} (hE:Ext S S') (h:Sat w (cC x.c S' b M*(aj S'*(x.R S*F)))):Sat w (Ou x b M*F):=by
 have h1:=(h.to (by ac_rfl:_=x.R S*(cC x.c S' b M*(aj S'*F)))).fh (x.hR S S' hE);exact Sat.au.2 ⟨S',h1.to (by ac_rfl)⟩
theorem Sat.rG (h:Sat w (et x b A k*F)):∃ M,xT x M A k∧Sat w (Ou x b M*F):=by
 obtain ⟨M,h1⟩:=Sat.au.1 h;obtain ⟨h2,h3⟩:=Sat.ak.1 (h1.to (aw _ _ _));exact ⟨M,h2,h3⟩
theorem Sat.th (hm:xT x M A k) (h:Sat w (Ou x b M*F)):Sat w (et x b A k*F):=
 Sat.au.2 ⟨M,(Sat.ak.2 ⟨hm,h⟩:Sat w (fact (xT x M A k)*(Ou x b M*F))).to (aw _ _ _).symm⟩
theorem Sat.CN (m:Nat) (h:Sat w (et x b A k*F)):Sat w (et (x.more m) b A k*F):=by
 obtain ⟨M,hm,h1⟩:=Sat.rG h;exact Sat.th (x:=x.more m) ⟨hm.1,Nat.le_trans hm.2 (Nat.le_add_right _ _)⟩ h1
def YI {n:Nat} (x:Fx n) (b:Nat) (A:Nat→Option AF) (k:Nat) (v c:Int) (F:ah) (w:World) (e:Ending) (w':World):Prop:=
 e = .returned (.tuple #[.int .i64 v,.int .i64 c])∧ai w w'∧Sat w' (et x b A k*F)
def YE {n:Nat} (x:Fx n) (b:Nat) (A:Nat→Option AF) (k:Nat) (c:Int) (F:ah) (w:World) (e:Ending) (w':World):Prop:=
 e = .returned (.int .i64 c)∧ai w w'∧Sat w' (et x b A k*F)
def YB {n:Nat} (x:Fx n) (b:Nat) (A:Nat→Option AF) (k:Nat) (l:List UInt8) (F:ah) (w:World) (e:Ending) (w':World):Prop:=
 ∃ v,e = .returned (.tuple #[v,.int .i64 0])∧ai w w'∧Sat w' (bs 5 v l*(et x b A k*F))
def YN {n:Nat} (x:Fx n) (b:Nat) (A:Nat→Option AF) (k:Nat) (f:AF) (F:ah) (w:World) (e:Ending) (w':World):Prop:=
 ∃ y:Nd,e = .returned (.tuple #[.agg (ints y.l),.int .i64 0])∧y.dr.length=16∧y.kd=f.kd∧y.lk=f.lk∧y.sz=f.sz∧ai w w'∧Sat w' (et x b A k*F)
def QK {n:Nat} (x:Fx n) (b:Nat) (A:Nat→Option AF) (k:Nat) (kd:Int) (F:ah) (w:World) (e:Ending) (w':World):Prop:=
 ∃ id:Nat,e = .returned (.tuple #[.int .i64 (id:Int),.int .i64 0])∧A id=none∧0<id∧id<n∧ai w w'∧Sat w' (et x b (eS A id (some (fN kd))) (k-1)*F)
section
variable {S:Hp} {c:Int} {M':gW x.σ} {A':Nat→Option AF} {k':Nat} {e:Ending}
theorem Lb.ye {p:Rs Unit × gW x.σ} (h:Lb x.c b S (x.R S*F) w p e w') (hp:p=(.ok (),M')) (hA:xT x M' A' k'):YE x b A' k' 0 F w e w':=by
 subst hp;obtain ⟨S',hE,d,he,hs⟩:=h;exact ⟨he,d,Sat.th hA (Sat.wj hE hs)⟩
theorem Lb.no {p:Rs Unit × gW x.σ} (h:Lb x.c b S (x.R S*F) w p e w') (hp:p=(.bad c,M')) (hA:xT x M' A' k'):YE x b A' k' c F w e w':=by
 subst hp;obtain ⟨S',hE,d,he,hs⟩:=h;exact ⟨he,d,Sat.th hA (Sat.wj hE hs)⟩
end
variable (h:Sat w (et x b A k*F))
include h
theorem Ps {kd:Int} (hkd:kd=1∨kd=2) (hk:0<k):Calls Tryz.prog 68 #[gm b n,.int .i64 kd] w (QK (x.more 3) b A k kd F w):=by
 obtain ⟨M,hm,h0⟩:=Sat.rG h;obtain ⟨S,h1⟩:=Sat.ta h0;refine (Oc x.c x.ok n x.h4 x.hn b M w S kd (x.R S*F) h1).mono fun e w' hq=>?_;rcases LL x.rdr (by have:=x.h4;omega) x.hn hm.1 hkd with ⟨id,M1,e1,r1,i0,i1,-,A1⟩|⟨s',-,h0,-⟩
 ·rw [e1] at hq
  obtain ⟨S',hE,d,he,hs⟩:=hq;exact ⟨id,he,r1,i0,i1,d,Sat.th (x:=x.more 3) ⟨A1,Nat.le_trans ((G7 kd).run e1) (Nat.add_le_add_right hm.2 3)⟩ (Sat.wj (x:=x.more 3) hE hs)⟩
 ·omega
theorem Jo {id:Nat} {f:AF} (hf:A id=some f) (off cnt:Nat):Calls Tryz.prog 92 #[gm b n,.int .i64 (id:Int),.int .i64 (off:Int),.int .i64 (cnt:Int)] w (YB x b A k (f.sub off cnt) F w):=by
 obtain ⟨M,hm,h0⟩:=Sat.rG h;obtain ⟨S,h1⟩:=Sat.ta h0;refine (DY x.c x.ok n x.h4 x.hn b M w S id off cnt (x.R S*F) h1).mono fun e w' hq=>?_;obtain ⟨M1,e1,A1⟩:=Bp x.rdr (by have:=x.h4;omega) x.hn hm.1 hf off cnt;have A1:xT x M1 A k:=⟨A1,Nat.le_trans ((wZ _ _ _).run e1) hm.2⟩
 rw [e1] at hq;obtain ⟨S',u,hE,d,he,hs⟩:=hq;refine ⟨u,he,d,?_⟩;have h2:=Sat.th A1 (Sat.wj hE (hs.to (by unfold fB;ac_rfl:_=cC x.c S' b M1*(aj S'*(x.R S*(bs 5 u (f.sub off cnt)*F))))));exact h2.ag
theorem Bo {id:Nat} {f:AF} (hf:A id=some f):Calls Tryz.prog 91 #[gm b n,.int .i64 (id:Int)] w (YN x b A k f F w):=by
 obtain ⟨M,hm,h0⟩:=Sat.rG h;obtain ⟨S,h1⟩:=Sat.ta h0;refine (Lx x.c x.ok n x.h4 x.hn b M w S id (x.R S*F) h1).mono fun e w' hq=>?_;obtain ⟨y,M1,e1,y1,y2,y3,A1⟩:=GC x.rdr (by have:=x.h4;omega) x.hn hm.1 hf;have A1:xT x M1 A k:=⟨A1,Nat.le_trans ((AL _).run e1) hm.2⟩
 rw [e1] at hq;obtain ⟨S',u,hE,d,he,hs⟩:=hq;obtain ⟨⟨rfl,h16⟩,h2⟩:=Sat.ak.1 hs;exact ⟨y,he,h16,y1,y2,y3,d,Sat.th A1 (Sat.wj hE h2)⟩
theorem Mb {id:Nat} {f:AF} (hf:A id=some f) (d:Int) (h0:0≤wrap64 (f.lk+d)∧wrap64 (f.lk+d)≤65535):Calls Tryz.prog 38 #[gm b n,.int .i64 (id:Int),.int .i64 d] w (YE (x.more 3) b (eS A id (some { f with lk:=wrap64 (f.lk+d) })) k 0 F w):=by
 obtain ⟨M,hm,h0'⟩:=Sat.rG h;obtain ⟨S,h1⟩:=Sat.ta h0';refine (GR x.c x.ok n x.h4 x.hn b M w S id d (x.R S*F) h1).mono fun e w' hq=>?_;rcases EU x.rdr (by have:=x.h4;omega) x.hn hm.1 hf d with ⟨M1,e1,-,A1⟩|⟨s',-,h9,-⟩
 ·exact hq.ye (x:=x.more 3) e1 ⟨A1,Nat.le_trans ((Bi _ _).run e1) (Nat.add_le_add_right hm.2 3)⟩
 ·exact absurd h0 h9
omit h
variable {D:ah} {va:Option Addr} {cap:Nat} {l:List UInt8}
theorem CT {id:Nat} {f:AF} (hf:A id=some f) (off:Nat) (hD:∀ W P,Sat W (D*P)→Rd W (.slice va l.length cap) l) (hcap:l.length≤cap) (hl:l.length≤4096) (hm:off+l.length≤122880) (hk:cl (f.wr off l).pr≤k+cl f.pr) (h:Sat w (et x b A k*(D*F))) :
  Calls Tryz.prog 42 #[gm b n,.int .i64 (id:Int),.int .i64 (off:Int),.slice va l.length cap] w (YE (x.more (l.length/480+5)) b (eS A id (some (f.wr off l))) (k+cl f.pr-cl (f.wr off l).pr) 0 (D*F) w):=by
 obtain ⟨M,hm',h0⟩:=Sat.rG h;obtain ⟨S,h1⟩:=Sat.ta h0;refine (sw x.c x.ok n x.h4 x.hn b M w S id off l va cap D hD hcap (by omega) (x.R S*F) (h1.to (by ac_rfl))).mono fun e w' hq=>?_;rw [aD] at hq;rcases re x.rdr (by have:=x.h4;omega) x.hn hm'.1 hf off l hl hm with ⟨M1,e1,-,A1⟩|⟨s',-,h9,-⟩
 ·exact hq.ye (x:=x.more (l.length/480+5)) e1 ⟨A1,Nat.le_trans ((xk _ _ _).run e1) (Nat.add_le_add_right hm'.2 (l.length/480+5))⟩
 ·omega
theorem GV {id:Nat} {f:AF} (hf:A id=some f) (off:Nat) (hD:∀ W P,Sat W (D*P)→Rd W (.slice va l.length cap) l) (hcap:l.length≤cap) (hl:l.length≤4096) (hm:off+l.length≤122880) (hk:k+cl f.pr<cl (f.wr off l).pr) (h:Sat w (et x b A k*(D*F))) :
  Calls Tryz.prog 42 #[gm b n,.int .i64 (id:Int),.int .i64 (off:Int),.slice va l.length cap] w (YE x b A k 7 (D*F) w):=by
 obtain ⟨M,hm',h0⟩:=Sat.rG h;obtain ⟨S,h1⟩:=Sat.ta h0;refine (sw x.c x.ok n x.h4 x.hn b M w S id off l va cap D hD hcap (by omega) (x.R S*F) (h1.to (by ac_rfl))).mono fun e w' hq=>?_;rw [aD] at hq;rcases re x.rdr (by have:=x.h4;omega) x.hn hm'.1 hf off l hl hm with ⟨M1,e1,h9,A1⟩|⟨s',e1,-,A1⟩
 ·omega
 ·exact hq.no e1 ⟨A1,hm'.2⟩
end
theorem py (w:World) (v:Value) (l:List UInt8) (h:Rd w v l):(convert 37 9 v).run Tryz.prog w = .ok (.string (str l)) w:=by
 have uj:∀ (l:List UInt8) (s:ByteArray),(l.map fun x=>(x.toNat:Int)).foldl (fun r n=>r.push (UInt8.ofNat n.toNat)) s=⟨s.data++l.toArray⟩:=by
  intro l
  induction l with
  | nil=>intro s;simp
  | cons a l ih=>intro s;simp only [List.map_cons,List.foldl_cons,ih];simp [ByteArray.push]
 obtain ⟨_,hr⟩:=h;rcases hr with ⟨rfl,h0⟩|⟨a,c,rfl,ha⟩
 ·have:l=[]:=List.eq_nil_of_length_eq_zero h0
  subst this;rw [run_convert_bytes_string w _ _ 5 none 0 0 Tryz.underlying37 Tryz.underlying5 Tryz.underlying9]
  rfl
 ·rw [run_convert_bytes_string w _ _ 5 (some a) _ c Tryz.underlying37 Tryz.underlying5 Tryz.underlying9]
  have hl:=run_loadCells_list (P:=Tryz.prog) (w:=w) a (l.map u8) ha;rw [List.length_map] at hl
  have:=run_bytesToString (P:=Tryz.prog) w a l.length c (l.map fun x=>(x.toNat:Int)) (by
   rw [hl];simp [u8,Function.comp_def])
  rw [this,uj];simp [str]
end Go.Fs

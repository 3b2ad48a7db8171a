/- Steps. -/
import Derived.Test.YtacliaemfegopaaGreatDoorKP24
import Derived.DataElems
import Derived.Deep.RegionLaw
set_option linter.all false
set_option maxRecDepth 99999
set_option maxHeartbeats 0
open Go.SL
open Go.Value renaming int->Z,slice->J,pointer->H
open Go.Obj renaming cells->X
open Go.Ending renaming returned->Z'
open Go renaming World->G
open Go.Proofs.Tryz renaming prog->W
open Option renaming some->Y,none->O
open Bool renaming true->U,false->u
open Go.Proofs.Tryz
open Nat renaming le_refl->D2,le_trans->O2,zero_add->T3,add_le_add_right->W3
open List renaming getD->E2,range->H2,replicate->L2,length_take->P2,length_map->R2,drop_left'->V2,countP_append->W2,all_eq_true->X2,getElem?_eq_getElem->Y2,getElem?_replicate->Z2,getElem?_take->B3,getElem?_drop->D3,append_assoc->G3,drop_drop->H3,getElem_of_mem->J3,length_drop->K3,range_succ->L3,countP_cons->P3,countP_congr->Q3,countP_eq_zero->S3,getElem?_append_left->U3,getElem?_append_right->X3
open Bool renaming and_eq_true->J2,or_eq_true->N2,or_true->V3
open Int renaming toNat_natCast->K2
open Go.World renaming size_alloc->U2
namespace Go.SL
open Go.RowKit
section
variable {σ:Type}
def nU (ask:dD σ) (n:Nat) (h:Hd) (i:Nat):WM σ (Hd × Int × List UInt8):=WM.bind (ic ask n) fun b=>WM.pure (h.put i (b:Int),(b:Int),zs 480)
def lI (ask:dD σ) (n:Nat) (h:Hd) (i:Nat) (j:Bool):WM σ (Hd × Int × List UInt8):=fun st=>
 if h.bk i=0 then (if 16<=i/\h.n.rw=0 then (WM.bind (ic ask n) fun r=>nU ask n (h.iR (r:Int)) i) st else nU ask n h i st)
 else if j=U then (.ok (h,h.bk i,zs 480),st) else (WM.bind (cZ ask (h.bk i)) fun L=>WM.pure (h,h.bk i,L)) st
end
end Go.SL
namespace Go.Proofs.Fs
open Go.RowKit Go.SL Go.Proofs.Ba
section
variable {σ α:Type}
def ti (x:Wk σ) (o:Nat) (S:Hp) (F:ai) (w:G):Rs (Hd × Int × List UInt8) × eZ σ->Ending->G->Prop
 | (.ok p,j),e,w'=>∃ S' v,Ext S S'/\aj w w'/\p.2.2.length=480/\e = Z' (.tuple #[Z .i64 p.2.1,v])/\ag w' (bs 5 v p.2.2*(aY o p.1*(aM x S' j*(ak S'*F))))
 | (.bad c,j),e,w'=>∃ S' h',Ext S S'/\aj w w'/\e = .panicked (Gf c)/\ag w' (aY o h'*(aM x S' j*(ak S'*F)))
theorem mf (x:Wk σ) (hc:x.c.Ok) (hn:x.n<=3840) (w:World) (S:Hp) (st:eZ σ) (hb:Nat) (h:Hd) (i:Nat) (wh:Bool) (F:ai) (hi:i<256) (hs:ag w (aY hb h*(aM x S st*(ak S*F)))) :
  Calls prog 89 #[.pointer (some ⟨x.k,0,none⟩),.pointer (some ⟨hb,0,none⟩),.int .i64 (i:Int),.bool wh] w (ti x hb S F w (lI x.c.ask x.n h i wh st)):=by
 refine aJ fun Q HQ=>?_;have hpg:=zn w hb h _ hs i hi;unfold Pu at hpg;have hi2:(i:Int)<256:=by omega
 obtain ⟨T,hT⟩:∃ T,lI x.c.ask x.n h i wh st=T:=⟨_,rfl⟩
 rw [hT] at HQ;have hmk:∀ w,(Instr.makeSlice 37 (.int .i64 480) (.int .i64 480)).run prog w = .ok (.slice (some ⟨w.heap.size,0,none⟩) 480 480) (w.alloc (.cells (dG (zs 480)) 5 (0,0))):=eL 480 (by omega);have hf:=(ag.held.1 hs).1;have c20:w.cell? ⟨hb,20,none⟩=some (.int .i64 h.n.rw):=xU hf (ag.held.1 hs).2;have Hs:=ae hs;have Hf:=ae hf;clear hs hf
 by_cases h0:h.bk i=0
 .rw [h0] at hpg
  by_cases hr:16<=i/\h.n.rw=0
  .have hT2:(WM.bind (ic x.c.ask x.n) fun r=>nU x.c.ask x.n (h.iR (r:Int)) i) st=T:=((if_pos h0).trans (if_pos hr)).symm.trans hT
   have hlt:16<=(i:Int):=by omega
   have ht:=mQ x hc hn w S st _ (Hs.out.to (by ac_rfl:_=aM x S st*(ak S*(aY hb h*F))));obtain ⟨⟨r1,aQ⟩,hp⟩:∃ p,ic x.c.ask x.n st=p:=⟨_,rfl⟩
   rw [hp] at ht;rw [hr.2] at c20
   cases r1 with
   | bad cN=>
    have HE:=ae ((WM.bK hp).symm.trans hT2);clear hT hT2 h0 hr hp
    go_enter func89,ntmps89
    go_wp2_with fail
    (with_reducible refine hpg.mono ?_)
    rintro e w2 ⟨rfl,rfl⟩
    go_wp2_with fail
    (with_reducible refine ht.mono ?_)
    rintro e w2 ⟨S',hS,d2,rfl,h2⟩
    go_wp2_with fail
    exact ⟨rfl,HQ.out _ _ (by rw [<- HE.out];exact ⟨S',h,hS,d2,rfl,h2.to (by ac_rfl)⟩)⟩
   | ok r=>
    have HE:=ae ((WM.bd hp).symm.trans hT2);clear hT hT2 h0 hr hp
    go_enter func89,ntmps89
    go_wp2_with fail
    (with_reducible refine hpg.mono ?_)
    rintro e w2 ⟨rfl,rfl⟩
    go_wp2_with fail
    (with_reducible refine ht.mono ?_)
    rintro e w2 ⟨S',v,hS,d2,rfl,h2⟩;obtain ⟨rfl,h3⟩:=ag.au.1 h2;have h4:=h3.to (by ac_rfl:_=aY hb h*(aM x S' aQ*(ak S'*F)));have c20b:=(gz h4 (j:=20) (by decide)).1;have f20b:=(gz h4 (j:=20) (by decide)).2;generalize h.l.getD 20 0=y20 at *;have h5:=tA (h':=h.iR (r:Int)) h4 (j:=20) (z:=(r:Int)) Hf.out (Hd.Mk Hf.out _);have d5:=d2.setCell ⟨hb,20,none⟩ (.int .i64 (r:Int));have ht2:=mQ x hc hn _ S' aQ _ (h5.to (by ac_rfl:_=aM x S' aQ*(ak S'*(aY hb (h.iR (r:Int))*F))));have Ht2:=ae ht2;clear h2 h3 h4 ht ht2 c20
    go_wp2_with fail
    generalize w2.setCell ⟨hb,20,none⟩ (.int .i64 (r:Int))=w3 at *;clear h5;refine Ht2.out.mono ?_;generalize h.iR (r:Int)=hk at *;obtain ⟨⟨r6,st6⟩,hp6⟩:∃ p,ic x.c.ask x.n aQ=p:=⟨_,rfl⟩
    rw [hp6]
    cases r6 with
    | bad cN=>
     have HE2:=ae ((WM.bK hp6).symm.trans HE.out);rintro e w6 ⟨S6,hS6,d6,rfl,h6⟩;clear Ht2 hp6
     go_wp2_with fail
     exact ⟨rfl,HQ.out _ _ (by rw [<- HE2.out];exact ⟨S6,hk,hS.trans hS6,d5.trans d6,rfl,h6.to (by ac_rfl)⟩)⟩
    | ok b=>
     have HE2:=ae ((WM.bd hp6).symm.trans HE.out);rintro e w6 ⟨S6,v6,hS6,d6,rfl,h6⟩;obtain ⟨rfl,h7⟩:=ag.au.1 h6;have hpu:=tl w6 hb hk _ (h7.to (by ac_rfl:_=aY hb hk*(aM x S6 st6*(ak S6*F)))) i hi (b:Int);clear Ht2 hp6 h6 h7
     go_wp2_with fail
     (with_reducible refine hpu.mono ?_)
     rintro e w7 ⟨rfl,h8,d8⟩
     go_wp2_with fail
     have hB:=ns 480 (by decide) h8.drew;have D9:=ae ((((d5.trans d6).trans d8).drew).alloc (.cells (dG (zs 480)) 5 (0,0)));have HB:=ae hB;clear h8 hB
     go_region_held3 (fun _=>True) (trivial) (fail)
     all_goals
      go_wp2_with fail
      exact HQ.out _ _ (by rw [<- HE2.out];exact ⟨S6,_,hS.trans hS6,D9.out,aV 480,rfl,HB.out⟩)
  .have hT2:nU x.c.ask x.n h i st=T:=((if_pos h0).trans (if_neg hr)).symm.trans hT
   have HE:=ae hT2;have ht2:=mQ x hc hn w S st _ (Hs.out.to (by ac_rfl:_=aM x S st*(ak S*(aY hb h*F))));have Ht2:=ae ht2;obtain ⟨bb,hbb⟩:∃ b,b=decide (16<=(i:Int)):=⟨_,rfl⟩
   cases bb with
   | false=>
    have hlt:¬ 16<=(i:Int):=by simpa using hbb
    clear hT hT2 h0 hr ht2 hbb
    go_enter func89,ntmps89
    go_wp2_with fail
    (with_reducible refine hpg.mono ?_)
    rintro e w2 ⟨rfl,rfl⟩
    go_wp2_with fail
    refine Ht2.out.mono ?_;obtain ⟨⟨r6,st6⟩,hp6⟩:∃ p,ic x.c.ask x.n st=p:=⟨_,rfl⟩
    rw [hp6]
    cases r6 with
    | bad cN=>
     have HE2:=ae ((WM.bK hp6).symm.trans HE.out);rintro e w6 ⟨S6,hS6,d6,rfl,h6⟩;clear Ht2 hp6
     go_wp2_with fail
     exact ⟨rfl,HQ.out _ _ (by rw [<- HE2.out];exact ⟨S6,h,hS6,d6,rfl,h6.to (by ac_rfl)⟩)⟩
    | ok b=>
     have HE2:=ae ((WM.bd hp6).symm.trans HE.out);rintro e w6 ⟨S6,v6,hS6,d6,rfl,h6⟩;obtain ⟨rfl,h7⟩:=ag.au.1 h6;have hpu:=tl w6 hb h _ (h7.to (by ac_rfl:_=aY hb h*(aM x S6 st6*(ak S6*F)))) i hi (b:Int);clear Ht2 hp6 h6 h7
     go_wp2_with fail
     (with_reducible refine hpu.mono ?_)
     rintro e w7 ⟨rfl,h8,d8⟩
     go_wp2_with fail
     have hB:=ns 480 (by decide) h8.drew;have D9:=ae (((d6.trans d8).drew).alloc (.cells (dG (zs 480)) 5 (0,0)));have HB:=ae hB;clear h8 hB
     go_region_held3 (fun _=>True) (trivial) (fail)
     all_goals
      go_wp2_with fail
      exact HQ.out _ _ (by rw [<- HE2.out];exact ⟨S6,_,hS6,D9.out,aV 480,rfl,HB.out⟩)
   | true=>
    have hlt:16<=(i:Int):=by simpa using hbb
    have hrw:(h.n.rw == 0)=false:=by simp only [beq_eq_false_iff_ne];intro h9;exact hr ⟨by omega,h9⟩
    clear hT hT2 h0 hr ht2 hbb;generalize h.n.rw=Ls at *
    go_enter func89,ntmps89
    go_wp2_with fail
    (with_reducible refine hpg.mono ?_)
    rintro e w2 ⟨rfl,rfl⟩
    go_wp2_with fail
    refine Ht2.out.mono ?_;obtain ⟨⟨r6,st6⟩,hp6⟩:∃ p,ic x.c.ask x.n st=p:=⟨_,rfl⟩
    rw [hp6]
    cases r6 with
    | bad cN=>
     have HE2:=ae ((WM.bK hp6).symm.trans HE.out);rintro e w6 ⟨S6,hS6,d6,rfl,h6⟩;clear Ht2 hp6
     go_wp2_with fail
     exact ⟨rfl,HQ.out _ _ (by rw [<- HE2.out];exact ⟨S6,h,hS6,d6,rfl,h6.to (by ac_rfl)⟩)⟩
    | ok b=>
     have HE2:=ae ((WM.bd hp6).symm.trans HE.out);rintro e w6 ⟨S6,v6,hS6,d6,rfl,h6⟩;obtain ⟨rfl,h7⟩:=ag.au.1 h6;have hpu:=tl w6 hb h _ (h7.to (by ac_rfl:_=aY hb h*(aM x S6 st6*(ak S6*F)))) i hi (b:Int);clear Ht2 hp6 h6 h7
     go_wp2_with fail
     (with_reducible refine hpu.mono ?_)
     rintro e w7 ⟨rfl,h8,d8⟩
     go_wp2_with fail
     have hB:=ns 480 (by decide) h8.drew;have D9:=ae (((d6.trans d8).drew).alloc (.cells (dG (zs 480)) 5 (0,0)));have HB:=ae hB;clear h8 hB
     go_region_held3 (fun _=>True) (trivial) (fail)
     all_goals
      go_wp2_with fail
      exact HQ.out _ _ (by rw [<- HE2.out];exact ⟨S6,_,hS6,D9.out,aV 480,rfl,HB.out⟩)
 .have h1:(h.bk i != 0)=true:=by simpa using h0
  cases wh with
  | true=>
   have HE:=ae (((if_neg h0).trans (if_pos rfl)).symm.trans hT);have hB:=ns 480 (by decide) Hs.out.drew;have D9:=ae (((aj.refl w).drew).alloc (.cells (dG (zs 480)) 5 (0,0)));have HB:=ae hB;clear hT h0 hB c20;generalize h.bk i=y at *
   go_enter func89,ntmps89
   go_wp2_with fail
   (with_reducible refine hpg.mono ?_)
   rintro e w2 ⟨rfl,rfl⟩
   go_wp2_with fail
   go_region_held3 (fun _=>True) (trivial) (fail)
   all_goals
    go_wp2_with fail
    exact HQ.out _ _ (by rw [<- HE.out];exact ⟨S,_,Ext.refl S,D9.out,aV 480,rfl,HB.out⟩)
  | false=>
   have hT2:=((if_neg h0).trans (if_neg (by decide))).symm.trans hT;have hrd:=mP x hc w S st (h.bk i) _ (Hs.out.to (by ac_rfl:_=aM x S st*(ak S*(aY hb h*F))));obtain ⟨⟨r1,aQ⟩,hp⟩:∃ p,cZ x.c.ask (h.bk i) st=p:=⟨_,rfl⟩
   rw [hp] at hrd
   cases r1 with
   | bad cN=>
    have HE:=ae ((WM.bK hp).symm.trans hT2);clear hT hT2 h0 hp c20;generalize h.bk i=y at *
    go_enter func89,ntmps89
    go_wp2_with fail
    (with_reducible refine hpg.mono ?_)
    rintro e w2 ⟨rfl,rfl⟩
    go_wp2_with fail
    (with_reducible refine hrd.mono ?_)
    rintro e w2 ⟨S',hS,d2,rfl,h2⟩
    go_wp2_with fail
    exact ⟨rfl,HQ.out _ _ (by rw [<- HE.out];exact ⟨S',h,hS,d2,rfl,h2.to (by ac_rfl)⟩)⟩
   | ok L=>
    have HE:=ae ((WM.bd hp).symm.trans hT2);have HL:=ae (iZ hp);clear hT hT2 h0 hp c20;generalize h.bk i=y at *
    go_enter func89,ntmps89
    go_wp2_with fail
    (with_reducible refine hpg.mono ?_)
    rintro e w2 ⟨rfl,rfl⟩
    go_wp2_with fail
    (with_reducible refine hrd.mono ?_)
    rintro e w2 ⟨S',v,hS,d2,rfl,h2⟩;unfold fJ at h2;have h3:=ae (h2.to (by ac_rfl:_=bs 5 v L*(aY hb h*(aM x S' aQ*(ak S'*F)))));obtain ⟨va,vc,rfl⟩:=aC h2;clear h2 hrd
    go_wp2_with fail
    exact HQ.out _ _ (by rw [<- HE.out];exact ⟨S',_,hS,d2,HL.out,rfl,h3.out⟩)
end
end Go.Proofs.Fs
namespace Go.SL
open Go.RowKit
section
variable {σ:Type}
def xW (f:Nat->Hd->WM σ Hd) (done off l:Nat) (d:List UInt8) (p:Hd × Int × List UInt8):WM σ Hd:=
 WM.bind (bO p.2.1 (putAt p.2.2 ((off+done)%480) ((d.drop done).take l))) fun _=>f (done+l) p.1
def wg (ask:dD σ) (n off:Nat) (d:List UInt8):Nat->Nat->Hd->WM σ Hd
 | 0,_,h=>WM.pure h
 | f+1,done,h=>fun st=>
  if done<d.length then (WM.bind (lI ask n h ((off+done)/480) (gY (d.length-done) (off+done) == 480)) (xW (wg ask n off d f) done off (gY (d.length-done) (off+done)) d)) st else (.ok h,st)
def Et (off:Nat) (d:List UInt8) (h:Hd):WM σ Unit:=dZ (h.mg (max h.n.sz ((off+d.length:Nat):Int)))
def C9 (ask:dD σ) (n:Nat) (off:Int) (d:List UInt8) (h:Hd):WM σ Unit:=fun st=>
 if 0<=off/\d.length<=4096/\off<=122880-d.length then (if d.length=0 then (.ok (),st) else (WM.bind (wg ask n off.toNat d d.length 0 h) (Et off.toNat d)) st) else (.bad 1,st)
def gg (ask:dD σ) (n:Nat) (node off:Int) (d:List UInt8):WM σ Unit:=WM.bind (gR ask n node) (C9 ask n off d)
theorem nL {α β:Type} {m j:WM σ α} {k:α->WM σ β} {st o:eZ σ} (h:m st=j o):(WM.bind m k) st=(WM.bind j k) o:=by unfold WM.bind;rw [h]
theorem MA {ask:dD σ} {h:Hd} {n off f done:Nat} {d:List UInt8} (j:d.length<=done) (st:eZ σ):wg ask n off d f done h st=(.ok h,st):=by
 cases f with
 | zero=>rfl
 | succ f=>exact if_neg (by omega)
theorem QS {ask:dD σ} {h:Hd} {n off f done:Nat} {d:List UInt8} (o:done<d.length) {st j:eZ σ} {c:Int}
  (hr:lI ask n h ((off+done)/480) (gY (d.length-done) (off+done) == 480) st=(.bad c,j)):wg ask n off d (f+1) done h st=(.bad c,j):=(if_pos o).trans (WM.bK hr)
theorem QX {ask:dD σ} {h:Hd} {n off f done:Nat} {d:List UInt8} (o:done<d.length) {st j:eZ σ} {p:Hd × Int × List UInt8}
  (hr:lI ask n h ((off+done)/480) (gY (d.length-done) (off+done) == 480) st=(.ok p,j)):wg ask n off d (f+1) done h st=xW (wg ask n off d f) done off (gY (d.length-done) (off+done)) d p j:=(if_pos o).trans (WM.bd hr)
end
end Go.SL
namespace Go.Proofs.Fs
open Go.RowKit Go.SL Go.Proofs.Ba
section
variable {σ α:Type}
def KX (b:Nat) (v:Value):ai:=pt b (X #[v] 37 (0,0))
def Qb (x:Wk σ) (r off:Nat) (d:List UInt8) (S:Hp) (F:ai) (w:G) (T:Rs Unit × eZ σ) (t:Value) (wr:G):Prop:=
 ∃ (done f:Nat) (h:Hd) (o:eZ σ) (j:Hp),done<=d.length/\d.length-done<=f/\t = Z .i64 (done:Int)/\(WM.bind (wg x.c.ask x.n off d f done h) (Et off d)) o=T/\Ext S j/\aj w wr /\
  ag wr (aY r h*(aM x j o*(ak j*F)))
theorem zm {c:Cx σ} (hc:c.Ok) {n:Nat} (hn:n<=3840) (node off:Int) (l:List UInt8) (va:Option Addr) (cap:Nat) (D:ai) (hD:∀ y P,ag y (D*P)->Rd y (J va l.length cap) l) (q1:l.length<=cap) (p1:l.length<=1000000000000) (nb ob db:Nat) :
  Em c n 88 #[H (Y ⟨nb,0,O⟩),H (Y ⟨ob,0,O⟩),H (Y ⟨db,0,O⟩)] lM (bG nb node*(bG ob off*(KX db (J va l.length cap)*D))) (gg c.ask n node off l):=by
 intro x w S st F w1 x1 h;subst w1 x1;have cn:w.cell? ⟨nb,0,O⟩=Y (Z .i64 node):=(h.to (by ac_rfl:_=bG nb node*((bG ob off*(KX db (J va l.length cap)*D))*(aM x S st*(ak S*F))))).cell 0;show Calls W 88 #[H (Y ⟨x.k,0,O⟩),H (Y ⟨nb,0,O⟩),H (Y ⟨ob,0,O⟩),H (Y ⟨db,0,O⟩)] w _
 refine aJ fun H1 HQ=>?_;have hl:=mU x hc w S st node _ h;obtain ⟨⟨r,aQ⟩,hp⟩:∃ p,gR x.c.ask x.n node st=p:=⟨_,rfl⟩
 rw [hp] at hl;clear h;obtain ⟨Q,hG⟩:∃ Q,Q=bG nb node*(bG ob off*(KX db (J va l.length cap)*D))*F:=⟨_,rfl⟩
 rw [<- hG] at hl HQ;have HG:=ae hG
 cases r with
 | bad cN=>
  have HE:=ae (show gg x.c.ask x.n node off l st=(.bad cN,aQ) from WM.bK hp);clear hp hG
  go_enter func88,ntmps88
  go_wp2_with fail
  (with_reducible refine hl.mono ?_)
  rintro e w2 ⟨S',hS,d2,rfl,h2⟩
  go_wp2_with fail
  exact ⟨rfl,HQ.out _ _ (by rw [HE.out];exact ⟨S',hS,d2,rfl,h2⟩)⟩
 | ok hh=>
  obtain ⟨c0,hT⟩:∃ c0,C9 x.c.ask x.n off l hh aQ=c0:=⟨_,rfl⟩
  have HE:=ae (show gg x.c.ask x.n node off l st=c0 from (WM.bd hp).trans hT);have HT:=ae hT;clear hp hG hT
  have sO:∀ y P,ag y (P*Q)->y.cell? ⟨ob,0,O⟩=Y (Z .i64 off):=fun y P hW=>by
   rw [HG.out] at hW;exact (hW.to (by ac_rfl:_=bG ob off*(bG nb node*(KX db (J va l.length cap)*(D*(F*P)))))).cell 0
  have sB:∀ y P,ag y (P*Q)->y.cell? ⟨db,0,O⟩=Y (J va l.length cap):=fun y P hW=>by
   rw [HG.out] at hW;exact (hW.to (by ac_rfl:_=KX db (J va l.length cap)*(bG nb node*(bG ob off*(D*(F*P)))))).cell 0
  have sR:∀ y P,ag y (P*Q)->Rd y (J va l.length cap) l:=fun y P hW=>by
   rw [HG.out] at hW;exact hD y _ (hW.to (by ac_rfl:_=D*(KX db (J va l.length cap)*(bG nb node*(bG ob off*(F*P))))))
  have SO:=ae sO;have SB:=ae sB;have SR:=ae sR;clear sO sB sR;have d1:Hid (∃ m,l.length=m):=⟨_,rfl⟩
  obtain ⟨m,hm⟩:=d1.out;rw [hm] at SB SR q1 p1;have z:=ae hm;clear hm d1 hD
  go_enter func88,ntmps88
  go_wp2_with fail
  (with_reducible refine hl.mono ?_)
  rintro e w2 ⟨S',v,hS,d2,rfl,h2⟩;obtain ⟨j,rfl,h3⟩:=ag.rK h2;have h4:ag w2 (aY j hh*(aM x S' aQ*(ak S'*Q))):=h3.to (by ac_rfl);have co:=SO.out w2 (aY j hh*(aM x S' aQ*ak S')) (h4.to (by ac_rfl));have cb:=SB.out w2 (aY j hh*(aM x S' aQ*ak S')) (h4.to (by ac_rfl));have H4:=ae h4;clear h2 h3 hl cn h4;have K1:(m:Int)<=1000000000000:=by omega
  by_cases T:0<=off/\l.length<=4096/\off<=122880-(l.length:Int)
  .obtain ⟨z0,z1,z2⟩:=T
   obtain ⟨o,rfl⟩:∃ o:Nat,off=(o:Int):=⟨off.toNat,by omega⟩
   by_cases h0:m=0
   .subst h0
    have e0:Hid (c0=(.ok (),aQ)):=by rw [<- HT.out];exact (if_pos ⟨z0,z1,z2⟩).trans (if_pos z.out)
    rw [z.out] at z2;have z3:(o:Int)<=122880:=by omega
    clear z1 z2 HT
    go_wp2_with fail
    (with_reducible refine (gW w2).mono ?_)
    rintro e w3 ⟨rfl,rfl⟩
    go_wp2_with fail
    go_end0
    exact HQ.out _ _ (by rw [HE.out,e0.out];exact ⟨S',_,hS,d2,rfl,ag.au.2 ⟨rfl,(H4.out).right⟩⟩)
   .have h1:(WM.bind (wg x.c.ask x.n o l l.length 0 hh) (Et o l)) aQ=c0:=by
     rw [<- HT.out];exact ((if_pos ⟨z0,z1,z2⟩).trans (if_neg (by rw [z.out];exact h0))).symm
    have e0:=ae h1;rw [z.out] at z1 z2;have Z1:(m:Int)<=4096:=by omega
    have b2:(o:Int)+(m:Int)<=122880:=by omega
    have z3:(o:Int)<=122880-(m:Int):=by omega
    have O1:((m:Int) == 0)=u:=by simpa using h0
    clear h1 HT z2
    go_wp2_with fail
    (with_reducible refine (gW w2).mono ?_)
    rintro e w3 ⟨rfl,rfl⟩;have R1:(m:Int)≠0:=by omega
    clear co cb;have cb:w2.cell? ⟨db,0,O⟩=Y (J va m cap):=SB.out w2 (aY j hh*(aM x S' aQ*ak S')) (H4.out.to (by ac_rfl))
    go_wp2_with fail
    clear cb
    go_loopw [6] (fun G0 wr=>Qb x j o l S Q w c0 G0 wr) (fun G0 _=>m-(intOf G0).toNat)
    case atStart=>exact ⟨0,l.length,hh,aQ,S',Nat.zero_le _,D2 _,rfl,e0.out,hS,d2,H4.out⟩
    case round=>
     obtain ⟨done,f,h,d0,Sk,r1,hf,rfl,i1,g1,dk,f0⟩:=hrel;have H0:=ae i1;have o0:=ae g1;clear H4 e0 i1 g1;rw [z.out] at r1 hf;have co:=SO.out wr (aY j h*(aM x Sk d0*ak Sk)) (f0.to (by ac_rfl));have cb:=SB.out wr (aY j h*(aM x Sk d0*ak Sk)) (f0.to (by ac_rfl))
     by_cases t1:done<m
     .have u1:(done:Int)<(m:Int):=by omega
      obtain ⟨f',rfl⟩:∃ f',f=f'+1:=⟨f-1,by omega⟩
      have hA:done<l.length:=by rw [z.out];exact t1
      obtain ⟨k,hk⟩:∃ k,gY (l.length-done) (o+done)=k:=⟨_,rfl⟩
      have S0:k=min (m-done) (480-(o+done)%480):=by rw [<- hk,z.out];rfl
      obtain ⟨q,hq⟩:∃ q,(o+done)/480=q:=⟨_,rfl⟩
      obtain ⟨r,hr⟩:∃ r,(o+done)%480=r:=⟨_,rfl⟩
      have v1:q<256:=by omega
      have U1:r<480:=by omega
      rw [hr] at S0;have L1:1<=k:=by omega
      have M1:done+k<=m:=by omega
      have N1:r+k<=480:=by omega
      have T1:((o:Int)+(done:Int)).tdiv 480=(q:Int):=by rw [Int.tdiv_eq_ediv_of_nonneg (by omega)];omega
      have V1:((o:Int)+(done:Int)).tmod 480=(r:Int):=by rw [Int.tmod_eq_emod_of_nonneg (by omega)];omega
      have S1:(if (480:Int)-(r:Int)<((m-done:Nat):Int) then (480:Int)-(r:Int) else ((m-done:Nat):Int))=(k:Int):=by split <;> omega
      have W1:(m:Int)-(done:Int)=((m-done:Nat):Int):=by omega
      have s0:=mf x hc hn wr Sk d0 j h q (k == 480) Q v1 f0;obtain ⟨⟨r2,k0⟩,x0⟩:∃ p,lI x.c.ask x.n h q (k == 480) d0=p:=⟨_,rfl⟩
      rw [x0] at s0;have g0:lI x.c.ask x.n h ((o+done)/480) (gY (l.length-done) (o+done) == 480) d0=(r2,k0):=by rw [hq,hk];exact x0
      have W0:((k:Int) == 480)=(k == 480):=by
       by_cases h9:k=480
       .subst h9;rfl
       .rw [beq_eq_false_iff_ne.2 h9,beq_eq_false_iff_ne.2 (by omega)]
      have u0:=s0;rw [<- W0] at u0
      cases r2 with
      | bad cN=>
       have HN:=ae ((WM.bK (QS hA g0)).symm.trans H0.out);clear x0 g0 S0 hq hr hk s0 W0
       go_wp2_with fail
       (with_reducible refine u0.mono ?_)
       rintro e w4 ⟨S2,h',q0,d4,rfl,h6⟩
       go_wp2_with fail
       exact ⟨rfl,HQ.out _ _ (by rw [HE.out,<- HN.out];exact ⟨S2,o0.out.trans q0,dk.trans d4,rfl,h6.right⟩)⟩
      | ok p=>
       obtain ⟨h',b,L⟩:=p
       have n0:=ae (show (WM.bind (xW (wg x.c.ask x.n o l f') done o k l (h',b,L)) (Et o l)) k0=c0 from by
        rw [<- hk];exact (nL (QX hA g0)).symm.trans H0.out)
       clear x0 g0 S0 hq hk s0 W0
       go_wp2_with fail
       (with_reducible refine u0.mono ?_)
       rintro e w4 ⟨S2,v4,q0,d4,hL,rfl,h6⟩;dsimp only at hL h6 ⊢;have HL:=ae hL;obtain ⟨ga,ca,K0,rfl,a1,a2,a3,a4,a5,a6⟩:=qG h6 (by rw [hL];decide);have rd:=(SR.out w4 (bs 5 (J (Y ⟨ga,0,O⟩) L.length ca) L*(aY j h'*(aM x S2 k0*ak S2))) (h6.to (by ac_rfl)))
       obtain ⟨-,(⟨-,h9⟩|⟨A1,c',e,ha⟩)⟩:=rd
       .exact absurd h9 (by rw [z.out];omega)
       simp only [Value.slice.injEq] at e;obtain ⟨rfl,-,rfl⟩:=e;obtain ⟨part,D0⟩:∃ part,(l.drop done).take k=part:=⟨_,rfl⟩
       have i0:part.length=k:=by rw [<- D0,P2,K3,z.out];omega
       have h7:=(a6 r part (by rw [i0,hL];omega)).1
       have r0:=fun ty=>run_copy_row (P:=W) w4 37 37 ty 5 ga r (480-r) (ca-r) (A1.add done) k (cap-done) K0 5 (part.map SL.u8) underlying37 AP a4
        (by rw [R2,i0];exact (Nat.min_eq_left (by omega)).symm)
        (fun l1 v hv=>by
         have hj:l1<k:=by rw [<- i0];simpa using (List.getElem?_eq_some_iff.1 hv).1
         rw [Addr.add_add];refine ha (done+l1) v ?_;rw [<- hv,<- D0,List.getElem?_map,List.getElem?_map,B3,if_pos hj,D3])
        (by rw [R2,i0,a3];omega) (qO _)
       rw [R2,i0] at r0;obtain ⟨RW,p0⟩:∃ RW,RW=(K0.toList.take r++part.map SL.u8++K0.toList.drop (r+(part.map SL.u8).length)).toArray:=⟨_,rfl⟩
       rw [<- p0] at h7;rw [R2,i0] at p0;rw [<- p0] at r0;have c1:=ae r0;have j1:=h7.nH;have m0:=oq x _ S2 k0 b _ (putAt L r part) _ (h7.to (by ac_rfl:_=aM x S2 k0*(ak S2*(bs 5 (J (Y ⟨ga,0,O⟩) L.length ca) (putAt L r part)*(aY j h'*Q))))) j1;obtain ⟨⟨r3,Y0⟩,g0⟩:∃ p,bO b (putAt L r part) k0=p:=⟨_,rfl⟩
       have hK:∀ p,bO b (putAt L r part) k0=p->xW (wg x.c.ask x.n o l f') done o k l (h',b,L) k0=match p with|(.ok _,X0)=>wg x.c.ask x.n o l f' (done+k) h' X0|(.bad c,X0)=>(.bad c,X0):=by
        intro p hp;unfold xW WM.bind;dsimp only;rw [hr,D0,hp]
        cases p with
        | mk a c=>cases a <;> rfl
       have f1:=hK _ g0;rw [g0] at m0;have s1:(putAt L r part).length=480:=by rw [gQ (by rw [i0,HL.out];omega)];exact HL.out
       rw [HL.out] at m0 a1 ⊢;have m1:=ae m0;have D5:=ae ((dk.trans d4).setRow ga RW);clear u0 h6 h7 r0 p0 j1 m0 ha a2 a3 a4 a5 a6 hK g0 hL i0 D0 hr s1 cb
       go_wp2_with (refine eW (c1.out _) _ _ rfl rfl rfl rfl rfl ?_)
       generalize w4.setRow ga RW=w5 at *;clear c1;refine m1.out.mono ?_
       cases r3 with
       | bad cN=>
        have HN:=ae ((WM.bK f1).symm.trans n0.out);rintro e w6 ⟨t,l0,d6,rfl,h8⟩
        go_wp2_with fail
        exact ⟨rfl,HQ.out _ _ (by rw [HE.out,<- HN.out];exact ⟨t,(o0.out.trans q0).trans l0,D5.out.trans d6,rfl,(h8.to (by ac_rfl:_=(bs 5 (J (Y ⟨ga,0,O⟩) 480 ca) (putAt L r part)*aY j h')*(aM x t Y0*(ak t*Q)))).right⟩)⟩
       | ok G0=>
        have HN:=ae ((nL f1).symm.trans n0.out);rintro e w6 ⟨t,v6,l0,d6,rfl,h8⟩;obtain ⟨rfl,h9⟩:=ag.au.1 h8;clear h8
        go_wp2_with fail
        go_roundw
        case rel=>exact ⟨done+k,f',h',Y0,t,by rw [z.out];omega,by rw [z.out];omega,by go_num,HN.out,(o0.out.trans q0).trans l0,D5.out.trans d6,(h9.to (by ac_rfl:_=bs 5 (J (Y ⟨ga,0,O⟩) 480 ca) (putAt L r part)*(aY j h'*(aM x t Y0*(ak t*Q))))).right⟩
        case measure=>simp [intOf];omega
     .obtain rfl:done=m:=by omega
      have n0:=ae (show Et o l h d0=c0 from (WM.bd (MA (by rw [z.out];exact D2 _) d0)).symm.trans H0.out);have hf:=ag.xn f0;have c3:=(gz f0 (j:=3) (by decide)).1;have f3:=(gz f0 (j:=3) (by decide)).2;rw [show h.l.getD 3 0=h.n.sz from rfl] at c3;obtain ⟨b0,T⟩:∃ b0,max h.n.sz ((o+l.length:Nat):Int)=b0:=⟨_,rfl⟩
      have L0:=(tA (h':=h.mg b0) f0 (j:=3) (z:=b0) hf rfl).drew;have b1:=ae (dk.setCell ⟨j,3,O⟩ (Z .i64 b0)).drew;have U0:=qt x _ Sk d0 j (h.mg b0) _ L0;obtain ⟨⟨r6,Z0⟩,T0⟩:∃ p,dZ (h.mg b0) d0=p:=⟨_,rfl⟩
      rw [T0] at U0;have HN:=ae (show (r6,Z0)=c0 by rw [<- n0.out,<- T0,<- T];rfl);have m0:IntKind.i64.wrap ((o:Int)+(done:Int))=(o:Int)+(done:Int):=by rw [IntKind.wrap_i64];omega
      have F0:(if h.n.sz<IntKind.i64.wrap ((o:Int)+(done:Int)) then IntKind.i64.wrap ((o:Int)+(done:Int)) else h.n.sz)=b0:=by rw [m0,<- T,z.out];split <;> omega
      have n1:=ae F0;have e1:=ae U0;have E1:=ae L0;have u1:¬ (done:Int)<(done:Int):=by omega
      clear hf L0 U0 T0 T f0 n0 m0 F0;generalize h.n.sz=sz at *
      go_wp2_with fail
      go_region_law (fail)
      all_goals
       rw [n1.out];generalize (wr.setCell ⟨j,3,O⟩ (Z .i64 b0)).drew=Y1 at *
       cases r6 with
       | bad cN=>
        go_wp2_with fail
        refine e1.out.mono ?_;rintro e D1 ⟨t,l0,d6,rfl,R0⟩
        go_wp2_with fail
        exact ⟨rfl,HQ.out _ _ (by rw [HE.out,<- HN.out];exact ⟨t,o0.out.trans l0,b1.out.trans d6,rfl,(R0.to (by ac_rfl:_=aY j (h.mg b0)*(aM x t Z0*(ak t*Q)))).right⟩)⟩
       | ok u6=>
        go_wp2_with fail
        refine e1.out.mono ?_;rintro e D1 ⟨t,v6,l0,d6,rfl,R0⟩;obtain ⟨rfl,o1⟩:=ag.au.1 R0
        go_wp2_with fail
        go_end0
        exact HQ.out _ _ (by rw [HE.out,<- HN.out];exact ⟨t,_,o0.out.trans l0,b1.out.trans d6,rfl,ag.au.2 ⟨rfl,(o1.to (by ac_rfl:_=aY j (h.mg b0)*(aM x t Z0*(ak t*Q)))).right⟩⟩)
  .have hT:c0=(.bad 1,aQ):=by rw [<- HT.out];exact if_neg T
   have e0:=ae hT;rw [z.out] at T;clear hT HT
   by_cases y1:0<=off
   .by_cases F0:(m:Int)<=4096
    .have k1:¬ off<=122880-(m:Int):=fun h9=>T ⟨y1,by omega,h9⟩
     have X1:decide (off<=122880-(m:Int))=u:=decide_eq_false k1;clear T k1
     go_wp2_with fail
     (with_reducible refine (iB w2).mono ?_)
     rintro e w4 ⟨rfl,rfl⟩
     go_wp2_with fail
     exact ⟨rfl,HQ.out _ _ (by rw [HE.out,e0.out];exact ⟨S',hS,d2,rfl,H4.out.right⟩)⟩
    .clear T
     go_wp2_with fail
     (with_reducible refine (iB w2).mono ?_)
     rintro e w4 ⟨rfl,rfl⟩
     go_wp2_with fail
     exact ⟨rfl,HQ.out _ _ (by rw [HE.out,e0.out];exact ⟨S',hS,d2,rfl,H4.out.right⟩)⟩
   .have F0:off<0:=by omega
    clear T
    go_wp2_with fail
    (with_reducible refine (iB w2).mono ?_)
    rintro e w4 ⟨rfl,rfl⟩
    go_wp2_with fail
    exact ⟨rfl,HQ.out _ _ (by rw [HE.out,e0.out];exact ⟨S',hS,d2,rfl,H4.out.right⟩)⟩
end
section
variable {σ α:Type}
abbrev dm (j n:Nat):Obj:=X #[H (Y ⟨j,0,O⟩),Z .i64 (n:Int)] 83 (0,0)
def LS:Value:=.agg #[Z .i64 0,Z .i64 0,Z .i64 0,Z .i64 0,Z .i64 0,Z .i64 0,Z .i64 0,Z .i64 0,Z .i64 0,Z .i64 0,Z .i64 0,Z .i64 0,Z .i64 0,Z .i64 0,Z .i64 0,Z .i64 0,Z .i64 0,Z .i64 0,Z .i64 0,Z .i64 0]
def Rn:Rs Nat->Value
 | .ok a=>Z .i64 (a:Int)
 | .bad _=>Z .i64 0
def Sw (c:Cx σ) (j:Nat) (S:Hp) (F:ai) (w:G) (p:Rs Nat × ia σ) (e:Ending) (w':G):Prop:=
 ∃ S',Ext S S'/\aj w w'/\e = Z' (.tuple #[Rn p.1,Z .i64 p.1.code])/\ag w' (cG c S' j p.2*(ak S'*F))
theorem DP (c:Cx σ) (T:c.Ok) (n:Nat) (d0:4<=n) (e0:n<=3840) (j:Nat) (M:ia σ) (w:G) (S:Hp)  (F:ai) (h:ag w (cG c S j M*(ak S*(F)))) :
  Calls W 64 #[gq j n] w (Mi c j S F w (eu (iC c.ask) M)):=by
 refine aJ fun f0 v=>?_;obtain ⟨p,hp⟩:∃ p,eu (iC c.ask) M=p:=⟨_,rfl⟩
 rw [hp] at v;have g0:=ot W;have r:=fun  w F h=>Bd c T n d0 e0 117 #[] (emp) (iC c.ask) (fun c0 w=>enters func117 (by kernel_rfl) rfl c0 w) (AX T) j M w S F h;rw [hp] at r;have y:=ae r;have L:=(h.alloc (dm j n))
 have dA:=((aj.refl w).alloc (dm j n))
 have Q:ag (w.alloc (dm j n)) (cG c S j M*(ak S*((emp)*(pt w.heap.size (dm j n)*F)))):=(ag.lV L).to (by unfold dm;ac_rfl);have t:=ae Q;clear L Q r h;unfold gq
 go_enter func64,ntmps64
 go_wp2_with fail
 refine y.out _ _ t.out _ ?_;clear y t;generalize i0:(w.alloc (dm j n))=w1 at *;generalize w.heap.size=b0 at *;rintro e w2 ⟨o,hS,d2,rfl,z⟩;have h3:=ae (z.to (by ac_rfl:_=((emp*pt b0 (dm j n)))*(cG c o j p.2*(ak o*F)))).right;clear z
 go_wp2_with fail
 try go_ret
 exact v.out _ _ ⟨o,hS,dA.trans d2,rfl,h3.out⟩
theorem OJ (c:Cx σ) (hc:c.Ok) (n:Nat) (g0:4<=n) (e0:n<=3840) (j:Nat) (M:ia σ) (w:G) (S:Hp) (kd:Int) (F:ai) (h:ag w (cG c S j M*(ak S*(F)))) :
  Calls W 68 #[gq j n,Z .i64 kd] w (Sw c j S F w (eu (ve c.ask n kd) M)):=by
 refine aJ fun k0 t=>?_;obtain ⟨p,hp⟩:∃ p,eu (ve c.ask n kd) M=p:=⟨_,rfl⟩
 rw [hp] at t;have l0:=ot W;have T:=fun c0 w F h=>Gk c hc n g0 e0 121 #[H (Y ⟨c0,0,O⟩)] (bG c0 kd) (ve c.ask n kd) (fun f0 w=>enters func121 (by kernel_rfl) rfl f0 w) (MG hc e0 kd c0) j M w S F h;rw [hp] at T;have d0:=ae T;have L:=((h.alloc (dm j n)).alloc (X #[Z .i64 kd] 3 (0,0)))
 have dA:=(((aj.refl w).alloc (dm j n)).alloc (X #[Z .i64 kd] 3 (0,0)))
 simp only [U2] at L;have hB:ag ((w.alloc (dm j n)).alloc (X #[Z .i64 kd] 3 (0,0))) (cG c S j M*(ak S*((bG (w.heap.size+1) kd)*(pt w.heap.size (dm j n)*F)))):=L.to (by unfold bG;ac_rfl);have HB:=ae hB;clear L hB T h;unfold gq
 go_enter func68,ntmps68
 go_wp2_with fail
 refine d0.out (w.heap.size+1) _ _ HB.out _ ?_;clear d0 HB;generalize m0:((w.alloc (dm j n)).alloc (X #[Z .i64 kd] 3 (0,0)))=w1 at *;generalize w.heap.size+1=b1 at *;generalize w.heap.size=b0 at *;obtain ⟨i0,M2⟩:=p
 cases i0 with
 | bad cN=>
  rintro e w2 ⟨o,Q,y,rfl,r⟩;have z:=ae (r.to (by ac_rfl:_=(pt b0 (dm j n)*bG b1 kd)*(cG c o j M2*(ak o*F)))).right;clear r
  go_wp2_with fail
  try go_ret
  exact t.out _ _ ⟨o,Q,dA.trans y,rfl,z.out⟩
 | ok a=>
  rintro e w2 ⟨o,v,Q,y,rfl,r⟩;have z:=ae (r.to (by ac_rfl:_=(pt b0 (dm j n)*bG b1 kd)*(Ia a v*(cG c o j M2*(ak o*F))))).right;clear r;obtain ⟨rfl,h4⟩:=ag.au.1 z.out
  go_wp2_with fail
  try go_ret
  exact t.out _ _ ⟨o,Q,dA.trans y,rfl,h4⟩
theorem IL (c:Cx σ) (hc:c.Ok) (n:Nat) (d0:4<=n) (e0:n<=3840) (j:Nat) (M:ia σ) (w:G) (S:Hp) (node:Int) (d:Int) (F:ai) (h:ag w (cG c S j M*(ak S*(F)))) :
  Calls W 38 #[gq j n,Z .i64 node,Z .i64 d] w (Mi c j S F w (eu (j8 c.ask n node d) M)):=by
 refine aJ fun f0 L=>?_;obtain ⟨p,hp⟩:∃ p,eu (j8 c.ask n node d) M=p:=⟨_,rfl⟩
 rw [hp] at L;have g0:=ot W;have v:=fun y r w F h=>Bd c hc n d0 e0 81 #[H (Y ⟨y,0,O⟩),H (Y ⟨r,0,O⟩)] (bG y node*(bG r d)) (j8 c.ask n node d) (fun c0 w=>enters func81 (by kernel_rfl) rfl c0 w) (EW hc node d y r) j M w S F h;rw [hp] at v;have Q:=ae v;have t:=(((h.alloc (dm j n)).alloc (X #[Z .i64 node] 3 (0,0))).alloc (X #[Z .i64 d] 3 (0,0)))
 have dA:=((((aj.refl w).alloc (dm j n)).alloc (X #[Z .i64 node] 3 (0,0))).alloc (X #[Z .i64 d] 3 (0,0)))
 simp only [U2] at t;have hB:ag (((w.alloc (dm j n)).alloc (X #[Z .i64 node] 3 (0,0))).alloc (X #[Z .i64 d] 3 (0,0))) (cG c S j M*(ak S*((bG (w.heap.size+1) node*(bG (w.heap.size+1+1) d))*(pt w.heap.size (dm j n)*F)))):=t.to (by unfold bG;ac_rfl);have z:=ae hB;clear t hB v h;unfold gq
 go_enter func38,ntmps38
 go_wp2_with fail
 refine Q.out (w.heap.size+1) (w.heap.size+1+1) _ _ z.out _ ?_;clear Q z;generalize i0:(((w.alloc (dm j n)).alloc (X #[Z .i64 node] 3 (0,0))).alloc (X #[Z .i64 d] 3 (0,0)))=w1 at *;generalize w.heap.size+1+1=b2 at *;generalize w.heap.size+1=b1 at *;generalize w.heap.size=b0 at *;rintro e w2 ⟨o,hS,d2,rfl,T⟩;have h3:=ae (T.to (by ac_rfl:_=(pt b0 (dm j n)*bG b1 node*bG b2 d)*(cG c o j p.2*(ak o*F)))).right;clear T
 go_wp2_with fail
 try go_ret
 exact L.out _ _ ⟨o,hS,dA.trans d2,rfl,h3.out⟩
theorem Eo (c:Cx σ) (hc:c.Ok) (n:Nat) (k0:4<=n) (g0:n<=3840) (j:Nat) (M:ia σ) (w:G) (S:Hp) (node:Int) (off:Int) (o:Int) (F:ai) (h:ag w (cG c S j M*(ak S*(F)))) :
  Calls W 92 #[gq j n,Z .i64 node,Z .i64 off,Z .i64 o] w (yI c j (J O 0 0) fJ S F w (eu (iS c.ask n node off o) M)):=by
 refine aJ fun m0 y=>?_;obtain ⟨p,hp⟩:∃ p,eu (iS c.ask n node off o) M=p:=⟨_,rfl⟩
 rw [hp] at y;have n0:=ot W;have c0:=fun d0 e0 z w F h=>tR c hc n k0 g0 154 #[H (Y ⟨d0,0,O⟩),H (Y ⟨e0,0,O⟩),H (Y ⟨z,0,O⟩)] (bG d0 node*(bG e0 off*(bG z o))) (iS c.ask n node off o) (fun i0 w=>enters func154 (by kernel_rfl) rfl i0 w) (A3 hc g0 node off o d0 e0 z) j M w S F h;rw [hp] at c0;have f0:=ae c0;have T:=((((h.alloc (dm j n)).alloc (X #[Z .i64 node] 3 (0,0))).alloc (X #[Z .i64 off] 3 (0,0))).alloc (X #[Z .i64 o] 3 (0,0)))
 have dA:=(((((aj.refl w).alloc (dm j n)).alloc (X #[Z .i64 node] 3 (0,0))).alloc (X #[Z .i64 off] 3 (0,0))).alloc (X #[Z .i64 o] 3 (0,0)))
 simp only [U2] at T;have hB:ag ((((w.alloc (dm j n)).alloc (X #[Z .i64 node] 3 (0,0))).alloc (X #[Z .i64 off] 3 (0,0))).alloc (X #[Z .i64 o] 3 (0,0))) (cG c S j M*(ak S*((bG (w.heap.size+1) node*(bG (w.heap.size+1+1) off*(bG (w.heap.size+1+1+1) o)))*(pt w.heap.size (dm j n)*F)))):=T.to (by unfold bG;ac_rfl);have HB:=ae hB;clear T hB c0 h;unfold gq
 go_enter func92,ntmps92
 go_wp2_with fail
 refine f0.out (w.heap.size+1) (w.heap.size+1+1) (w.heap.size+1+1+1) _ _ HB.out _ ?_;clear f0 HB;generalize o0:((((w.alloc (dm j n)).alloc (X #[Z .i64 node] 3 (0,0))).alloc (X #[Z .i64 off] 3 (0,0))).alloc (X #[Z .i64 o] 3 (0,0)))=w1 at *;generalize w.heap.size+1+1+1=b3 at *;generalize w.heap.size+1+1=b2 at *;generalize w.heap.size+1=b1 at *;generalize w.heap.size=b0 at *;obtain ⟨l0,M2⟩:=p
 cases l0 with
 | bad cN=>
  rintro e w2 ⟨r,hS,L,rfl,t⟩;have Q:=ae (t.to (by ac_rfl:_=(pt b0 (dm j n)*bG b1 node*bG b2 off*bG b3 o)*(cG c r j M2*(ak r*F)))).right;clear t
  go_wp2_with fail
  try go_ret
  exact y.out _ _ ⟨r,hS,dA.trans L,rfl,Q.out⟩
 | ok a=>
  rintro e w2 ⟨r,v,hS,L,rfl,t⟩;have Q:=ae (t.to (by ac_rfl:_=(pt b0 (dm j n)*bG b1 node*bG b2 off*bG b3 o)*(fJ a v*(cG c r j M2*(ak r*F))))).right;clear t
  go_wp2_with fail
  try go_ret
  exact y.out _ _ ⟨r,v,hS,dA.trans L,rfl,Q.out⟩
theorem uy (c:Cx σ) (hc:c.Ok) (n:Nat) (i0:4<=n) (d0:n<=3840) (j:Nat) (M:ia σ) (w:G) (S:Hp) (node:Int) (off:Int) (l:List UInt8) (va:Option Addr) (cap:Nat) (D:ai) (hD:∀ c0 P,ag c0 (D*P)->Rd c0 (J va l.length cap) l) (g0:l.length<=cap) (f0:l.length<=1000000000000) (F:ai) (h:ag w (cG c S j M*(ak S*(D*F)))) :
  Calls W 42 #[gq j n,Z .i64 node,Z .i64 off,J va l.length cap] w (Mi c j S (D*F) w (eu (gg c.ask n node off l) M)):=by
 refine aJ fun k0 Q=>?_;obtain ⟨p,hp⟩:∃ p,eu (gg c.ask n node off l) M=p:=⟨_,rfl⟩
 rw [hp] at Q;have l0:=ot W;have t:=fun v y z w F h=>Bd c hc n i0 d0 88 #[H (Y ⟨v,0,O⟩),H (Y ⟨y,0,O⟩),H (Y ⟨z,0,O⟩)] (bG v node*(bG y off*((KX z (J va l.length cap)*D)))) (gg c.ask n node off l) (fun e0 w=>enters func88 (by kernel_rfl) rfl e0 w) (zm hc d0 node off l va cap D hD g0 f0 v y z) j M w S F h;rw [hp] at t;have T:=ae t;have r:=((((h.alloc (dm j n)).alloc (X #[Z .i64 node] 3 (0,0))).alloc (X #[Z .i64 off] 3 (0,0))).alloc (X #[J va l.length cap] 37 (0,0)))
 have dA:=(((((aj.refl w).alloc (dm j n)).alloc (X #[Z .i64 node] 3 (0,0))).alloc (X #[Z .i64 off] 3 (0,0))).alloc (X #[J va l.length cap] 37 (0,0)))
 simp only [U2] at r;have hB:ag ((((w.alloc (dm j n)).alloc (X #[Z .i64 node] 3 (0,0))).alloc (X #[Z .i64 off] 3 (0,0))).alloc (X #[J va l.length cap] 37 (0,0))) (cG c S j M*(ak S*((bG (w.heap.size+1) node*(bG (w.heap.size+1+1) off*((KX (w.heap.size+1+1+1) (J va l.length cap)*D))))*(pt w.heap.size (dm j n)*F)))):=r.to (by unfold bG KX;ac_rfl);have L:=ae hB;clear r hB t h;unfold gq
 go_enter func42,ntmps42
 go_wp2_with fail
 refine T.out (w.heap.size+1) (w.heap.size+1+1) (w.heap.size+1+1+1) _ _ L.out _ ?_;clear T L;generalize m0:((((w.alloc (dm j n)).alloc (X #[Z .i64 node] 3 (0,0))).alloc (X #[Z .i64 off] 3 (0,0))).alloc (X #[J va l.length cap] 37 (0,0)))=w1 at *;generalize w.heap.size+1+1+1=b3 at *;generalize w.heap.size+1+1=b2 at *;generalize w.heap.size+1=b1 at *;generalize w.heap.size=b0 at *;rintro e w2 ⟨o,hS,d2,rfl,h2⟩;have h3:=ae (h2.to (by ac_rfl:_=(pt b0 (dm j n)*bG b1 node*bG b2 off*KX b3 (J va l.length cap))*(cG c o j p.2*(ak o*(D*F))))).right;clear h2
 go_wp2_with fail
 try go_ret
 exact Q.out _ _ ⟨o,hS,dA.trans d2,rfl,h3.out⟩
theorem pJ {w:G} {j:Array Value} {a:Nat} {e:Value} {o:Array Value} {F:ai} (h4:j[4]?=Y (ay a)) (r:j[5]?=Y e) (v:ag w (pt a (X o 73 (0,0))*F)) (t:o.size=20) :
  (results Tryz.f91 j).run W w = .ok (.tuple #[.agg o,e]) w:=by
 have y:=run_loadVar_row (P:=W) w a 73 73 o (0,0) _ v.heap underlying73 rfl (by rw [t];exact bf);have z:j.getD 4 undef = H (Y ⟨a,0,O⟩):=by simp [h4]
 have L:j.getD 5 undef=e:=by simp [r]
 simp [results,Tryz.results91,h4,r,asAddr,y]
theorem Mc (c:Cx σ) (hc:c.Ok) (n:Nat) (p0:4<=n) (q0:n<=3840) (j:Nat) (M:ia σ) (w:G) (S:Hp) (node:Int) (F:ai) (h:ag w (cG c S j M*(ak S*F))) :
  Calls W 91 #[gq j n,Z .i64 node] w (yI c j LS Ag S F w (eu (oF c.ask n node) M)):=by
 refine aJ fun s0 HQ=>?_;obtain ⟨p,hp⟩:∃ p,eu (oF c.ask n node) M=p:=⟨_,rfl⟩
 rw [hp] at HQ;have u0:=ot W;have f0:=fun g0 w F h=>G4 c hc n p0 q0 152 #[H (Y ⟨g0,0,O⟩)] (bG g0 node) (oF c.ask n node) (fun n0 w=>enters func152 (by kernel_rfl) rfl n0 w) (JG hc node g0) j M w S F h;rw [hp] at f0;have i0:=ae f0;have hA:=(((h.alloc (dm j n)).alloc (X #[Z .i64 node] 3 (0,0))).alloc (X #[Z .i64 0,Z .i64 0,Z .i64 0,Z .i64 0,Z .i64 0,Z .i64 0,Z .i64 0,Z .i64 0,Z .i64 0,Z .i64 0,Z .i64 0,Z .i64 0,Z .i64 0,Z .i64 0,Z .i64 0,Z .i64 0,Z .i64 0,Z .i64 0,Z .i64 0,Z .i64 0] 73 (0,0)))
 have dA:=((((aj.refl w).alloc (dm j n)).alloc (X #[Z .i64 node] 3 (0,0))).alloc (X #[Z .i64 0,Z .i64 0,Z .i64 0,Z .i64 0,Z .i64 0,Z .i64 0,Z .i64 0,Z .i64 0,Z .i64 0,Z .i64 0,Z .i64 0,Z .i64 0,Z .i64 0,Z .i64 0,Z .i64 0,Z .i64 0,Z .i64 0,Z .i64 0,Z .i64 0,Z .i64 0] 73 (0,0)))
 simp only [U2] at hA;have hB:ag (((w.alloc (dm j n)).alloc (X #[Z .i64 node] 3 (0,0))).alloc (X #[Z .i64 0,Z .i64 0,Z .i64 0,Z .i64 0,Z .i64 0,Z .i64 0,Z .i64 0,Z .i64 0,Z .i64 0,Z .i64 0,Z .i64 0,Z .i64 0,Z .i64 0,Z .i64 0,Z .i64 0,Z .i64 0,Z .i64 0,Z .i64 0,Z .i64 0,Z .i64 0] 73 (0,0))) (cG c S j M*(ak S*(bG (w.heap.size+1) node*(pt (w.heap.size+1+1) (X #[Z .i64 0,Z .i64 0,Z .i64 0,Z .i64 0,Z .i64 0,Z .i64 0,Z .i64 0,Z .i64 0,Z .i64 0,Z .i64 0,Z .i64 0,Z .i64 0,Z .i64 0,Z .i64 0,Z .i64 0,Z .i64 0,Z .i64 0,Z .i64 0,Z .i64 0,Z .i64 0] 73 (0,0))*(pt w.heap.size (dm j n)*F))))):=hA.to (by unfold bG;ac_rfl);have HB:=ae hB;clear hA hB f0 h;unfold gq
 go_enter func91,ntmps91
 go_wp2_with fail
 refine i0.out (w.heap.size+1) _ _ HB.out _ ?_;clear i0 HB;generalize x0:(((w.alloc (dm j n)).alloc (X #[Z .i64 node] 3 (0,0))).alloc (X #[Z .i64 0,Z .i64 0,Z .i64 0,Z .i64 0,Z .i64 0,Z .i64 0,Z .i64 0,Z .i64 0,Z .i64 0,Z .i64 0,Z .i64 0,Z .i64 0,Z .i64 0,Z .i64 0,Z .i64 0,Z .i64 0,Z .i64 0,Z .i64 0,Z .i64 0,Z .i64 0] 73 (0,0)))=w1 at *;generalize w.heap.size+1+1=o at *;generalize w.heap.size+1=b1 at *;generalize w.heap.size=b0 at *;obtain ⟨r0,M2⟩:=p;have o0:(prog.info? 73).map (·.size)=Y 20:=bf;have c0:∀ (T:Array Value) (Q:G) (P:ai),T.size=20->ag Q (pt o (X #[Z .i64 0,Z .i64 0,Z .i64 0,Z .i64 0,Z .i64 0,Z .i64 0,Z .i64 0,Z .i64 0,Z .i64 0,Z .i64 0,Z .i64 0,Z .i64 0,Z .i64 0,Z .i64 0,Z .i64 0,Z .i64 0,Z .i64 0,Z .i64 0,Z .i64 0,Z .i64 0] 73 (0,0))*P)->ag (Q.setRow o T) (pt o (X T 73 (0,0))*P):=fun T Q P L z=>z.setRow
 cases r0 with
 | bad cN=>
  rintro e Q ⟨r,z,d2,rfl,y⟩;have t:=y.to (by ac_rfl:_=pt o (X #[Z .i64 0,Z .i64 0,Z .i64 0,Z .i64 0,Z .i64 0,Z .i64 0,Z .i64 0,Z .i64 0,Z .i64 0,Z .i64 0,Z .i64 0,Z .i64 0,Z .i64 0,Z .i64 0,Z .i64 0,Z .i64 0,Z .i64 0,Z .i64 0,Z .i64 0,Z .i64 0] 73 (0,0))*((bG b1 node*pt b0 (dm j n))*(cG c r j M2*(ak r*F))));have Hz:=ae t.heap;have h4:=ae (c0 #[Z .i64 0,Z .i64 0,Z .i64 0,Z .i64 0,Z .i64 0,Z .i64 0,Z .i64 0,Z .i64 0,Z .i64 0,Z .i64 0,Z .i64 0,Z .i64 0,Z .i64 0,Z .i64 0,Z .i64 0,Z .i64 0,Z .i64 0,Z .i64 0,Z .i64 0,Z .i64 0] _ _ rfl t);have d0:Hid ((#[Z .i64 0,Z .i64 0,Z .i64 0,Z .i64 0,Z .i64 0,Z .i64 0,Z .i64 0,Z .i64 0,Z .i64 0,Z .i64 0,Z .i64 0,Z .i64 0,Z .i64 0,Z .i64 0,Z .i64 0,Z .i64 0,Z .i64 0,Z .i64 0,Z .i64 0,Z .i64 0]:Array Value).all (·.oneCell')=U):=CU;have D4:=ae ((dA.trans d2).setRow o #[Z .i64 0,Z .i64 0,Z .i64 0,Z .i64 0,Z .i64 0,Z .i64 0,Z .i64 0,Z .i64 0,Z .i64 0,Z .i64 0,Z .i64 0,Z .i64 0,Z .i64 0,Z .i64 0,Z .i64 0,Z .i64 0,Z .i64 0,Z .i64 0,Z .i64 0,Z .i64 0]);clear y t c0
  go_wp2_with (refine wpList_store_row (by exact rfl) 73 (.tmp 4) (.tmp 9) (by exact rfl) o #[Z .i64 0,Z .i64 0,Z .i64 0,Z .i64 0,Z .i64 0,Z .i64 0,Z .i64 0,Z .i64 0,Z .i64 0,Z .i64 0,Z .i64 0,Z .i64 0,Z .i64 0,Z .i64 0,Z .i64 0,Z .i64 0,Z .i64 0,Z .i64 0,Z .i64 0,Z .i64 0] (by exact rfl) (by exact rfl) 73 _ (by with_reducible exact Hz.out) o0 (by rfl) d0.out ?_)
  exact bodyPost_ret (pJ rfl rfl h4.out rfl) rfl (HQ.out _ _ ⟨r,z,D4.out,rfl,h4.out.right.right⟩)
 | ok a=>
  rintro e Q ⟨r,v,z,d2,rfl,y⟩;obtain ⟨⟨rfl,e0⟩,k0⟩:=ag.au.1 y;have t:=k0.to (by ac_rfl:_=pt o (X #[Z .i64 0,Z .i64 0,Z .i64 0,Z .i64 0,Z .i64 0,Z .i64 0,Z .i64 0,Z .i64 0,Z .i64 0,Z .i64 0,Z .i64 0,Z .i64 0,Z .i64 0,Z .i64 0,Z .i64 0,Z .i64 0,Z .i64 0,Z .i64 0,Z .i64 0,Z .i64 0] 73 (0,0))*((bG b1 node*pt b0 (dm j n))*(cG c r j M2*(ak r*F))));have L:(ints a.l).size=20:=by rw [dz,Nd.cells e0]
  have Hz:=ae t.heap;have h4:=ae (c0 (ints a.l) _ _ L t);have d0:Hid ((ints a.l).all (·.oneCell')=U):=by simp [RowKit.Hid,ints,Value.oneCell']
  have m0:Hid ((prog.info? 73).map (·.size)=Y (ints a.l).size):=by show _=_;rw [L];exact bf
  have D4:=ae ((dA.trans d2).setRow o (ints a.l));have HX:=ae L;have l0:=ae e0;clear y k0 t c0 L e0;unfold Nd.v
  go_wp2_with (refine wpList_store_row (by exact rfl) 73 (.tmp 4) (.tmp 9) (by exact rfl) o (ints a.l) (by exact rfl) (by exact rfl) 73 _ (by with_reducible exact Hz.out) m0.out (by rw [HX.out];rfl) d0.out ?_)
  exact bodyPost_ret (pJ rfl rfl h4.out HX.out) rfl (HQ.out _ _ ⟨r,_,z,D4.out,rfl,ag.au.2 ⟨⟨rfl,l0.out⟩,h4.out.right.right⟩⟩)
end
end Go.Proofs.Fs
namespace Go.SL
open Go.RowKit
section
variable {σ α β:Type}
structure sy (ask:dD σ) (n:Nat) (V:Nat->List UInt8) (I:σ->Prop):Prop where
 len:∀ i,i<n->(V i).length=480
 Sh:∀ (s:σ) (i:Nat),I s->i<n->(ask s (i:Int)).1=(0,V i)/\I (ask s (i:Int)).2
structure Good (n:Nat) (V:Nat->List UInt8) (I:σ->Prop) (b:ia σ):Prop where
 err:b.err=0
 inv:I b.s
 wr:∀ (i:Nat) l,i<n->aG b.W (i:Int)=some l->l.length=480
 rd:∀ (i:Nat) l,i<n->aG b.D (i:Int)=some l->l=V i
 keys:∀ p ∈ b.W,0<=p.1/\p.1<(n:Int)
def vw (V:Nat->List UInt8) (j:List (Int × List UInt8)) (i:Nat):List UInt8:=(aG j (i:Int)).getD (V i)
structure Aw where
 V:Nat->List UInt8
 B:List UInt8
structure Rel (n:Nat) (V0:Nat->List UInt8) (I:σ->Prop) (st:eZ σ) (a:Aw):Prop where
 fW:Good n V0 I st.b
 view:∀ i,0<i->i<n->vw V0 st.b.W i=a.V i
 bits:st.bits=some a.B\/(st.bits=none/\st.dt=false/\vw V0 st.b.W 0=a.B)
 dt:st.dt=false->vw V0 st.b.W 0=a.B
 len:a.B.length=480
def Ah (V:Nat->List UInt8) (i:Nat) (l:List UInt8):Nat->List UInt8:=fun k=>if k=i then l else V k
theorem sY (V:Nat->List UInt8) (j:List (Int × List UInt8)) (i:Nat) (l:List UInt8) (k:Nat):vw V (SL.fm j (i:Int) l) k=if k=i then l else vw V j k:=by
 unfold vw;rw [dp]
 by_cases h:k=i
 .subst h;rw [if_pos rfl,if_pos rfl];rfl
 .rw [if_neg h,if_neg (by omega)]
theorem Good.Lz {n:Nat} {V:Nat->List UInt8} {I:σ->Prop} {b:ia σ} {ask:dD σ} (hr:sy ask n V I) (h:Good n V I b) {i:Nat} (hi:i<n):(vw V b.W i).length=480:=by
 unfold vw
 cases j:aG b.W (i:Int) with
 | some l=>exact h.wr i l hi j
 | none=>exact hr.len i hi
def aR (n:Nat) (V0:Nat->List UInt8) (I:σ->Prop) (m:WM σ α) (a:Aw) (P:α->Aw->Prop) (E:Int->Prop):Prop:=
 ∀ st,Rel n V0 I st a->match m st with
  | (.ok x,j)=>∃ a',Rel n V0 I j a'/\P x a'
  | (.bad c,j)=>I j.b.s/\E c
variable {n:Nat} {V0:Nat->List UInt8} {I:σ->Prop} {ask:dD σ} {m:WM σ α} {a:Aw} {P:α->Aw->Prop} {E:Int->Prop}
theorem aR.bind {k:α->WM σ β} {R:β->Aw->Prop} (h:aR n V0 I m a P E) (t:∀ x a',P x a'->aR n V0 I (k x) a' R E):aR n V0 I (WM.bind m k) a R E:=by
 intro st v;have:=h st v;unfold WM.bind
 match y:m st,this with
 | (.ok x,o),⟨a',j,r⟩=>exact t x a' r o j
 | (.bad c,o),j=>exact j
theorem aR.mono {r:α->Aw->Prop} {o:Int->Prop} (h:aR n V0 I m a P E) (y:∀ x a',P x a'->r x a') (v:∀ c,E c->o c):aR n V0 I m a r o:=by
 intro st z;have:=h st z
 match Q:m st,this with
 | (.ok x,L),⟨a',j,t⟩=>exact ⟨a',j,y _ _ t⟩
 | (.bad c,L),j=>exact ⟨j.1,v _ j.2⟩
theorem aR.pure {x:α} (h:P x a):aR n V0 I (WM.pure x) a P E:=fun st j=>⟨a,j,h⟩
theorem aR.bad {c:Int} (h:E c):aR n V0 I (fun st=>((.bad c,st):Rs α × eZ σ)) a P E:=fun st j=>⟨j.fW.inv,h⟩
theorem aR.congr {m':WM σ α} (h:aR n V0 I m' a P E) (e:∀ st,m st=m' st):aR n V0 I m a P E:=fun st j=>by
 have:=h st j;rw [<- e st] at this;exact this
theorem Be (hr:sy ask n V0 I) {b:ia σ} (h:Good n V0 I b) {i:Nat} (hi:i<n) :
  ∃ o,fD ask b (i:Int)=((0,vw V0 b.W i),o)/\o.W=b.W/\Good n V0 I o:=by
 unfold fD vw;rw [if_neg (by rw [h.err];simp)]
 cases z:aG b.W (i:Int) with
 | some l=>exact ⟨b,rfl,rfl,h⟩
 | none=>
  cases v:aG b.D (i:Int) with
  | some l=>exact ⟨b,by rw [h.rd i l hi v];rfl,rfl,h⟩
  | none=>
   obtain ⟨r,t⟩:=hr.Sh b.s i h.inv hi;refine ⟨{ b with D:=SL.fm b.D (i:Int) (V0 i),s:=(ask b.s (i:Int)).2 },?_,rfl,h.err,t,h.wr,fun k l y j=>?_,h.keys⟩
   .show qL ask b (i:Int)=_
    unfold qL;rw [r];rfl
   .rw [dp] at j
    split at j
    .rename_i e;cases j;congr 1;omega
    .exact h.rd k l y j
theorem vH (hr:sy ask n V0 I) {st:eZ σ} (h:Good n V0 I st.b) {i:Nat} (hi:i<n) :
  ∃ j,cZ ask (i:Int) st=(.ok (vw V0 st.b.W i),{ st with b:=j })/\j.W=st.b.W/\Good n V0 I j:=by
 obtain ⟨j,o,r,t⟩:=Be hr h hi;refine ⟨j,?_,r,t⟩;unfold cZ;rw [o];rw [if_neg (by simp),if_neg (by simp [h.Lz hr hi])]
theorem aR.read (hr:sy ask n V0 I) {i:Nat} (h0:0<i) (hi:i<n):aR n V0 I (cZ ask (i:Int)) a (fun l a'=>l=a.V i/\l.length=480/\a'=a) E:=by
 intro st j;obtain ⟨o,t,r,v⟩:=vH hr j.fW hi;rw [t];refine ⟨a,⟨v,fun k z L=>?_,?_,fun y=>?_,j.len⟩,j.view i h0 hi,j.fW.Lz hr hi,rfl⟩
 .show vw V0 o.W k=_;rw [r];exact j.view k z L
 .show st.bits=_\/(st.bits=O/\st.dt=u/\vw V0 o.W 0=_);rw [r];exact j.bits
 .show vw V0 o.W 0=_;rw [r];exact j.dt y
theorem aR.write {i:Nat} {l:List UInt8} (h0:0<i) (b0:i<n) (T:l.length=480):aR n V0 I (bO (i:Int) l) a (fun _ a'=>a'={ a with V:=Ah a.V i l }) E:=by
 intro st j
 have e:jx st.b.err (i:Int) l=0:=by
  unfold jx;rw [j.fW.err,if_neg (by simp),if_neg (by omega)]
 have v:bO (i:Int) l st=(.ok (),{ st with b:={ st.b with W:=SL.fm st.b.W (i:Int) l } }):=if_pos e;rw [v];refine ⟨{ a with V:=Ah a.V i l },⟨⟨j.fW.err,j.fW.inv,fun k t r h'=>?_,j.fW.rd,fun p hp=>(xD hp).elim (fun e=>by rw [e];exact ⟨by omega,by omega⟩) (j.fW.keys p)⟩,fun k r Q=>?_,?_,fun L=>?_,j.len⟩,rfl⟩
 .have o:aG (SL.fm st.b.W (i:Int) l) (k:Int)=Y t:=h'
  rw [dp] at o
  split at o
  .cases o;exact T
  .exact j.fW.wr k t r o
 .show vw V0 (SL.fm st.b.W (i:Int) l) k=Ah a.V i l k
  rw [sY];unfold Ah
  split
  .rfl
  .exact j.view k r Q
 .rcases j.bits with h|⟨h,y,z⟩
  .exact .inl h
  .refine .inr ⟨h,y,?_⟩
   show vw V0 (SL.fm st.b.W (i:Int) l) 0=a.B
   rw [sY,if_neg (by omega)];exact z
 .show vw V0 (SL.fm st.b.W (i:Int) l) 0=a.B
  rw [sY,if_neg (by omega)];exact j.dt L
theorem aR.bits (hr:sy ask n V0 I) (h0:0<n):∀ st,Rel n V0 I st a->∃ st',kq ask st=(.ok a.B,st')/\Rel n V0 I st' a/\st'.bits=Y a.B:=by
 intro st j;unfold kq;rcases j.bits with h|⟨h,T,t⟩
 .rw [h];exact ⟨st,rfl,j,h⟩
 .rw [h]
  obtain ⟨o,v,r,z⟩:=vH hr j.fW h0;have y:cZ ask 0 st=(.ok (vw V0 st.b.W 0),{ st with b:=o }):=v;dsimp only;rw [y,t];refine ⟨_,rfl,⟨z,fun k L Q=>?_,.inl rfl,fun hd=>?_,j.len⟩,rfl⟩
  .show vw V0 o.W k=_;rw [r];exact j.view k L Q
  .show vw V0 o.W 0=_;rw [r];exact t
theorem aR.mark (hr:sy ask n V0 I) (h0:0<n) {id:Nat} {t:Bool}:aR n V0 I (fz ask id t) a (fun _ a'=>a'={ a with B:=ea a.B id t }) E:=by
 intro st v;obtain ⟨y,o,j,z⟩:=aR.bits hr h0 st v;have e:fz ask id t st=xS id t a.B y:=WM.bd o;rw [e];unfold xS;exact ⟨{ a with B:=ea a.B id t },⟨j.fW,j.view,.inl rfl,fun r=>by simp at r,by rw [eN];exact j.len⟩,rfl⟩
theorem aR.take (hr:sy ask n V0 I) (h0:0<n) (r:eK a.B n=O->E 7):aR n V0 I (ic ask n) a (fun k a'=>eK a.B n=Y k/\a'={ a with B:=ea a.B k U }) E:=by
 intro st y;obtain ⟨z,o,j,L⟩:=aR.bits hr h0 st y;have e:ic ask n st=qS n a.B z:=WM.bd o;rw [e];unfold qS
 cases v:eK a.B n with
 | none=>exact ⟨j.fW.inv,r v⟩
 | some k=>exact ⟨{ a with B:=ea a.B k U },⟨j.fW,j.view,.inl rfl,fun t=>by simp at t,by rw [eN];exact j.len⟩,rfl,rfl⟩
def JM (V0:Nat->List UInt8) (M:ia σ):Aw:=⟨vw V0 M.W,vw V0 M.W 0⟩
theorem Rel.start (hr:sy ask n V0 I) (h0:0<n) {M:ia σ} (h:Good n V0 I M):Rel n V0 I ⟨M,O,u⟩ (JM V0 M):=
 ⟨h,fun _ _ _=>rfl,.inr ⟨rfl,rfl,rfl⟩,fun _=>rfl,h.Lz hr h0⟩
theorem aR.run (hr:sy ask n V0 I) (h0:0<n) {M:ia σ} (hM:Good n V0 I M) (h:aR n V0 I m (JM V0 M) P E) :
  (∃ x M' a',eu m M=(.ok x,M')/\Good n V0 I M'/\P x a'/\vw V0 M'.W 0=a'.B/\∀ i,0<i->i<n->vw V0 M'.W i=a'.V i) \/
  (∃ c T,eu m M=(.bad c,{ M with s:=T })/\I T/\E c):=by
 have h1:=h _ (Rel.start hr h0 hM)
 match z:m ⟨M,O,u⟩,h1 with
 | (.ok x,j),⟨a',o,L⟩=>
  cases v:j.dt with
  | false=>exact .inl ⟨x,j.b,a',mY z v,o.fW,L,o.dt v,o.view⟩
  | true=>
   have r:j.bits=Y a'.B:=by
    rcases o.bits with r|⟨_,r,_⟩
    .exact r
    .rw [v] at r;cases r
   have e:jx j.b.err 0 (j.bits.getD [])=0:=by
    unfold jx;rw [o.fW.err,if_neg (by simp),r];simp [o.len]
   have e2:bO 0 (j.bits.getD []) j=(.ok (),{ j with b:={ j.b with W:=SL.fm j.b.W 0 (j.bits.getD []) } }):=if_pos e;refine .inl ⟨x,_,a',oK z v e2,⟨o.fW.err,o.fW.inv,fun k Q y h'=>?_,o.fW.rd,fun p hp=>(xD hp).elim (fun e=>by rw [e];exact ⟨by omega,by omega⟩) (o.fW.keys p)⟩,L,?_,fun k y b0=>?_⟩
   .have t:aG (SL.fm j.b.W ((0:Nat):Int) (j.bits.getD [])) (k:Int)=Y Q:=h'
    rw [dp] at t
    split at t
    .cases t;rw [r];exact o.len
    .exact o.fW.wr k Q y t
   .have:=sY V0 j.b.W 0 (j.bits.getD []) 0
    rw [if_pos rfl,r] at this;rw [r];exact this
   .have:=sY V0 j.b.W 0 (j.bits.getD []) k
    rw [if_neg (by omega)] at this;exact this.trans (o.view k y b0)
 | (.bad c,j),o=>exact .inr ⟨c,j.b.s,kE z,o.1,o.2⟩
end
theorem IS (x:Int) (j:List Int):ja (x :: j)=dg x 2++ja j:=rfl
theorem yz (l:List UInt8) (o m:Nat):bC l o (m+1)=ib (l.drop o) 2 :: bC l (o+2) m:=by
 simp only [bC,List.range_succ_eq_map,List.map_cons,List.map_map];congr 1;apply List.map_congr_left;intro i _;simp only [Function.comp,Nat.mul_succ];congr 2;omega
theorem sX (j:List Int):∀ (o rest:List UInt8),j.all cS=U->bC (o++(ja j++rest)) o.length j.length=j:=by
 induction j with
 | nil=>intro o rest _;rfl
 | cons x j r=>
  intro o rest h;simp only [List.all_cons,J2] at h;rw [List.length_cons,yz,List.drop_left,IS,G3,lD x 2 _ 2 (D2 _)];have t:=iI h.1;have e:x%(256:Int) ^ 2=x:=by rw [show (256:Int) ^ 2=65536 by decide];omega
  rw [e];congr 1;have:=r (o++dg x 2) rest h.2;rw [List.length_append,aU,G3] at this;exact this
theorem Kk {n:Nd} (j:n.dr.length=16):ie n=dg n.kd 1++(dg n.lk 2++(dg n.sz 4++(ja n.dr++(dg n.rw 2++zs 439)))):=by
 unfold ie Nu bM;have o:(ja [n.rw])=dg n.rw 2:=by simp [ja]
 rw [o];have r:(dg n.kd 1++dg n.lk 2++dg n.sz 4++ja n.dr++dg n.rw 2).length=41:=by simp [aU,iv,j]
 rw [List.take_append,r,List.take_of_length_le (by omega)];have t:(zs 480).take (480-41)=zs 439:=by unfold zs;rw [List.take_replicate];exact congrArg (fun m=>L2 m 0) (by decide)
 rw [t];simp only [G3]
theorem Gu {n:Nd} (o:n.dr.length=16) (y:n.ok=U):jE (ie n)=(n,0):=by
 have hf:=Nd.pY y;obtain ⟨hk,l0,l1,s0,s1,hd,hr,-,-⟩:=hf;have b0:=iI hr;rw [Kk o];obtain ⟨kd,lk,sz,dr,j⟩:=n;dsimp only at *
 have e1:ib (dg kd 1++(dg lk 2++(dg sz 4++(ja dr++(dg j 2++zs 439))))) 1=kd:=by
  rw [lD kd 1 _ 1 (D2 _),show (256:Int) ^ 1=256 by decide];omega
 have r:(dg kd 1++(dg lk 2++(dg sz 4++(ja dr++(dg j 2++zs 439))))).drop 1=dg lk 2++(dg sz 4++(ja dr++(dg j 2++zs 439))):=V2 (aU _ _)
 have t:(dg kd 1++(dg lk 2++(dg sz 4++(ja dr++(dg j 2++zs 439))))).drop 3=dg sz 4++(ja dr++(dg j 2++zs 439)):=by
  rw [show 3=1+2 from rfl,<- H3,r];exact V2 (aU _ _)
 have T:(dg kd 1++(dg lk 2++(dg sz 4++(ja dr++(dg j 2++zs 439))))).drop 7=ja dr++(dg j 2++zs 439):=by
  rw [show 7=3+4 from rfl,<- H3,t];exact V2 (aU _ _)
 have v:(dg kd 1++(dg lk 2++(dg sz 4++(ja dr++(dg j 2++zs 439))))).drop 39=dg j 2++zs 439:=by
  rw [show 39=7+32 from rfl,<- H3,T];exact V2 (by rw [iv,o])
 have Q:(dg kd 1++(dg lk 2++(dg sz 4++(ja dr++(dg j 2++zs 439))))).drop 41=zs 439:=by
  rw [show 41=39+2 from rfl,<- H3,v];exact V2 (aU _ _)
 have hp:bC (dg kd 1++(dg lk 2++(dg sz 4++(ja dr++(dg j 2++zs 439))))) 7 16=dr:=by
  have:=sX dr (dg kd 1++(dg lk 2++dg sz 4)) (dg j 2++zs 439) hd;rw [o] at this;have e:(dg kd 1++(dg lk 2++dg sz 4)).length=7:=by simp [aU]
  rw [e] at this;simpa only [G3] using this
 have hn:gM (dg kd 1++(dg lk 2++(dg sz 4++(ja dr++(dg j 2++zs 439)))))=⟨kd,lk,sz,dr,j⟩:=by
  unfold gM;rw [e1,r,t,v,hp,lD lk 2 _ 2 (D2 _),lD sz 4 _ 4 (D2 _),lD j 2 _ 2 (D2 _)];have z:lk%(256:Int) ^ 2=lk:=by rw [show (256:Int) ^ 2=65536 by decide];omega
  have L:sz%(256:Int) ^ 4=sz:=by rw [show (256:Int) ^ 4=4294967296 by decide];omega
  have a3:j%(256:Int) ^ 2=j:=by rw [show (256:Int) ^ 2=65536 by decide];omega
  rw [z,L,a3]
 unfold jE;rw [hn,Q,y];have hz:(zs 439).all (· == 0)=U:=List.all_eq_true.2 fun x hx=>by rw [List.eq_of_mem_replicate hx];rfl
 rw [hz]
 rfl
theorem KW {l:List Int} (h:l.length=240) (j:l.all cS=U):kG (ja l)=(l,0):=by
 have:=sX l [] [] j;simp only [List.nil_append,List.append_nil,List.length_nil,h] at this;unfold kG;rw [this,j]
 rfl
abbrev Own:=Nat × Nat × Nat
abbrev qK:Own:=(0,0,0)
abbrev IF:Own:=(1,0,0)
abbrev Ns:Own:=(2,0,0)
abbrev Ge (id:Nat):Own:=(3,id,0)
abbrev CW (id i:Nat):Own:=(4,id,i)
def eU {α:Type} (f:Nat->α) (k:Nat) (x:α):Nat->α:=fun b=>if b=k then x else f b
theorem bJ {α:Type} (f:Nat->α) (k:Nat) (x:α):eU f k x k=x:=if_pos rfl
theorem aS {α:Type} (f:Nat->α) {k b:Nat} (x:α) (h:b≠k):eU f k x b=f b:=if_neg h
def ym (own:Nat->Own) (n:Nat):Nat:=(H2 n).countP fun b=>own b == qK
theorem tI (own:Nat->Own) (n:Nat):ym own (n+1)=ym own n+if own n=qK then 1 else 0:=by
 unfold ym;rw [L3,W2];simp [P3]
theorem EB {own own':Nat->Own} {n:Nat} (h:∀ b,b<n->own b=own' b):ym own n=ym own' n:=by
 unfold ym;apply Q3;intro b j;rw [h b (List.mem_range.1 j)]
theorem sx {own:Nat->Own} {k:Nat} {x:Own}:∀ {n:Nat},k<n->ym (eU own k x) n+(if own k=qK then 1 else 0)=ym own n+if x=qK then 1 else 0
 | n+1,h=>by
  rw [tI,tI]
  by_cases j:k=n
  .subst j
   rw [bJ,EB (own:=eU own k x) (own':=own) fun b o=>aS _ _ (by omega)];omega
  .have:=sx (own:=own) (x:=x) (show k<n by omega)
   rw [aS _ _ (by omega:n≠k)];omega
structure Bm (n:Nat) (own:Nat->Own) (B:List UInt8):Prop where
 len:B.length=480
 bit:∀ b,b<n->(ei B b=true↔own b≠qK)
theorem Bm.set {n:Nat} {own:Nat->Own} {B:List UInt8} (h:Bm n own B) (hn:n<=3840) {k:Nat} (v:k<n) (x:Own) (t:Bool) (r:t=U↔x≠qK):Bm n (eU own k x) (ea B k t):=by
 refine ⟨by rw [eN];exact h.len,fun b o=>?_⟩;rw [vE (by rw [h.len];omega)]
 by_cases j:b=k
 .subst j;rw [if_pos rfl,bJ];exact r
 .rw [if_neg j,aS _ _ j];exact h.bit b o
theorem Bm.qh {n:Nat} {own:Nat->Own} {B:List UInt8} (h:Bm n own B) {k:Nat} (j:eK B n=Y k):k<n/\own k=qK:=by
 unfold eK at j;have v:=List.mem_of_find?_eq_some j;have o:=List.find?_some j;have t:=List.mem_range.1 v;refine ⟨t,?_⟩;have:=(h.bit k t)
 by_cases r:own k=qK
 .exact r
 .have y:=this.2 r
  rw [y] at o;simp at o
theorem Bm.gE {n:Nat} {own:Nat->Own} {B:List UInt8} (h:Bm n own B) (j:eK B n=O):ym own n=0:=by
 unfold eK at j;rw [List.find?_eq_none] at j;unfold ym;rw [S3];intro b r y;have L:=List.mem_range.1 r;have o:=j b r;have t:own b=qK:=by simpa using y
 have v:=(h.bit b L)
 have h4:ei B b=U:=by
  cases z:ei B b with
  | true=>rfl
  | false=>rw [z] at o;simp at o
 exact v.1 h4 t
structure Hd.Ok (n id:Nat) (h:Hd):Prop where
 fit:h.fit
 id:h.id=id
 kd:h.n.kd=1\/h.n.kd=2
 Lv:0<=h.n.lk
 Pp:h.n.lk<=65535
 Lb:0<=h.n.sz
 NR:h.n.sz<=122880
 Ls:0<=h.n.rw
 N4:h.n.rw<n
 pg:∀ i,i<256->0<=h.bk i/\h.bk i<n
 rz:h.n.rw=0->∀ i,16<=i->i<256->h.bk i=0
def fV (N:Nat->Option Hd) (b id:Nat):Prop:=∃ h,N id=Y h/\h.n.rw=(b:Int)/\b≠0
def fU (N:Nat->Option Hd) (b id i:Nat):Prop:=∃ h,N id=Y h/\i<256/\h.bk i=(b:Int)/\b≠0
structure jS (n:Nat) (own:Nat->Own) (N:Nat->Option Hd):Prop where
 bm:∀ b,own b=IF↔b=0
 out:∀ b,n<=b->own b=qK
 ok:∀ id h,N id=some h->0<id/\id<n/\h.Ok n id
 nd:∀ b,own b=Ns↔(N b).isSome=true
 rw:∀ b id,own b=Ge id↔fV N b id
 pg:∀ b id i,own b=CW id i↔fU N b id i
section
variable {n id k i:Nat} {own:Nat->Own} {N:Nat->Option Hd} {h h':Hd}
theorem jS.wQ (L:jS n own N) (hN:N id=Y h):own id=Ns:=(L.nd id).2 (by rw [hN];rfl)
theorem jS.AI (L:jS n own N) (hN:N id=Y h) (h0:h.n.rw≠0):own h.n.rw.toNat=Ge id:=by
 have:=(L.ok id h hN).2.2.Ls;exact (L.rw _ _).2 ⟨h,hN,by omega,by omega⟩
theorem jS.KC (L:jS n own N) (hN:N id=Y h) (hi:i<256) (h0:h.bk i≠0):own (h.bk i).toNat=CW id i:=by
 have:=((L.ok id h hN).2.2.pg i hi).1;exact (L.pg _ _ _).2 ⟨h,hN,hi,by omega,by omega⟩
theorem jS.zero (L:jS n own N):own 0=IF:=(L.bm 0).2 rfl
theorem jS.iV (L:jS n own N) (j:own k=qK):k≠0:=by rintro rfl;rw [L.zero] at j;cases j
theorem jS.gE (L:jS n own N) (j:own k=qK):N k=O:=by
 cases hN:N k with
 | none=>rfl
 | some h=>have:=L.wQ hN;rw [j] at this;cases this
theorem jS.fm (L:jS n own N) {x:Own} {o:Nat->Option Hd} (t:k≠0) (d0:k<n) (hx:x≠IF) (z:∀ id h,o id=Y h->0<id/\id<n/\h.Ok n id)
  (v:∀ b,b≠k->(o b).isSome=(N b).isSome) (y:x=Ns↔(o k).isSome=U)
  (c0:∀ b id,b≠k->(fV o b id↔fV N b id)) (b0:∀ id,x=Ge id↔fV o k id)
  (Q:∀ b id i,b≠k->(fU o b id i↔fU N b id i)) (T:∀ id i,x=CW id i↔fU o k id i):jS n (eU own k x) o:=by
 refine ⟨fun b=>?_,fun b r=>?_,z,fun b=>?_,fun b id=>?_,fun b id i=>?_⟩
 .by_cases j:b=k
  .subst j;rw [bJ];exact ⟨fun h=>absurd h hx,fun h=>absurd h t⟩
  .rw [aS _ _ j];exact L.bm b
 .rw [aS _ _ (by omega)];exact L.out b r
 .by_cases j:b=k
  .subst j;rw [bJ];exact y
  .rw [aS _ _ j,v b j];exact L.nd b
 .by_cases j:b=k
  .subst j;rw [bJ];exact b0 id
  .rw [aS _ _ j,c0 b id j];exact L.rw b id
 .by_cases j:b=k
  .subst j;rw [bJ];exact T id i
  .rw [aS _ _ j,Q b id i j];exact L.pg b id i
theorem CT {N:Nat->Option Hd} {o:Option Hd} {id id':Nat} {g:Hd} (h:eU N id o id'=Y g):(id'=id/\o=Y g)\/(id'≠id/\N id'=Y g):=by
 by_cases e:id'=id
 .subst e;rw [bJ] at h;exact .inl ⟨rfl,h⟩
 .rw [aS _ _ e] at h;exact .inr ⟨e,h⟩
theorem kp {N:Nat->Option Hd} {id b:Nat} (hN:N id=Y h):(eU N id (Y h') b).isSome=(N b).isSome:=by
 by_cases e:b=id
 .subst e;rw [bJ,hN];rfl
 .rw [aS _ _ e]
theorem qT (hN:N id=Y h) {b id':Nat} (r:b≠0->(h'.n.rw=(b:Int)↔h.n.rw=(b:Int))):fV (eU N id (Y h')) b id'↔fV N b id':=by
 by_cases e:id'=id
 .subst e
  unfold fV;rw [bJ,hN];constructor
  .rintro ⟨g,e,o,j⟩;cases e;exact ⟨h,rfl,(r j).1 o,j⟩
  .rintro ⟨g,e,o,j⟩;cases e;exact ⟨h',rfl,(r j).2 o,j⟩
 .unfold fV;rw [aS _ _ e]
theorem qx (hN:N id=Y h) {b id' j:Nat} (v:j<256->b≠0->(h'.bk j=(b:Int)↔h.bk j=(b:Int))):fU (eU N id (Y h')) b id' j↔fU N b id' j:=by
 by_cases e:id'=id
 .subst e
  unfold fU;rw [bJ,hN];constructor
  .rintro ⟨g,e,r,t,o⟩;cases e;exact ⟨h,rfl,r,(v r o).1 t,o⟩
  .rintro ⟨g,e,r,t,o⟩;cases e;exact ⟨h',rfl,r,(v r o).2 t,o⟩
 .unfold fU;rw [aS _ _ e]
theorem jS.Ou (L:jS n own N) (hN:N id=Y h) (o:h'.Ok n id):∀ id' g,eU N id (Y h') id'=Y g->0<id'/\id'<n/\g.Ok n id':=by
 intro id' g j;rcases CT j with ⟨rfl,e⟩|⟨_,e⟩
 .cases e;exact ⟨(L.ok _ _ hN).1,(L.ok _ _ hN).2.1,o⟩
 .exact L.ok _ _ e
theorem jS.KU (L:jS n own N) {x:Own} (j:own k=x) (o:∀ id,x≠Ge id):∀ id,¬ fV N k id:=fun id h=>o id (j.symm.trans ((L.rw k id).2 h))
theorem jS.Dw (L:jS n own N) {x:Own} (j:own k=x) (o:∀ id i,x≠CW id i):∀ id i,¬ fU N k id i:=fun id i h=>o id i (j.symm.trans ((L.pg k id i).2 h))
theorem jS.new (L:jS n own N) (o:own k=qK) (t:k<n) (T:h'.Ok n k) (hp:∀ i,i<256->h'.bk i=0) (hr:h'.n.rw=0):jS n (eU own k Ns) (eU N k (Y h')):=by
 have hN:=L.gE o;have Q:=L.iV o
 have hR:∀ b id,fV (eU N k (Y h')) b id↔fV N b id:=by
  intro b id
  by_cases e:id=k
  .subst e
   unfold fV;rw [bJ,hN];constructor
   .rintro ⟨g,e,j,v⟩;cases e;rw [hr] at j;exact absurd j (by omega)
   .rintro ⟨g,e,_⟩;cases e
  .unfold fV;rw [aS _ _ e]
 have r:∀ b id i,fU (eU N k (Y h')) b id i↔fU N b id i:=by
  intro b id i
  by_cases e:id=k
  .subst e
   unfold fU;rw [bJ,hN];constructor
   .rintro ⟨g,e,hi,j,v⟩;cases e;rw [hp i hi] at j;exact absurd j (by omega)
   .rintro ⟨g,e,_⟩;cases e
  .unfold fU;rw [aS _ _ e]
 refine L.fm Q t (by decide) ?_ (fun b y=>by rw [aS _ _ y]) (by rw [bJ];simp) (fun b id _=>hR b id) (fun id=>?_) (fun b id i _=>r b id i) (fun id i=>?_)
 .intro id g z
  rcases CT z with ⟨rfl,e⟩|⟨_,e⟩
  .cases e;exact ⟨by omega,t,T⟩
  .exact L.ok _ _ e
 .rw [hR]
  exact ⟨fun h=>absurd h (by simp),fun h=>absurd h (L.KU o (by simp) id)⟩
 .rw [r]
  exact ⟨fun h=>absurd h (by simp),fun h=>absurd h (L.Dw o (by simp) id i)⟩
theorem jS.bk (L:jS n own N) (hN:N id=Y h) (t:own k=qK) (e0:k<n) (hi:i<256) (h0:h.bk i=0) (hr:16<=i->h.n.rw≠0):jS n (eU own k (CW id i)) (eU N id (Y (h.put i (k:Int)))):=by
 have c0:=L.iV t;have o:=(L.ok _ _ hN).2.2;have v:=fun j=>Hd.oO o.fit hi (k:Int) j;have hR:∀ b id',fV (eU N id (Y (h.put i (k:Int)))) b id'↔fV N b id':=fun b id'=>qT hN (by rw [Hd.qM];exact fun _=>Iff.rfl);refine L.fm c0 e0 (by simp) (L.Ou hN ?_) (fun b _=>kp hN) ?_ (fun b id _=>hR b id) (fun id'=>?_) (fun b id' j hb=>qx hN fun y=>?_) (fun id' j=>?_)
 .refine ⟨Hd.Dp o.fit _ _,by rw [Hd.Pr];exact o.id,?_,?_,?_,?_,?_,by rw [Hd.qM];exact o.Ls,by rw [Hd.qM];exact o.N4,fun j y=>?_,fun r j b0 d0=>?_⟩
  .unfold Hd.put;split <;> exact o.kd
  .unfold Hd.put;split <;> exact o.Lv
  .unfold Hd.put;split <;> exact o.Pp
  .rw [Hd.Ja];exact o.Lb
  .rw [Hd.Ja];exact o.NR
  .rw [v];split
   .exact ⟨by omega,by omega⟩
   .exact o.pg j y
  .rw [Hd.qM] at r
   rw [v,if_neg (by rintro rfl;exact hr b0 r)];exact o.rz r j b0 d0
 .have:(N k)=O:=L.gE t
  rw [kp hN,this];simp
 .rw [hR];exact ⟨fun h=>absurd h (by simp),fun h=>absurd h (L.KU t (by simp) id')⟩
 .rw [v]
  intro f0
  split
  .rename_i e;subst e;rw [h0]
   exact ⟨fun h=>absurd (by omega) hb,fun h=>absurd h.symm (by omega)⟩
  .exact Iff.rfl
 .by_cases e:id'=id
  .subst e
   by_cases Q:j=i
   .subst Q
    exact ⟨fun _=>⟨_,bJ _ _ _,hi,by rw [v,if_pos rfl],c0⟩,fun _=>rfl⟩
   .refine ⟨fun h=>absurd h (by simp;omega),fun r=>?_⟩
    obtain ⟨g,e,y,T,h2⟩:=r;rw [bJ] at e;cases e
    rw [v,if_neg Q] at T;exact absurd ⟨h,hN,y,T,h2⟩ (L.Dw t (by simp) _ _)
  .refine ⟨fun h=>absurd h (by simp;omega),fun r=>?_⟩
   obtain ⟨g,z,r⟩:=r;rw [aS _ _ e] at z;exact absurd ⟨g,z,r⟩ (L.Dw t (by simp) _ _)
theorem jS.row (L:jS n own N) (hN:N id=Y h) (t:own k=qK) (Q:k<n) (h0:h.n.rw=0):jS n (eU own k (Ge id)) (eU N id (Y (h.iR (k:Int)))):=by
 have z:=L.iV t;have o:=(L.ok _ _ hN).2.2;have y:∀ b id' j,fU (eU N id (Y (h.iR (k:Int)))) b id' j↔fU N b id' j:=fun b id' j=>qx hN fun _ _=>Iff.rfl;refine L.fm z Q (by simp) (L.Ou hN ?_) (fun b _=>kp hN) ?_ (fun b id' T=>qT hN fun b0=>?_) (fun id'=>?_) (fun b id i _=>y b id i) (fun id' j=>?_)
 .exact ⟨o.fit,o.id,o.kd,o.Lv,o.Pp,o.Lb,o.NR,show 0<=(k:Int) by omega,show (k:Int)<n by omega,o.pg,fun r=>absurd (show (k:Int)=0 from r) (by omega)⟩
 .rw [kp hN,L.gE t];simp
 .rw [h0];show (k:Int)=b↔_;constructor <;> intro r <;> omega
 .by_cases e:id'=id
  .subst e
   exact ⟨fun _=>⟨_,bJ _ _ _,rfl,z⟩,fun _=>rfl⟩
  .refine ⟨fun h=>absurd h (by simp;omega),fun r=>?_⟩
   obtain ⟨g,v,r⟩:=r;rw [aS _ _ e] at v;exact absurd ⟨g,v,r⟩ (L.KU t (by simp) _)
 .rw [y];exact ⟨fun h=>absurd h (by simp),fun h=>absurd h (L.Dw t (by simp) id' j)⟩
theorem jS.set (L:jS n own N) (hN:N id=Y h) (r:h'.Ok n id) (hr:h'.n.rw=h.n.rw) (t:∀ i,i<256->h'.bk i=h.bk i):jS n own (eU N id (Y h')):=by
 refine ⟨L.bm,L.out,L.Ou hN r,fun b=>?_,fun b id'=>?_,fun b id' j=>?_⟩
 .rw [kp hN];exact L.nd b
 .rw [qT hN fun _=>by rw [hr]];exact L.rw b id'
 .rw [qx hN fun o _=>by rw [t j o]];exact L.pg b id' j
end
def ki (V:Nat->List UInt8) (h:Hd) (p:Nat):UInt8:=if h.bk (p/480)=0 then 0 else (V (h.bk (p/480)).toNat).getD (p%480) 0
structure za (V:Nat->List UInt8) (h:Hd):Prop where
 dec:jE (V h.id)=(h.n,0)
 row:h.n.rw≠0->kG (V h.n.rw.toNat)=(h.row,0)
structure Hd.Fin (h:Hd):Prop where
 hi:∀ i:Nat,i<256->cK h.n.sz<=i->h.bk i=0
 Qd:h.n.rw≠0->∃ i,16<=i/\i<256/\h.bk i≠0
def AZ (V:Nat->List UInt8) (h:Hd):Prop:=∀ p:Nat,p<122880->h.n.sz<=p->ki V h p=0
structure tY (n:Nat) (a:Aw) (own:Nat->Own) (N:Nat->Option Hd) (id:Nat):Prop where
 lay:jS n own N
 bm:Bm n own a.B
 len:∀ b,0<b->b<n->(a.V b).length=480
 rest:∀ id' h,id'≠id->N id'=some h->h.Fin/\za a.V h/\AZ a.V h
section
variable {n id k i:Nat} {own:Nat->Own} {N:Nat->Option Hd} {h h':Hd} {a:Aw} {V V':Nat->List UInt8}
theorem jS.Sl (L:jS n own N):N 0=O:=by
 cases hN:N 0 with
 | none=>rfl
 | some h=>exact absurd (L.ok 0 h hN).1 (by omega)
theorem jv (V:Nat->List UInt8) (k:Nat) (l:List UInt8):Ah V k l k=l:=if_pos rfl
theorem fg (V:Nat->List UInt8) {k b:Nat} (l:List UInt8) (h:b≠k):Ah V k l b=V b:=if_neg h
theorem za.frame (L:jS n own N) (hN:N id=Y h) (o:za V h) (j:∀ b,b=id\/own b=Ge id->V' b=V b):za V' h:=by
 have r:=(L.ok _ _ hN).2.2;refine ⟨?_,fun h0=>?_⟩
 .rw [j _ (.inl r.id)];exact o.dec
 .rw [j _ (.inr (L.AI hN h0))];exact o.row h0
theorem mW (L:jS n own N) (hN:N id=Y h) (j:∀ b i,own b=CW id i->V' b=V b) {p:Nat} (o:p<122880):ki V' h p=ki V h p:=by
 unfold ki
 split
 .rfl
 .rename_i h0
  rw [j _ _ (L.KC hN (by omega) h0)]
theorem AZ.frame (L:jS n own N) (hN:N id=Y h) (t:AZ V h) (r:∀ b i,own b=CW id i->V' b=V b):AZ V' h:=fun p j o=>by
 rw [mW L hN r j];exact t p j o
def FV (own:Nat->Own) (id k:Nat):Prop:=own k=qK\/(own k=Ns/\k=id)\/own k=Ge id\/∃ i,own k=CW id i
theorem sP {id':Nat} (L:jS n own N) (hN:N id'=Y h) (v:id'≠id) (t:FV own id k):k≠id'/\own k≠Ge id'/\∀ i,own k≠CW id' i:=by
 have:=L.wQ hN;refine ⟨?_,?_,?_⟩
 .rintro rfl
  rcases t with o|⟨_,o⟩|o|⟨i,o⟩
  .rw [this] at o;cases o
  .exact v o
  .rw [this] at o;cases o
  .rw [this] at o;cases o
 .intro r
  rcases t with o|⟨o,_⟩|o|⟨i,o⟩
  .rw [r] at o;cases o
  .rw [r] at o;cases o
  .rw [r] at o;simp at o;exact v o
  .rw [r] at o;cases o
 .intro j r
  rcases t with o|⟨o,_⟩|o|⟨i,o⟩
  .rw [r] at o;cases o
  .rw [r] at o;cases o
  .rw [r] at o;cases o
  .rw [r] at o;simp at o;exact v o.1
theorem tY.NU (S:tY n a own N id) {id':Nat} (r:id'≠id) (hN:N id'=Y h) (t:∀ b,¬ FV own id b->V' b=a.V b):h.Fin/\za V' h/\AZ V' h:=by
 obtain ⟨v,y,z⟩:=S.rest id' h r hN;refine ⟨v,y.frame S.lay hN fun b j=>t b fun o=>?_,z.frame S.lay hN fun b i j=>t b fun o=>?_⟩
 .have:=sP S.lay hN r o
  rcases j with rfl|j
  .exact this.1 rfl
  .exact this.2.1 j
 .exact (sP S.lay hN r o).2.2 i j
theorem vI (L:jS n own N) {id':Nat} (t:id'≠id) (hN:N id'=Y h) (j:∀ b,¬ FV own id b->V' b=V b) {p:Nat} (v:p<122880):ki V' h p=ki V h p:=
 mW L hN (fun b i o=>j b fun r=>(sP L hN t r).2.2 i o) v
theorem tY.fp (S:tY n a own N 0) (id:Nat):tY n a own N id:=⟨S.lay,S.bm,S.len,fun id' h j hN=>S.rest id' h (by rintro rfl;rw [S.lay.Sl] at hN;cases hN) hN⟩
theorem tY.write (S:tY n a own N id) (o:FV own id k) {l:List UInt8} (r:l.length=480):tY n { a with V:=Ah a.V k l } own N id:=by
 refine ⟨S.lay,S.bm,fun b h0 j=>?_,fun id' h v hN=>S.NU v hN fun b t=>fg _ _ (by rintro rfl;exact t o)⟩
 by_cases e:b=k
 .subst e;show (Ah a.V b l b).length=480;rw [jv];exact r
 .show (Ah a.V k l b).length=480;rw [fg _ _ e];exact S.len b h0 j
theorem tY.step (S:tY n a own N id) {o:Nat->Own} {j:Nat->Option Hd} {r:List UInt8} (v:jS n o j) (z:Bm n o r) (hN:∀ id',id'≠id->j id'=N id'):tY n { a with B:=r } o j id:=
 ⟨v,z,S.len,fun id' h t y=>S.rest id' h t ((hN id' t).symm.trans y)⟩
theorem Hd.Ok.ok (j:h.Ok n id) (hn:n<=3840) (r:h.Fin):h.n.ok=U:=by
 have v:∀ i,i<16->h.bk i=h.n.dr.getD i 0:=fun i hi=>by unfold Hd.bk;rw [if_pos hi]
 unfold Nd.ok
 have y:h.n.dr.all cS=U:=by
  rw [X2];intro p hp;obtain ⟨i,hi,rfl⟩:=J3 hp;have T:i<16:=by have:=j.fit.1;omega
  have h1:=j.pg i (by omega);have t:=v i T;rw [E2,Y2 hi] at t;simp only [Option.getD_some] at t;unfold cS;simp only [J2,decide_eq_true_eq];omega
 have z:cS h.n.rw=U:=by
  have:=j.Ls;have:=j.N4;unfold cS;simp only [J2,decide_eq_true_eq];omega
 have L:(16<cK h.n.sz)\/h.n.rw=0:=by
  by_cases h0:h.n.rw=0
  .exact .inr h0
  .obtain ⟨i,i1,i2,i3⟩:=r.Qd h0
   left
   by_cases o:cK h.n.sz<=i
   .exact absurd (r.hi i i2 o) i3
   .omega
 have Q:((H2 16).all fun i=>decide ((i:Int)<cK h.n.sz) || decide (h.n.dr.getD i 0=0))=U:=by
  rw [X2];intro i hi;have hi:=List.mem_range.1 hi;simp only [N2,decide_eq_true_eq]
  by_cases o:cK h.n.sz<=i
  .right;rw [<- v i hi];exact r.hi i (by omega) o
  .left;omega
 rw [y,z,Q];have:=j.kd;have:=j.Lv;have:=j.Pp;have:=j.Lb;have:=j.NR;simp only [J2,N2,decide_eq_true_eq];exact ⟨⟨⟨⟨⟨⟨⟨⟨j.kd,j.Lv⟩,j.Pp⟩,j.Lb⟩,j.NR⟩,trivial⟩,trivial⟩,L⟩,trivial⟩
theorem Hd.Ok.row (o:h.Ok n id) (hn:n<=3840):h.row.all cS=U/\h.row.all (fun x=>decide (x<n))=U:=by
 have r:∀ x ∈ h.row,0<=x/\x<n:=by
  intro x j;obtain ⟨i,hi,rfl⟩:=J3 j;have y:=o.fit.2;have t:=o.pg (16+i) (by omega)
  have v:h.bk (16+i)=h.row[i]:=by
   unfold Hd.bk;rw [if_neg (by omega),show 16+i-16=i by omega,E2,Y2 hi];rfl
  omega
 constructor
 .rw [X2];intro x j;have:=r x j;unfold cS;simp only [J2,decide_eq_true_eq];omega
 .rw [X2];intro x j;have:=r x j;simp only [decide_eq_true_eq];omega
theorem Hd.Ok.dr (j:h.Ok n id):h.n.dr.all (fun x=>decide (x<n))=U:=by
 rw [X2];intro x o;obtain ⟨i,hi,rfl⟩:=J3 o;have t:=j.fit.1;have r:=j.pg i (by omega)
 have v:h.bk i=h.n.dr[i]:=by
  unfold Hd.bk;rw [if_pos (by omega),E2,Y2 hi];rfl
 simp only [decide_eq_true_eq];omega
theorem Hd.Ok.Rw (o:h.Ok n id) (h0:h.n.rw=0):h.row=L2 240 0:=by
 rw [List.eq_replicate_iff];refine ⟨o.fit.2,fun x r=>?_⟩;obtain ⟨i,hi,rfl⟩:=J3 r;have t:=o.fit.2;have j:=o.rz h0 (16+i) (by omega) (by omega);unfold Hd.bk at j;rw [if_neg (by omega),show 16+i-16=i by omega,E2,Y2 hi] at j;exact j
end
section
variable {σ:Type} {n id:Nat} {own:Nat->Own} {N:Nat->Option Hd} {h:Hd} {a:Aw} {V0:Nat->List UInt8} {I:σ->Prop} {ask:dD σ} {E:Int->Prop}
theorem aR.within {l:List Int} (j:l.all (fun x=>decide (x<n))=U):aR n V0 I (eo n l) a (fun _ a'=>a'=a) E:=
 aR.congr (m':=WM.pure ()) (aR.pure rfl) fun st=>by unfold eo WM.pure;rw [if_pos j]
theorem aR.load (hr:sy ask n V0 I) (hn:n<=3840) (S:tY n a own N 0) (hN:N id=Y h):aR n V0 I (gR ask n (id:Int)) a (fun x a'=>x=h/\a'=a) E:=by
 obtain ⟨z,Q,j⟩:=S.lay.ok _ _ hN;obtain ⟨T,v,ht⟩:=S.rest id h (by omega) hN
 have r:∀ a,aR n V0 I (ik n id h.n h.row) a (fun x a'=>x=h/\a'=a) E:=by
  intro a;refine (aR.within j.dr).bind fun _ a' e=>?_;subst e;refine (aR.within (j.row hn).2).bind fun _ a' e=>?_;subst e;exact aR.pure ⟨by rw [<- j.id],rfl⟩
 refine aR.congr (m':=WM.bind (cZ ask (id:Int)) fun L=>OI (jE L) (jX ask n id)) ?_ fun st=>if_pos ⟨by omega,by omega⟩;refine (aR.read hr z Q).bind fun L a' e=>?_;obtain ⟨rfl,-,rfl⟩:=e;have t:=v.dec;rw [j.id] at t;rw [t];refine aR.congr (m':=jX ask n id h.n) ?_ fun st=>if_pos rfl
 by_cases h0:h.n.rw=0
 .refine aR.congr (m':=ik n id h.n h.row) (r _) fun st=>?_
  rw [j.Rw h0];exact if_pos h0
 .have r0:=j.Ls
  have r1:=j.N4;obtain ⟨k,y⟩:∃ k:Nat,h.n.rw=(k:Int):=⟨h.n.rw.toNat,by omega⟩
  have o:=v.row h0;refine aR.congr (m':=WM.bind (eo n [h.n.rw]) fun _=>WM.bind (cZ ask h.n.rw) fun L=>JN (kG L) (ik n id h.n)) ?_ fun st=>if_neg h0;refine (aR.within (by simp;omega)).bind fun _ a' e=>?_;subst e;rw [y] at o ⊢;refine (aR.read hr (by omega) (by omega)).bind fun L a' e=>?_;obtain ⟨rfl,-,rfl⟩:=e;rw [K2] at o;rw [o];exact (r _).congr fun st=>if_pos rfl
def j9 (V:Nat->List UInt8) (h:Hd):Nat->List UInt8:=if h.n.rw=0 then Ah V h.id (ie h.n) else Ah (Ah V h.id (ie h.n)) h.n.rw.toNat (ja h.row)
theorem aR.save (o:0<h.id) (r:h.id<n) (L:h.n.rw<n) (z:0<=h.n.rw) (v:h.n.ok=U) (y:h.row.all cS=U) (j:h.row.length=240):aR n V0 I (dZ h) a (fun _ a'=>a'={ a with V:=j9 a.V h }) E:=by
 refine aR.congr (m':=WM.bind (bO (h.id:Int) (ie h.n)) fun _=>IY h) ?_ fun st=>if_pos v;refine (aR.write o r (oR _)).bind fun _ a' e=>?_;subst e
 by_cases h0:h.n.rw=0
 .refine aR.congr (m':=WM.pure ()) (aR.pure ?_) fun st=>if_pos h0
  unfold j9;rw [if_pos h0]
 .obtain ⟨k,t⟩:∃ k:Nat,h.n.rw=(k:Int):=⟨h.n.rw.toNat,by omega⟩
  refine aR.congr (m':=bO h.n.rw (ja h.row)) ?_ fun st=>(if_neg h0).trans (if_pos y);unfold j9;rw [if_neg h0];rw [t,K2];exact aR.write (by omega) (by omega) (by rw [iv,j])
theorem nX {V:Nat->List UInt8} {b:Nat} (j:b≠h.id) (o:h.n.rw≠0->b≠h.n.rw.toNat):j9 V h b=V b:=by
 unfold j9
 split
 .exact fg _ _ j
 .rename_i h0;rw [fg _ _ (o h0),fg _ _ j]
theorem tY.saved (S:tY n a own N id) (hn:n<=3840) (hN:N id=Y h) (y:h.Fin) (ht:AZ a.V h):tY n { a with V:=j9 a.V h } own N 0/\∀ p,p<122880->ki (j9 a.V h) h p=ki a.V h p:=by
 obtain ⟨i0,i1,o⟩:=S.lay.ok _ _ hN;have r:=o.id
 have Q:∀ b,¬ FV own id b->j9 a.V h b=a.V b:=by
  intro b j;refine nX ?_ fun h0=>?_
  .rintro rfl;exact j (.inr (.inl ⟨by rw [r];exact S.lay.wQ hN,r⟩))
  .rintro rfl;exact j (.inr (.inr (.inl (S.lay.AI hN h0))))
 have z:∀ b i,own b=CW id i->j9 a.V h b=a.V b:=by
  intro b i j;refine nX ?_ fun h0=>?_
  .rintro rfl;rw [r,S.lay.wQ hN] at j;cases j
  .rintro rfl;rw [S.lay.AI hN h0] at j;cases j
 refine ⟨⟨S.lay,S.bm,fun b h0 j=>?_,fun id' g _ t=>?_⟩,fun p T=>mW S.lay hN z T⟩
 .show (j9 a.V h b).length=480
  unfold j9
  have v:(Ah a.V h.id (ie h.n) b).length=480:=by
   by_cases e:b=h.id
   .subst e;rw [jv];exact oR _
   .rw [fg _ _ e];exact S.len b h0 j
  split
  .exact v
  .by_cases e:b=h.n.rw.toNat
   .subst e;rw [jv,iv,o.fit.2]
   .rw [fg _ _ e];exact v
 .by_cases e:id'=id
  .subst e
   rw [hN] at t;cases t
   refine ⟨y,⟨?_,fun h0=>?_⟩,ht.frame S.lay hN z⟩
   .show jE (j9 a.V h h.id)=_
    have e:j9 a.V h h.id=ie h.n:=by
     unfold j9
     split
     .exact jv _ _ _
     .rename_i h0
      rw [fg _ _ ?_,jv];intro L;have:=S.lay.AI hN h0;rw [<- L,r,S.lay.wQ hN] at this;cases this
    rw [e];exact Gu o.fit.1 (o.ok hn y)
   .show kG (j9 a.V h h.n.rw.toNat)=_
    unfold j9;rw [if_neg h0,jv];exact KW o.fit.2 (o.row hn).1
  .exact S.NU e t Q
end
structure AF where
 kd:Int
 lk:Int
 sz:Nat
 p9:Nat->UInt8
 pr:Nat->Bool
def eG (h:Hd) (i:Nat):Bool:=decide (i<256) && decide (h.bk i≠0)
def jG (V:Nat->List UInt8) (h:Hd):AF:=⟨h.n.kd,h.n.lk,h.n.sz.toNat,fun p=>if p<122880 then ki V h p else 0,eG h⟩
def jo (pr:Nat->Bool):Nat:=(H2 256).countP pr
def xO (pr:Nat->Bool):Bool:=(H2 256).any fun i=>decide (16<=i) && pr i
def cm (pr:Nat->Bool):Nat:=1+jo pr+if xO pr=U then 1 else 0
def Hd.ri (h:Hd):Nat:=1+jo (eG h)+if h.n.rw=0 then 0 else 1
theorem fY {pr:Nat->Bool}:xO pr=U↔∃ i,16<=i/\i<256/\pr i=U:=by
 unfold xO;rw [List.any_eq_true];constructor
 .rintro ⟨i,hi,h⟩
  simp only [J2,decide_eq_true_eq] at h;exact ⟨i,h.1,List.mem_range.1 hi,h.2⟩
 .rintro ⟨i,j,o,r⟩
  exact ⟨i,List.mem_range.2 o,by simp only [J2,decide_eq_true_eq];exact ⟨j,r⟩⟩
theorem ow {p q:Nat->Bool} (h:∀ i,i<256->p i=q i):jo p=jo q:=by
 unfold jo;exact Q3 fun i hi=>by rw [h i (List.mem_range.1 hi)]
theorem rB {p q:Nat->Bool} (h:∀ i,i<256->p i=q i):cm p=cm q:=by
 have e:xO p=xO q:=by
  cases t:xO q with
  | true=>
   obtain ⟨i,o,j,r⟩:=fY.1 t;exact fY.2 ⟨i,o,j,by rw [h i j];exact r⟩
  | false=>
   cases v:xO p with
   | false=>rfl
   | true=>
    obtain ⟨i,o,j,r⟩:=fY.1 v;rw [fY.2 ⟨i,o,j,by rw [<- h i j];exact r⟩] at t;cases t
 unfold cm;rw [ow h,e]
theorem uw (p q:Nat->Bool) (k:Nat) (h:∀ i,i≠k->p i=q i):∀ m,k<m->(H2 m).countP p+(if q k=U then 1 else 0)=(H2 m).countP q+if p k=U then 1 else 0
 | m+1,j=>by
  rw [L3,W2,W2];simp only [P3,List.countP_nil,T3]
  by_cases e:k=m
  .subst e
   have:(H2 k).countP p=(H2 k).countP q:=Q3 fun i hi=>by rw [h i (by have:=List.mem_range.1 hi;omega)]
   omega
  .have:=uw p q k h m (by omega)
   rw [h m (Ne.symm e)];omega
theorem zO {p q:Nat->Bool} {k:Nat} (j:k<256) (h:∀ i,i≠k->p i=q i):jo p+(if q k=U then 1 else 0)=jo q+if p k=U then 1 else 0:=uw p q k h 256 j
theorem oB {p q:Nat->Bool}:∀ m,(∀ i,i<m->p i=U->q i=U)->(H2 m).countP p<=(H2 m).countP q
 | 0,_=>D2 _
 | m+1,h=>by
  rw [L3,W2,W2];simp only [P3,List.countP_nil,T3];have:=oB m fun i hi=>h i (by omega);have j:=h m (by omega)
  split
  .rename_i e;rw [if_pos (j e)];omega
  .split <;> omega
theorem Lu {p q:Nat->Bool} (h:∀ i,i<256->p i=U->q i=U):jo p<=jo q:=oB 256 h
theorem Mn {p q:Nat->Bool} {k:Nat} (t:k<256) (h:∀ i,i<256->p i=U->q i=U) (o:p k=u) (r:q k=U):jo p+1<=jo q:=by
 have e:=zO (p:=fun i=>if i=k then U else p i) (q:=p) t fun i hi=>if_neg hi;rw [if_neg (by rw [o];decide),if_pos (if_pos rfl)] at e
 have:=Lu (p:=fun i=>if i=k then U else p i) (q:=q) fun i hi j=>by
  by_cases e:i=k
  .subst e;exact r
  .rw [if_neg e] at j;exact h i hi j
 omega
section
variable {n id k i:Nat} {own:Nat->Own} {N:Nat->Option Hd} {h h':Hd} {a:Aw} {V V':Nat->List UInt8}
theorem fF:eG h i=U↔i<256/\h.bk i≠0:=by unfold eG;simp
theorem gx (hi:i<256):eG h i=u↔h.bk i=0:=by
 unfold eG;simp [hi]
theorem z7 (o:h.fit) (hi:i<256) (b:Int) (j:Nat):eG (h.put i b) j=if j=i then decide (b≠0) else eG h j:=by
 unfold eG;rw [Hd.oO o hi]
 by_cases e:j=i
 .subst e;rw [if_pos rfl,if_pos rfl];simp [hi]
 .rw [if_neg e,if_neg e]
theorem Hd.Ok.ri (y:h.Ok n id) (v:h.Fin):h.ri=cm (eG h):=by
 unfold Hd.ri cm;congr 1
 by_cases h0:h.n.rw=0
 .rw [if_pos h0,if_neg]
  intro t;obtain ⟨i,o,j,r⟩:=fY.1 t;exact (fF.1 r).2 (y.rz h0 i o j)
 .obtain ⟨i,o,j,r⟩:=v.Qd h0
  rw [if_neg h0,if_pos (fY.2 ⟨i,o,j,fF.2 ⟨j,r⟩⟩)]
def Has (n:Nat) (a:Aw) (A:Nat->Option AF) (k:Nat):Prop:=∃ own N,tY n a own N 0/\ym own n=k/\∀ id,A id=(N id).map (jG a.V)
theorem Has.at {A:Nat->Option AF} {f:AF} (o:∀ id,A id=(N id).map (jG a.V)) (j:A id=Y f):∃ h,N id=Y h/\f=jG a.V h:=by
 rw [o id] at j
 cases hN:N id with
 | none=>rw [hN] at j;cases j
 | some h=>rw [hN] at j;exact ⟨h,rfl,by cases j;rfl⟩
structure AF.Wf (f:AF):Prop where
 kd:f.kd=1\/f.kd=2
 Lv:0<=f.lk
 Pp:f.lk<=65535
 sz:f.sz<=122880
 tail:∀ p,f.sz<=p->f.p9 p=0
 hole:∀ p,f.pr (p/480)=false->f.p9 p=0
 NT:∀ i,f.pr i=true->480*i<f.sz
theorem tY.wf (S:tY n a own N 0) (hN:N id=Y h):(jG a.V h).Wf:=by
 obtain ⟨Q,T,j⟩:=S.lay.ok _ _ hN;obtain ⟨y,L,z⟩:=S.rest id h (by omega) hN;have z0:=j.Lb;have z1:=j.NR;refine ⟨j.kd,j.Lv,j.Pp,show h.n.sz.toNat<=122880 by omega,fun p r=>?_,fun p r=>?_,fun i hi=>?_⟩
 .show (if p<122880 then ki a.V h p else 0)=0
  split
  .rename_i o;exact z p o (by have:h.n.sz.toNat<=p:=r;omega)
  .rfl
 .show (if p<122880 then ki a.V h p else 0)=0
  split
  .rename_i o
   unfold ki;rw [if_pos ((gx (by omega)).1 r)]
  .rfl
 .obtain ⟨o,v⟩:=fF.1 (show eG h i=U from hi)
  show 480*i<h.n.sz.toNat
  by_cases t:cK h.n.sz<=i
  .exact absurd (y.hi i o t) v
  .unfold cK at t;omega
theorem Has.wf {A:Nat->Option AF} {f:AF} (r:Has n a A k) (o:A id=Y f):f.Wf/\0<id/\id<n:=by
 obtain ⟨own,N,S,_,j⟩:=r;obtain ⟨h,hN,rfl⟩:=Has.at j o;exact ⟨S.wf hN,(S.lay.ok _ _ hN).1,(S.lay.ok _ _ hN).2.1⟩
end
section
variable {σ α:Type} {n id k:Nat} {own:Nat->Own} {N:Nat->Option Hd} {h:Hd} {a:Aw} {V0:Nat->List UInt8} {I:σ->Prop} {ask:dD σ} {E:Int->Prop} {A:Nat->Option AF} {f:AF}
theorem aR.node (hr:sy ask n V0 I) (hn:n<=3840) (r:Has n a A k) (o:A id=Y f):aR n V0 I (oF ask n (id:Int)) a (fun x a'=>x.kd=f.kd/\x.lk=f.lk/\x.sz=f.sz/\a'=a) E:=by
 obtain ⟨own,N,S,_,j⟩:=r;obtain ⟨h,hN,rfl⟩:=Has.at j o;have t:=(S.lay.ok _ _ hN).2.2;refine (aR.load hr hn S hN).bind fun x a' e=>?_;obtain ⟨rfl,rfl⟩:=e;have:=t.Lb;exact aR.pure ⟨rfl,rfl,show x.n.sz=(x.n.sz.toNat:Int) by omega,rfl⟩
theorem ug {l d:List UInt8} {o:Nat} (h:o+d.length<=l.length) (j:Nat):(putAt l o d).getD j 0=if o<=j/\j<o+d.length then d.getD (j-o) 0 else l.getD j 0:=by
 unfold putAt;have r:(l.take o++d).length=o+d.length:=by rw [List.length_append,P2];omega
 have t:(l.take o).length=o:=by rw [P2];omega
 simp only [E2]
 by_cases v:j<o
 .rw [if_neg (by omega),U3 (by rw [r];omega),U3 (by rw [t];exact v),B3,if_pos v]
 .by_cases h4:j<o+d.length
  .rw [if_pos ⟨by omega,h4⟩,U3 (by rw [r];omega),X3 (by rw [t];omega),t]
  .rw [if_neg (by omega),X3 (by rw [r];omega),r,D3,show o+d.length+(j-(o+d.length))=j by omega]
theorem aR.rd (hr:sy ask n V0 I) (S:tY n a own N 0) (hN:N id=Y h) (off m:Nat) (hm:off+m<=122880):∀ (f done:Nat) (L:List UInt8),L.length=m->m-done<=f->(∀ j,j<m->L.getD j 0=if j<done then ki a.V h (off+j) else 0) ->
  aR n V0 I (AT ask h off f done L) a (fun x a'=>x.length=m/\(∀ j,j<m->x.getD j 0=ki a.V h (off+j))/\a'=a) E:=by
 intro f
 induction f with
 | zero=>intro done L t hf v;exact aR.pure ⟨t,fun j o=>by rw [v j o,if_pos (by omega)],rfl⟩
 | succ f ih=>
  intro done L t hf v;obtain ⟨i0,i1,ho⟩:=S.lay.ok _ _ hN
  by_cases hd:done<m
  .obtain ⟨l,y⟩:∃ l,gY (L.length-done) (off+done)=l:=⟨_,rfl⟩
   have c0:l=min (m-done) (480-(off+done)%480):=by rw [<- y,t];rfl
   have b0:∀ j,done<=j->j<done+l->(off+j)/480=(off+done)/480/\(off+j)%480=(off+done)%480+(j-done):=fun j o r=>by omega
   by_cases h0:h.bk ((off+done)/480)=0
   .refine aR.congr (m':=AT ask h off f (done+l) L) ?_ fun st=>by rw [<- y];exact Nz (by omega) h0 st
    refine ih (done+l) L t (by omega) fun j o=>?_;rw [v j o]
    by_cases r:j<done
    .rw [if_pos r,if_pos (by omega)]
    .rw [if_neg r]
     split
     .unfold ki;rw [(b0 j (by omega) (by omega)).1,if_pos h0]
     .rfl
   .have hp:=ho.pg ((off+done)/480) (by omega)
    obtain ⟨b,hb⟩:∃ b:Nat,h.bk ((off+done)/480)=(b:Int):=⟨(h.bk ((off+done)/480)).toNat,by omega⟩
    refine aR.congr (m':=WM.bind (cZ ask (b:Int)) fun Q=>AT ask h off f (done+l) (putAt L done ((Q.drop ((off+done)%480)).take l))) ?_ fun st=>by
     refine (if_pos (by omega)).trans ((if_neg h0).trans ?_);rw [y,hb]
    refine (aR.read hr (by omega) (by omega)).bind fun Q a' e=>?_;obtain ⟨rfl,hX,e3⟩:=e;rw [e3];have z:(((a.V b).drop ((off+done)%480)).take l).length=l:=by rw [P2,K3,hX];omega
    refine ih (done+l) _ (by rw [gQ (by rw [z];omega)];exact t) (by omega) fun j o=>?_;rw [ug (by rw [z];omega),z]
    by_cases r:done<=j/\j<done+l
    .rw [if_pos r,if_pos (by omega)]
     obtain ⟨e1,e2⟩:=b0 j r.1 r.2;unfold ki;rw [e1,if_neg h0,hb,e2,K2];simp only [E2];rw [B3,if_pos (by omega),D3]
    .rw [if_neg r,v j o]
     by_cases T:j<done
     .rw [if_pos T,if_pos (by omega)]
     .rw [if_neg T,if_neg (by omega)]
  .refine aR.congr (m':=WM.pure L) (aR.pure ⟨t,fun j o=>by rw [v j o,if_pos (by omega)],rfl⟩) fun st=>if_neg (by omega)
def AF.sub (f:AF) (off o:Nat):List UInt8:=(H2 (min o (f.sz-off))).map fun j=>f.p9 (off+j)
theorem aR.Ot (hr:sy ask n V0 I) (hn:n<=3840) (hh:Has n a A k) (hf:A id=Y f) (off o:Nat):aR n V0 I (iS ask n (id:Int) (off:Int) (o:Int)) a (fun x a'=>x=f.sub off o/\a'=a) E:=by
 obtain ⟨own,N,S,_,T⟩:=hh;obtain ⟨h,hN,rfl⟩:=Has.at T hf;obtain ⟨i0,i1,y⟩:=S.lay.ok _ _ hN;have z0:=y.Lb;have z1:=y.NR;refine (aR.load hr hn S hN).bind fun x a' e=>?_;obtain ⟨rfl,rfl⟩:=e;have z:(jG a'.V x).sz=x.n.sz.toNat:=rfl
 by_cases t:x.n.sz<=(off:Int)
 .refine aR.congr (m':=WM.pure []) (aR.pure ⟨?_,rfl⟩) fun st=>(if_pos ⟨by omega,by omega⟩).trans (if_pos t)
  unfold AF.sub;rw [z,show min o (x.n.sz.toNat-off)=0 by omega];rfl
 .obtain ⟨m,hm⟩:∃ m,(min (o:Int) (x.n.sz-(off:Int))).toNat=m:=⟨_,rfl⟩
  refine aR.congr (m':=AT ask x off m 0 (zs m)) ?_ fun st=>by
   refine (if_pos ⟨by omega,by omega⟩).trans ((if_neg t).trans ?_);rw [hm,K2]
  refine (aR.rd hr S hN off m (by omega) m 0 (zs m) (aV m) (by omega) fun j hj=>?_).mono (fun d0 c0 e=>?_) fun _ h=>h
  .rw [if_neg (by omega)]
   show (L2 m 0).getD j 0=0
   simp only [E2,Z2];split <;> rfl
  .obtain ⟨r,L,Q⟩:=e
   refine ⟨?_,Q⟩;have b0:min o ((jG a'.V x).sz-off)=m:=by rw [z];omega
   unfold AF.sub;rw [b0];apply List.ext_getElem
   .simp [r]
   .intro j v h3
    rw [r] at v;have:=L j v;rw [E2,Y2 (by omega)] at this;simp only [Option.getD_some] at this;rw [this,List.getElem_map,List.getElem_range];show _=if off+j<122880 then ki a'.V x (off+j) else 0
    rw [if_pos (by omega)]
end
structure cy (n:Nat) (a0:Aw) (N0:Nat->Option Hd) (id:Nat) (K:Nat) (a:Aw) (own:Nat->Own) (N:Nat->Option Hd) (h:Hd):Prop where
 sp:tY n a own N id
 hN:N id=some h
 Rc:∀ id',id'≠id->N id'=N0 id'
 BV:∀ id' g,id'≠id->N0 id'=some g->∀ p,p<122880->ki a.V g p=ki a0.V g p
 cons:ym own n+h.ri=K
section
variable {n id k i K:Nat} {own:Nat->Own} {N N0:Nat->Option Hd} {h h':Hd} {a a0:Aw} {V V':Nat->List UInt8}
theorem cy.start (S:tY n a own N 0) (hN:N id=Y h):cy n a N id (ym own n+h.ri) a own N h:=
 ⟨S.fp id,hN,fun _ _=>rfl,fun _ _ _ _ _ _=>rfl,rfl⟩
theorem cy.ok (T:cy n a0 N0 id K a own N h):h.Ok n id:=(T.sp.lay.ok _ _ T.hN).2.2
theorem cy.write (T:cy n a0 N0 id K a own N h) (r:FV own id k) {l:List UInt8} (y:l.length=480):cy n a0 N0 id K { a with V:=Ah a.V k l } own N h:=
 ⟨T.sp.write r y,T.hN,T.Rc,fun id' g j o p t=>by
  have v:N id'=Y g:=(T.Rc id' j).trans o;rw [<- T.BV id' g j o p t];exact vI T.sp.lay j v (fun b z=>fg _ _ (by rintro rfl;exact z r)) t,T.cons⟩
theorem cy.step (T:cy n a0 N0 id K a own N h) {o:Nat->Own} {r:List UInt8} (t:jS n o (eU N id (Y h'))) (v:Bm n o r) (y:ym o n+h'.ri=K):cy n a0 N0 id K { a with B:=r } o (eU N id (Y h')) h':=
 ⟨T.sp.step t v fun id' j=>aS _ _ j,bJ _ _ _,fun id' j=>(aS _ _ j).trans (T.Rc id' j),T.BV,y⟩
theorem Ig (o:h.fit) (hi:i<256) {b:Int} (h0:h.bk i=0) (r:b≠0):(h.put i b).ri=h.ri+1:=by
 unfold Hd.ri;rw [Hd.qM];have:=zO (p:=eG (h.put i b)) (q:=eG h) hi fun j t=>by rw [z7 o hi,if_neg t]
 rw [z7 o hi,if_pos rfl,(gx hi).2 h0] at this;simp only [r,ne_eq,not_false_eq_true,decide_true,if_true,Bool.false_eq_true,if_false] at this;omega
theorem Ie (h0:h.n.rw=0) {b:Int} (j:b≠0):(h.iR b).ri=h.ri+1:=by
 unfold Hd.ri;have e:eG (h.iR b)=eG h:=rfl;rw [e,if_pos h0,if_neg (show (h.iR b).n.rw≠0 from j)]
theorem cy.Kx (T:cy n a0 N0 id K a own N h) (hn:n<=3840) (j:own k=qK) (o:k<n) (hi:i<256) (h0:h.bk i=0) (hr:16<=i->h.n.rw≠0) :
  cy n a0 N0 id K { a with B:=ea a.B k U } (eU own k (CW id i)) (eU N id (Y (h.put i (k:Int)))) (h.put i (k:Int)):=by
 have r:=T.sp.lay.iV j;refine T.step (T.sp.lay.bk T.hN j o hi h0 hr) (T.sp.bm.set hn o _ _ (by simp)) ?_;have:=sx (own:=own) (x:=CW id i) o;rw [if_pos j,if_neg (by simp)] at this;rw [Ig T.ok.fit hi h0 (by omega)];have:=T.cons;omega
theorem cy.LA (T:cy n a0 N0 id K a own N h) (hn:n<=3840) (j:own k=qK) (o:k<n) (h0:h.n.rw=0) :
  cy n a0 N0 id K { a with B:=ea a.B k U } (eU own k (Ge id)) (eU N id (Y (h.iR (k:Int)))) (h.iR (k:Int)):=by
 have r:=T.sp.lay.iV j;refine T.step (T.sp.lay.row T.hN j o h0) (T.sp.bm.set hn o _ _ (by simp)) ?_;have:=sx (own:=own) (x:=Ge id) o;rw [if_pos j,if_neg (by simp)] at this;rw [Ie h0 (by omega)];have:=T.cons;omega
theorem cy.set (T:cy n a0 N0 id K a own N h) (o:h'.Ok n id) (hr:h'.n.rw=h.n.rw) (j:∀ i,i<256->h'.bk i=h.bk i):cy n a0 N0 id K a own (eU N id (Y h')) h':=by
 refine T.step (T.sp.lay.set T.hN o hr j) T.sp.bm ?_
 have:h'.ri=h.ri:=by
  unfold Hd.ri;rw [hr,ow (p:=eG h') (q:=eG h) fun i hi=>by unfold eG;rw [j i hi]]
 rw [this];exact T.cons
theorem cy.done (T:cy n a0 N0 id K a own N h) (hn:n<=3840) (r:h.Fin) (ht:AZ a.V h) {A:Nat->Option AF} (hA:∀ id,A id=(N0 id).map (jG a0.V)) (f:AF) (Q:h.n.kd=f.kd) (h2:h.n.lk=f.lk) (h3:h.n.sz=f.sz)
  (h4:∀ p,p<122880->ki a.V h p=f.p9 p) (b0:∀ p,122880<=p->f.p9 p=0) (o:∀ i,i<256->eG h i=f.pr i) (c0:∀ i,256<=i->f.pr i=u):Has n { a with V:=j9 a.V h } (eU A id (Y f)) (K-cm f.pr):=by
 obtain ⟨S,hb⟩:=T.sp.saved hn T.hN r ht;have d0:=T.ok.ri r;rw [rB o] at d0;refine ⟨own,N,S,by have:=T.cons;omega,fun id'=>?_⟩
 by_cases e:id'=id
 .subst e
  rw [bJ,T.hN];show Y f=Y (jG (j9 a.V h) h)
  congr 1;obtain ⟨kd,lk,sz,p9,pr⟩:=f;dsimp only at *;unfold jG;have y:sz=h.n.sz.toNat:=by omega
  have z:p9=fun p=>if p<122880 then ki (j9 a.V h) h p else 0:=by
   funext p
   split
   .rename_i j;rw [hb p j];exact (h4 p j).symm
   .rename_i j;exact b0 p (by omega)
  have L:pr=eG h:=by
   funext i
   by_cases hi:i<256
   .exact (o i hi).symm
   .rw [c0 i (by omega)];unfold eG;simp [hi]
  rw [Q,h2,<- y,<- z,<- L]
 .rw [aS _ _ e,hA id',<- T.Rc id' e]
  cases t:N id' with
  | none=>rfl
  | some g=>
   show Y (jG a0.V g)=Y (jG (j9 a.V h) g)
   congr 1;have h0:N0 id'=Y g:=(T.Rc id' e).symm.trans t;unfold jG;congr 1;funext p
   split
   .rename_i j
    rw [<- T.BV id' g e h0 p j];refine (vI T.sp.lay e t (fun b v=>nX ?_ fun h0=>?_) j).symm
    .rintro rfl;exact v (.inr (.inl ⟨by rw [T.ok.id];exact T.sp.lay.wQ T.hN,T.ok.id⟩))
    .rintro rfl;exact v (.inr (.inr (.inl (T.sp.lay.AI T.hN h0))))
   .rfl
end
section
variable {σ α:Type} {n id k K:Nat} {own:Nat->Own} {N N0:Nat->Option Hd} {h:Hd} {a a0:Aw} {V0:Nat->List UInt8} {I:σ->Prop} {ask:dD σ} {E:Int->Prop} {A:Nat->Option AF} {f:AF}
theorem aR.pI (T:cy n a0 N0 id K a own N h) (hn:n<=3840) (o:h.Fin):aR n V0 I (dZ h) a (fun _ a'=>a'={ a with V:=j9 a.V h }) E:=by
 have j:=T.ok;exact aR.save (by rw [j.id];exact (T.sp.lay.ok _ _ T.hN).1) (by rw [j.id];exact (T.sp.lay.ok _ _ T.hN).2.1) j.N4 j.Ls (j.ok hn o) (j.row hn).1 j.fit.2
def iM (kd:Int):AF:=⟨kd,1,0,fun _=>0,fun _=>u⟩
theorem fB (id:Nat) (kd:Int) (i:Nat):(cY id kd).bk i=0:=by
 unfold cY Hd.bk
 split
 .show (L2 16 (0:Int)).getD i 0=0
  simp only [E2,Z2];split <;> rfl
 .show (L2 240 (0:Int)).getD (i-16) 0=0
  simp only [E2,Z2];split <;> rfl
theorem Gt {kd:Int} (j:kd=1\/kd=2) (h0:0<n):(cY id kd).Ok n id:=
 ⟨⟨rfl,rfl⟩,rfl,j,(by decide:(0:Int)<=1),(by decide:(1:Int)<=65535),(by decide:(0:Int)<=0),(by decide:(0:Int)<=122880),(by decide:(0:Int)<=0),show (0:Int)<n by omega,fun i _=>by rw [fB];exact ⟨by omega,by omega⟩,fun _ i _ _=>fB _ _ _⟩
theorem ng (id:Nat) (kd:Int):(cY id kd).Fin:=⟨fun i _ _=>fB _ _ _,fun h=>absurd rfl h⟩
theorem ni (V:Nat->List UInt8) (id:Nat) (kd:Int) (p:Nat):ki V (cY id kd) p=0:=by unfold ki;rw [if_pos (fB _ _ _)]
theorem wF (id:Nat) (kd:Int):(cY id kd).ri=1:=by
 unfold Hd.ri
 have e:jo (eG (cY id kd))=0:=by
  unfold jo;rw [S3];intro i _ h;exact (fF.1 h).2 (fB _ _ _)
 rw [e,if_pos (show (cY id kd).n.rw=0 from rfl)]
theorem uG:cm (fun _=>u)=1:=by
 unfold cm;have e:jo (fun _=>u)=0:=by unfold jo;rw [S3];intro i _ h;cases h
 rw [e,if_neg];intro o;obtain ⟨i,_,_,j⟩:=fY.1 o;cases j
theorem cy.made (S:tY n a own N 0) (hn:n<=3840) (j:own k=qK) (o:k<n) {kd:Int} (t:kd=1\/kd=2) :
  cy n a N k (ym own n) { a with B:=ea a.B k U } (eU own k Ns) (eU N k (Y (cY k kd))) (cY k kd):=by
 have v:=S.lay.iV j;refine ⟨(S.fp k).step (S.lay.new j o (Gt t (by omega)) (fun i _=>fB _ _ _) rfl) (S.bm.set hn o _ _ (by simp)) fun id' r=>aS _ _ r,bJ _ _ _,fun id' r=>aS _ _ r,fun _ _ _ _ _ _=>rfl,?_⟩;have:=sx (own:=own) (x:=Ns) o;rw [if_pos j,if_neg (by simp)] at this;rw [wF];omega
theorem aR.new (hr:sy ask n V0 I) (h0:0<n) (hn:n<=3840) (hh:Has n a A k) {kd:Int} (t:kd=1\/kd=2) :
  aR n V0 I (ve ask n kd) a (fun x a'=>A x=O/\0<x/\x<n/\0<k/\Has n a' (eU A x (Y (iM kd))) (k-1)) (fun c=>c=7/\k=0):=by
 obtain ⟨own,N,S,r,o⟩:=hh;refine aR.congr (m':=WM.bind (ic ask n) (CR kd)) ?_ fun st=>if_pos t;refine (aR.take hr h0 fun Q=>⟨rfl,by rw [<- r,S.bm.gE Q]⟩).bind fun x a' e=>?_;obtain ⟨y,rfl⟩:=e;obtain ⟨v,j⟩:=S.bm.qh y;have c0:=S.lay.iV j;have T:=cy.made S hn j v t
 have b0:0<k:=by
  have L:=T.cons;rw [wF] at L;omega
 refine (aR.pI T hn (ng _ _)).bind fun _ a' e=>?_;subst e;refine aR.pure ⟨by rw [o,S.lay.gE j];rfl,by omega,v,b0,?_⟩;have:=T.done hn (ng _ _) (fun p _ _=>ni _ _ _ _) o (iM kd) rfl rfl rfl (fun p _=>ni _ _ _ _) (fun _ _=>rfl) (fun i hi=>(gx hi).2 (fB _ _ _)) fun _ _=>rfl;have z:cm (iM kd).pr=1:=uG;rw [z,r] at this;exact this
theorem aR.Q8 (hr:sy ask n V0 I) (hn:n<=3840) (hh:Has n a A k) (hf:A id=Y f) (d:Int) :
  aR n V0 I (j8 ask n (id:Int) d) a (fun _ a'=>(0<=wrap64 (f.lk+d)/\wrap64 (f.lk+d)<=65535)/\Has n a' (eU A id (Y { f with lk:=wrap64 (f.lk+d) })) k) (fun c=>c=1/\¬ (0<=wrap64 (f.lk+d)/\wrap64 (f.lk+d)<=65535)):=by
 obtain ⟨own,N,S,hk,v⟩:=hh;obtain ⟨h,hN,rfl⟩:=Has.at v hf;obtain ⟨i0,i1,j⟩:=S.lay.ok _ _ hN;obtain ⟨r,hs,ht⟩:=S.rest id h (by omega) hN;refine (aR.load hr hn S hN).bind fun x a' e=>?_;obtain ⟨rfl,rfl⟩:=e;show aR n V0 I (sd x (wrap64 (x.n.lk+d))) a' (fun _ t=>(0<=wrap64 (x.n.lk+d)/\wrap64 (x.n.lk+d)<=65535)/\Has n t (eU A id (Y { jG a'.V x with lk:=wrap64 (x.n.lk+d) })) k) (fun c=>c=1/\¬ (0<=wrap64 (x.n.lk+d)/\wrap64 (x.n.lk+d)<=65535))
 generalize wrap64 (x.n.lk+d)=z
 by_cases o:0<=z/\z<=65535
 .refine aR.congr (m':=dZ (x.nQ z)) ?_ fun st=>if_pos o
  have b0:(x.nQ z).Ok n id:=⟨j.fit,j.id,j.kd,o.1,o.2,j.Lb,j.NR,j.Ls,j.N4,j.pg,j.rz⟩
  have T:=(cy.start S hN).set b0 rfl fun _ _=>rfl;have y:(x.nQ z).Fin:=⟨r.hi,r.Qd⟩
  refine (aR.pI T hn y).mono (fun _ t e=>?_) fun _ h=>h;subst e;refine ⟨o,?_⟩;have z0:=j.Lb
  have:=T.done hn y (fun p Q h2=>ht p Q h2) v { jG a'.V x with lk:=z } rfl rfl (show x.n.sz=(x.n.sz.toNat:Int) by omega) (fun p L=>by show ki a'.V x p=if p<122880 then ki a'.V x p else 0;rw [if_pos L])
   (fun p L=>if_neg (by omega)) (fun i _=>rfl) (fun i hi=>by show eG x i=u;unfold eG;simp;omega)
  have e:cm ({ jG a'.V x with lk:=z }:AF).pr=x.ri:=(j.ri r).symm;rw [e,Nat.add_sub_cancel,hk] at this;exact this
 .exact (aR.bad ⟨rfl,o⟩).congr fun st=>if_neg o
theorem aR.format (hr:sy ask n V0 I) (h0:4<=n) (hn:n<=3840) (d0:∀ b,0<b->b<n->(a.V b).length=480) :
  aR n V0 I (iC ask) a (fun _ a'=>Has n a' (fun id=>if id=1 then Y (iM 2) else O) (n-2)) E:=by
 have hz:∀ b,ei (zs 480) b=u:=by
  intro b;unfold ei
  have e:(zs 480).getD (b/8) 0=0:=by
   show (L2 480 (0:UInt8)).getD (b/8) 0=0
   simp only [E2,Z2];split <;> rfl
  rw [e];show decide ((0:UInt8).toNat/2 ^ (b%8)%2=1)=u
  have:(0:UInt8).toNat=0:=rfl;rw [this,Nat.zero_div];decide
 obtain ⟨j,o⟩:∃ e0:Nat->Own,e0=fun b=>if b=0 then IF else qK:=⟨_,rfl⟩
 have y:jS n j (fun _=>O):=by
  subst o;refine ⟨fun b=>?_,fun b hb=>if_neg (by omega),fun id h r=>(by cases r),fun b=>?_,fun b id=>?_,fun b id i=>?_⟩
  .show (if b=0 then IF else qK)=IF↔b=0
   split
   .rename_i e;exact ⟨fun _=>e,fun _=>rfl⟩
   .rename_i e;exact ⟨fun h=>(by cases h),fun h=>absurd h e⟩
  .show (if b=0 then IF else qK)=Ns↔_
   split <;> simp
  .show (if b=0 then IF else qK)=Ge id↔_
   unfold fV
   split <;> simp
  .show (if b=0 then IF else qK)=CW id i↔_
   unfold fU
   split <;> simp
 have v:Bm n j (ea (zs 480) 0 U):=by
  subst o;refine ⟨by rw [eN];exact aV 480,fun b hb=>?_⟩;rw [vE (by rw [aV];omega),hz]
  by_cases e:b=0
  .subst e;simp
  .rw [if_neg e,if_neg e];simp
 have b0:ym j n=n-1:=by
  subst o
  have:∀ m,0<m->ym (fun b=>if b=0 then IF else qK) m=m-1:=by
   intro m
   induction m with
   | zero=>intro h;omega
   | succ m ih=>
    intro _;rw [tI]
    by_cases e:m=0
    .subst e;rfl
    .rw [ih (by omega),if_neg e,if_pos rfl];omega
  exact this n (by omega)
 have z:tY n ⟨a.V,ea (zs 480) 0 U⟩ j (fun _=>O) 0:=⟨y,v,d0,fun id' h _ r=>(by cases r)⟩
 have c0:j 1=qK:=by subst o;rfl
 have T:=cy.made z hn c0 (by omega) (.inr rfl)
 have hD:aR n V0 I (WM.bind (fz ask 1 U) fun _=>dZ (cY 1 2)) ⟨a.V,ea (zs 480) 0 U⟩ (fun _ a'=>Has n a' (fun id=>if id=1 then Y (iM 2) else O) (n-2)) E:=by
  refine (aR.mark hr (by omega)).bind fun _ a' e=>?_;subst e;refine (aR.pI T hn (ng _ _)).mono (fun _ a' e=>?_) fun _ h=>h;subst e;have:=T.done hn (ng _ _) (fun p _ _=>ni _ _ _ _) (A:=fun _=>O) (fun _=>rfl) (iM 2) rfl rfl rfl (fun p _=>ni _ _ _ _) (fun _ _=>rfl) (fun i hi=>(gx hi).2 (fB _ _ _)) fun _ _=>rfl;have L:cm (iM 2).pr=1:=uG;rw [L,b0] at this;exact this
 intro st t;have Q:fz ask 0 U { st with bits:=Y (zs 480) }=(.ok (),{ st with bits:=Y (ea (zs 480) 0 U),dt:=U }):=rfl;have e:iC ask st=(WM.bind (fz ask 1 U) fun _=>dZ (cY 1 2)) { st with bits:=Y (ea (zs 480) 0 U),dt:=U }:=WM.bd Q;rw [e];exact hD _ ⟨t.fW,t.view,.inl rfl,fun h=>by simp at h,by rw [eN];exact aV 480⟩
end
def cI (off m i:Nat):Bool:=decide (0<m) && (decide (480*i<off+m) && decide (off<480*i+480))
theorem cH {off m i:Nat}:cI off m i=U↔0<m/\480*i<off+m/\off<480*i+480:=by
 unfold cI;simp only [J2,decide_eq_true_eq]
def AF.wr (f:AF) (off:Nat) (d:List UInt8):AF:=
 { f with sz:=if d.length=0 then f.sz else max f.sz (off+d.length),p9:=fun p=>if off<=p/\p<off+d.length then d.getD (p-off) 0 else f.p9 p,pr:=fun i=>f.pr i || cI off d.length i }
def Ai (h h':Hd):Prop:=h.n.kd=h'.n.kd/\h.n.lk=h'.n.lk/\h.n.sz=h'.n.sz
section
variable {n id k q K:Nat} {own:Nat->Own} {N N0:Nat->Option Hd} {h h' h0:Hd} {a a0:Aw}
theorem Ep (h:Hd) (i:Nat) (b:Int):Ai (h.put i b) h:=by unfold Hd.put Ai;split <;> exact ⟨rfl,rfl,rfl⟩
theorem Kb {V:Nat->List UInt8} {p:Nat} (e:h.bk (p/480)=h'.bk (p/480)):ki V h p=ki V h' p:=by unfold ki;rw [e]
theorem cy.FX (T:cy n a0 N0 id K a own N h) (v:q<256) {b:Nat} (o:h.bk q=(b:Int)) (y:0<b) {l:List UInt8} (t:l.length=480) :
  cy n a0 N0 id K { a with V:=Ah a.V b l } own N h/\∀ p,p<122880->ki (Ah a.V b l) h p=if p/480=q then l.getD (p%480) 0 else ki a.V h p:=by
 have j:=T.sp.lay.KC T.hN v (show h.bk q≠0 by omega);rw [o,K2] at j;refine ⟨T.write (.inr (.inr (.inr ⟨q,j⟩))) t,fun p z=>?_⟩
 by_cases e:p/480=q
 .rw [if_pos e]
  unfold ki;rw [e,if_neg (by omega),o,K2,jv]
 .rw [if_neg e]
  unfold ki
  split
  .rfl
  .rename_i h0
   rw [fg];intro r;have:=T.sp.lay.KC T.hN (show p/480<256 by omega) h0;rw [r,j] at this;simp only [Prod.mk.injEq] at this;exact e this.2.2.symm
end
section
variable {σ α:Type} {n id k q K:Nat} {own:Nat->Own} {N N0:Nat->Option Hd} {h h0:Hd} {a a0:Aw} {V0:Nat->List UInt8} {I:σ->Prop} {ask:dD σ} {E:Int->Prop} {A:Nat->Option AF} {f:AF}
def Di (n:Nat) (a0:Aw) (N0:Nat->Option Hd) (id K:Nat) (a:Aw) (h:Hd) (q:Nat) (j:Bool) (p:Hd × Int × List UInt8) (a':Aw):Prop:=
 ∃ own N,cy n a0 N0 id K a' own N p.1/\a'.V=a.V/\(∃ b:Nat,p.2.1=(b:Int)/\p.1.bk q=(b:Int)/\0<b)/\(∀ i,i≠q->p.1.bk i=h.bk i)/\Ai p.1 h/\(p.1.n.rw≠0->h.n.rw≠0\/16<=q) /\
  p.2.2.length=480/\(j=u->∀ r,r<480->p.2.2.getD r 0=ki a.V h (480*q+r))
def Dl (K:Nat) (h:Hd) (q:Nat) (c:Int):Prop:=c=7/\∃ j:Hd,j.ri=K/\(∀ i,j.bk i=h.bk i)/\h.bk q=0/\(j.n.rw≠0->h.n.rw≠0\/16<=q)
theorem LR (m r:Nat):(zs m).getD r 0=0:=by
 show (L2 m (0:UInt8)).getD r 0=0
 simp only [E2,Z2];split <;> rfl
theorem aR.NG (hr:sy ask n V0 I) (hn:n<=3840) (T:cy n a0 N0 id K a own N h) (v:q<256) (t:h.bk q=0) (c0:16<=q->h.n.rw≠0) {h1:Hd} {V1:Nat->List UInt8} (hV:a.V=V1) (j:∀ i,h.bk i=h1.bk i) (o:Ai h h1) (y:h.n.rw≠0->h1.n.rw≠0\/16<=q) (wh:Bool) :
  aR n V0 I (nU ask n h q) a (fun p a'=>Di n a0 N0 id K ⟨V1,[]⟩ h1 q wh p a') (Dl K h1 q):=by
 have h0:0<n:=by have:=(T.sp.lay.ok _ _ T.hN);omega
 have Q:eK a.B n=O->Dl K h1 q 7:=fun hf=>⟨rfl,h,by have:=T.cons;have:=T.sp.bm.gE hf;omega,j,by rw [<- j];exact t,y⟩
 refine (aR.take hr h0 Q).bind fun b a' e=>?_
 .obtain ⟨hb,rfl⟩:=e
  obtain ⟨b0,z⟩:=T.sp.bm.qh hb;have d0:=T.sp.lay.iV z;have L:=T.Kx hn z b0 v t c0;refine aR.pure ⟨_,_,L,hV,⟨b,rfl,?_,by omega⟩,fun i hi=>?_,?_,?_,aV 480,fun _ r e0=>?_⟩
  .show (h.put q (b:Int)).bk q=b
   rw [Hd.oO T.ok.fit v,if_pos rfl]
  .show (h.put q (b:Int)).bk i=_
   rw [Hd.oO T.ok.fit v,if_neg hi];exact j i
  .obtain ⟨s1,s2,s3⟩:=Ep h q (b:Int)
   exact ⟨s1.trans o.1,s2.trans o.2.1,s3.trans o.2.2⟩
  .show (h.put q (b:Int)).n.rw≠0->_
   rw [Hd.qM];exact y
  .show (zs 480).getD r 0=_
   rw [LR];unfold ki;rw [show (480*q+r)/480=q by omega,if_pos (by rw [<- j];exact t)]
theorem aR.open (hr:sy ask n V0 I) (hn:n<=3840) (T:cy n a0 N0 id K a own N h) (z:q<256) (v:Bool) :
  aR n V0 I (lI ask n h q v) a (Di n a0 N0 id K a h q v) (Dl K h q):=by
 have h0:0<n:=by have:=(T.sp.lay.ok _ _ T.hN);omega
 have Q:∀ p a',Di n a0 N0 id K ⟨a.V,[]⟩ h q v p a'->Di n a0 N0 id K a h q v p a':=fun p a' h=>h
 by_cases t:h.bk q=0
 .by_cases y:16<=q/\h.n.rw=0
  .refine aR.congr (m':=WM.bind (ic ask n) fun r=>nU ask n (h.iR (r:Int)) q) ?_ fun st=>(if_pos t).trans (if_pos y)
   have hE:eK a.B n=O->Dl K h q 7:=fun hf=>⟨rfl,h,by have:=T.cons;have:=T.sp.bm.gE hf;omega,fun _=>rfl,t,fun j=>absurd y.2 j⟩
   refine (aR.take hr h0 hE).bind fun b a' e=>?_
   .obtain ⟨o,rfl⟩:=e
    obtain ⟨d0,b0⟩:=T.sp.bm.qh o;have e0:=T.sp.lay.iV b0;have T':=T.LA hn b0 d0 y.2;exact (aR.NG hr hn T' z t (fun _=>show (b:Int)≠0 by omega) (h1:=h) (V1:=a.V) rfl (fun _=>rfl) ⟨rfl,rfl,rfl⟩ (fun _=>.inr y.1) v).mono Q fun _ h=>h
  .refine aR.congr (m':=nU ask n h q) ?_ fun st=>(if_pos t).trans (if_neg y)
   exact (aR.NG hr hn T z t (fun j c0=>y ⟨j,c0⟩) (h1:=h) (V1:=a.V) rfl (fun _=>rfl) ⟨rfl,rfl,rfl⟩ (fun j=>.inl j) v).mono Q fun _ h=>h
 .have f0:=T.ok.pg q z
  obtain ⟨b,o⟩:∃ b:Nat,h.bk q=(b:Int):=⟨(h.bk q).toNat,by omega⟩
  cases v with
  | true=>
   refine aR.congr (m':=WM.pure (h,h.bk q,zs 480)) (aR.pure ?_) fun st=>(if_neg t).trans (if_pos rfl);exact ⟨own,N,T,rfl,⟨b,o,o,by omega⟩,fun _ _=>rfl,⟨rfl,rfl,rfl⟩,fun j=>.inl j,aV 480,fun j=>by cases j⟩
  | false=>
   refine aR.congr (m':=WM.bind (cZ ask (b:Int)) fun L=>WM.pure (h,h.bk q,L)) ?_ fun st=>by
    refine ((if_neg t).trans (if_neg (by decide))).trans ?_;rw [o]
   refine (aR.read hr (by omega) (by omega)).bind fun L a' e=>?_;obtain ⟨rfl,hL,e3⟩:=e;rw [e3];refine aR.pure ⟨own,N,T,rfl,⟨b,o,o,by omega⟩,fun _ _=>rfl,⟨rfl,rfl,rfl⟩,fun j=>.inl j,hL,fun _ r g0=>?_⟩;unfold ki;rw [show (480*q+r)/480=q by omega,if_neg t,o,show (480*q+r)%480=r by omega,K2]
structure RP (n:Nat) (a0:Aw) (N0:Nat->Option Hd) (id K:Nat) (h0:Hd) (off:Nat) (d:List UInt8) (done:Nat) (a:Aw) (h:Hd):Prop where
 st:∃ own N,cy n a0 N0 id K a own N h
 same:Ai h h0
 BV:∀ p,p<122880->ki a.V h p=if off<=p/\p<off+done then d.getD (p-off) 0 else ki a0.V h0 p
 NT:∀ i,i<256->eG h i=(eG h0 i || cI off done i)
 rw:h.n.rw≠0->h0.n.rw≠0\/∃ i,16<=i/\i<256/\cI off done i=true
theorem aR.wr (hr:sy ask n V0 I) (hn:n<=3840) (o0:h0.Fin) (off:Nat) (d:List UInt8) (hm:off+d.length<=122880):∀ (f done:Nat) (a:Aw) (h:Hd),done<=d.length->d.length-done<=f->RP n a0 N0 id K h0 off d done a h->(done<d.length->done=0\/(off+done)%480=0) ->
  aR n V0 I (wg ask n off d f done h) a (fun h' a'=>RP n a0 N0 id K h0 off d d.length a' h') (fun c=>c=7/\K<cm fun i=>eG h0 i || cI off d.length i):=by
 intro f
 induction f with
 | zero=>
  intro done a h hd hf T _;obtain rfl:done=d.length:=by omega
  exact aR.pure T
 | succ f ih=>
  intro done a h hd hf T u0
  by_cases g0:done<d.length
  .obtain ⟨k,hk⟩:∃ k,gY (d.length-done) (off+done)=k:=⟨_,rfl⟩
   have p0:k=min (d.length-done) (480-(off+done)%480):=by rw [<- hk];rfl
   obtain ⟨q,hq⟩:∃ q,(off+done)/480=q:=⟨_,rfl⟩
   obtain ⟨r,l0⟩:∃ r,(off+done)%480=r:=⟨_,rfl⟩
   have D0:off+done=480*q+r:=by omega
   have F0:r<480:=by omega
   have v:q<256:=by omega
   rw [l0] at p0
   refine aR.congr (m':=WM.bind (lI ask n h q (k == 480)) (xW (wg ask n off d f) done off k d)) ?_ fun st=>by
    rw [<- hq,<- hk];exact if_pos g0
   obtain ⟨own,N,T0⟩:=T.st;have m0:cI off d.length q=U:=cH.2 ⟨by omega,by omega,by omega⟩
   have i0:∀ i,cI off done i=U->cI off d.length i=U:=fun i hi=>by
    obtain ⟨L,o,t⟩:=cH.1 hi;exact cH.2 ⟨by omega,by omega,t⟩
   refine ((aR.open hr hn T0 v (k == 480)).mono (fun _ _ h=>h) fun c hE=>?_).bind fun p a' hP=>?_
   .obtain ⟨rfl,hx,x1,x2,x3,x4⟩:=hE
    refine ⟨rfl,?_⟩;rw [<- x1];unfold Hd.ri cm
    have x0:jo (eG hx)+1<=jo fun i=>eG h0 i || cI off d.length i:=by
     refine Mn v (fun i hi L=>?_) ((gx v).2 (by rw [x2];exact x3)) (by simp only [m0,V3])
     have o:eG h i=U:=by
      obtain ⟨t,h4⟩:=fF.1 L;rw [x2] at h4;exact fF.2 ⟨t,h4⟩
     rw [T.NT i hi,N2] at o;rw [N2];rcases o with o|o
     .exact .inl o
     .exact .inr (i0 i o)
    by_cases f0:hx.n.rw=0
    .rw [if_pos f0];omega
    .rw [if_neg f0,if_pos]
     .omega
     .rw [fY]
      rcases x4 f0 with j|j
      .rcases T.rw j with j|⟨i,i1,y,i3⟩
       .obtain ⟨i,i1,y,i3⟩:=o0.Qd j
        exact ⟨i,i1,y,by rw [N2];exact .inl (fF.2 ⟨y,i3⟩)⟩
       .exact ⟨i,i1,y,by rw [N2];exact .inr (i0 i i3)⟩
      .exact ⟨q,j,v,by rw [N2];exact .inr m0⟩
   .obtain ⟨h',bI,c0⟩:=p
    obtain ⟨r0,N',T1,hV,⟨b,p1,p2,p3⟩,p4,p5,p6,p7,p8⟩:=hP;dsimp only at T1 p1 p2 p4 p5 p6 p7 p8;subst p1;obtain ⟨b0,d0⟩:∃ s,(d.drop done).take k=s:=⟨_,rfl⟩
    have e0:b0.length=k:=by rw [<- d0,P2,K3];omega
    have k0:(putAt c0 r b0).length=480:=by rw [gQ (by rw [e0,p7];omega)];exact p7
    refine aR.congr (m':=WM.bind (bO (b:Int) (putAt c0 r b0)) fun _=>wg ask n off d f (done+k) h') ?_ fun st=>by
     unfold xW;dsimp only;rw [l0,d0]
    refine (aR.write p3 (by have j:=(T1.ok.pg q (by omega)).2;rw [p2] at j;omega) k0).bind fun _ s0 e=>?_;rw [e];obtain ⟨T2,hb⟩:=T1.FX v p2 p3 k0;refine ih (done+k) _ h' (by omega) (by omega) ⟨⟨r0,N',T2⟩,⟨p5.1.trans T.same.1,p5.2.1.trans T.same.2.1,p5.2.2.trans T.same.2.2⟩,fun p hp=>?_,fun i hi=>?_,fun j=>?_⟩ (fun _=>by right;omega)
    .show ki (Ah a'.V b (putAt c0 r b0)) h' p=_
     rw [hb p hp]
     by_cases e:p/480=q
     .rw [if_pos e,ug (by rw [e0,p7];omega),e0]
      by_cases e2:r<=p%480/\p%480<r+k
      .rw [if_pos e2,if_pos (by omega),<- d0]
       simp only [E2];rw [B3,if_pos (by omega),D3,show done+(p%480-r)=p-off by omega]
      .have hw:(k == 480)=u:=by
        cases q0:(k == 480) with
        | false=>rfl
        | true=>
         have:k=480:=by simpa using q0
         omega
       rw [if_neg e2,p8 hw _ (by omega),show 480*q+p%480=p by omega,T.BV p hp]
       by_cases z:off<=p/\p<off+done
       .rw [if_pos z,if_pos (by omega)]
       .rw [if_neg z,if_neg (by omega)]
     .rw [if_neg e,Kb (p4 _ e),hV,T.BV p hp]
      by_cases z:off<=p/\p<off+done
      .rw [if_pos z,if_pos (by omega)]
      .rw [if_neg z,if_neg (by omega)]
    .by_cases e:i=q
     .subst e
      rw [fF.2 ⟨hi,by omega⟩];have:cI off (done+k) i=U:=cH.2 ⟨by omega,by omega,by omega⟩;rw [this,V3]
     .have e1:eG h' i=eG h i:=by unfold eG;rw [p4 i e]
      rw [e1,T.NT i hi];congr 1
      cases j:cI off done i with
      | true=>
       obtain ⟨L,o,t⟩:=cH.1 j;exact (cH.2 ⟨by omega,by omega,t⟩).symm
      | false=>
       cases Q:cI off (done+k) i with
       | false=>rfl
       | true=>
        obtain ⟨L,o,t⟩:=cH.1 Q;have:cI off done i=U:=cH.2 ⟨by omega,by omega,t⟩;rw [this] at j;cases j
    .rcases p6 j with Q|Q
     .rcases T.rw Q with n0|⟨i,i1,y,i3⟩
      .exact .inl n0
      .obtain ⟨L,o,t⟩:=cH.1 i3
       exact .inr ⟨i,i1,y,cH.2 ⟨by omega,by omega,t⟩⟩
     .exact .inr ⟨q,Q,v,cH.2 ⟨by omega,by omega,by omega⟩⟩
  .obtain rfl:done=d.length:=by omega
   refine aR.congr (m':=WM.pure h) (aR.pure T) fun st=>if_neg g0
theorem Ji {A:Nat->Option AF} (j:A id=Y f):eU A id (Y f)=A:=by
 funext b
 by_cases e:b=id
 .subst e;rw [bJ,j]
 .exact aS _ _ e
theorem AF.Oa (f:AF) (off:Nat) {d:List UInt8} (j:d.length=0):f.wr off d=f:=by
 obtain ⟨kd,lk,sz,p9,pr⟩:=f;unfold AF.wr;rw [if_pos j,j];congr 1
 .funext p;rw [if_neg (by omega)]
 .funext i
  have:cI off 0 i=u:=by unfold cI;simp
  rw [this,Bool.or_false]
theorem aR.Lf (hr:sy ask n V0 I) (hn:n<=3840) (hh:Has n a A k) (hf:A id=Y f) (off:Nat) (d:List UInt8) (hd:d.length<=4096) (hm:off+d.length<=122880) :
  aR n V0 I (gg ask n (id:Int) (off:Int) d) a (fun _ a'=>Has n a' (eU A id (Y (f.wr off d))) (k+cm f.pr-cm (f.wr off d).pr)/\cm (f.wr off d).pr<=k+cm f.pr) (fun c=>c=7/\k+cm f.pr<cm (f.wr off d).pr):=by
 have l0:=hh;obtain ⟨own,N,S,hk,hA⟩:=hh;obtain ⟨h,hN,rfl⟩:=Has.at hA hf;obtain ⟨i0,T,ho⟩:=S.lay.ok _ _ hN;obtain ⟨Q,hs,ht⟩:=S.rest id h (by omega) hN;have z0:=ho.Lb;have z1:=ho.NR;refine (aR.load hr hn S hN).bind fun x a' e=>?_;obtain ⟨rfl,rfl⟩:=e
 by_cases y:d.length=0
 .rw [AF.Oa _ _ y]
  refine aR.congr (m':=WM.pure ()) (aR.pure ⟨?_,by omega⟩) fun st=>(if_pos ⟨by omega,hd,by omega⟩).trans (if_pos y);rw [Ji hf,Nat.add_sub_cancel];exact l0
 .refine aR.congr (m':=WM.bind (wg ask n off d d.length 0 x) (Et off d)) ?_ fun st=>by
   refine ((if_pos ⟨by omega,hd,by omega⟩).trans (if_neg y)).trans ?_;rw [K2]
  have g0:cm (jG a'.V x).pr=x.ri:=(ho.ri Q).symm
  have W0:RP n a' N id (ym own n+x.ri) x off d 0 a' x:=⟨⟨own,N,cy.start S hN⟩,⟨rfl,rfl,rfl⟩,fun p _=>by rw [if_neg (by omega)],fun i _=>by
   have:cI off 0 i=u:=by unfold cI;simp
   rw [this,Bool.or_false],fun o=>.inl o⟩
  refine ((aR.wr hr hn Q off d hm d.length 0 a' x (Nat.zero_le _) (by omega) W0 (fun _=>.inl rfl)).mono (fun _ _ h=>h) fun c hc=>⟨hc.1,by rw [g0,<- hk];exact hc.2⟩).bind fun h' b0 j=>?_
  .obtain ⟨o0,N',d0⟩:=j.st
   obtain ⟨s1,s2,s3⟩:=j.same;obtain ⟨z,hz⟩:∃ z,max h'.n.sz ((off+d.length:Nat):Int)=z:=⟨_,rfl⟩
   show aR n V0 I (dZ (h'.mg (max h'.n.sz ((off+d.length:Nat):Int)))) b0 _ _
   rw [hz];have n0:z=max x.n.sz ((off+d.length:Nat):Int):=by rw [<- hz,s3]
   have r:=d0.ok;have k0:(h'.mg z).Ok n id:=⟨r.fit,r.id,r.kd,r.Lv,r.Pp,show 0<=z by omega,show z<=122880 by omega,r.Ls,r.N4,r.pg,r.rz⟩
   have T':=d0.set k0 rfl fun _ _=>rfl
   have c0:(h'.mg z).Fin:=by
    refine ⟨fun i hi hb=>?_,fun o=>?_⟩
    .have e0:cK z<=i:=hb
     show h'.bk i=0
     rw [<- gx hi,j.NT i hi];have e1:eG x i=u:=(gx hi).2 (Q.hi i hi (by unfold cK at e0 ⊢;omega))
     have e2:cI off d.length i=u:=by
      cases o:cI off d.length i with
      | false=>rfl
      | true=>
       obtain ⟨t,L,h3⟩:=cH.1 o;unfold cK at e0;omega
     rw [e1,e2];rfl
    .rcases j.rw o with o|⟨i,T,v,i3⟩
     .obtain ⟨i,T,v,i3⟩:=Q.Qd o
      refine ⟨i,T,v,?_⟩;have:eG h' i=U:=by rw [j.NT i v,fF.2 ⟨v,i3⟩];rfl
      exact (fF.1 this).2
     .refine ⟨i,T,v,?_⟩
      have:eG h' i=U:=by rw [j.NT i v,i3,V3]
      exact (fF.1 this).2
   have f0:∀ p,p<122880->ki b0.V (h'.mg z) p=((jG a'.V x).wr off d).p9 p:=fun p hp=>by
    show ki b0.V h' p=if off<=p/\p<off+d.length then d.getD (p-off) 0 else if p<122880 then ki a'.V x p else 0
    rw [j.BV p hp,if_pos hp]
   refine (aR.pI T' hn c0).mono (fun _ b e=>?_) fun _ h=>h;subst e;have:=T'.done hn c0 (fun p t L=>?_) hA ((jG a'.V x).wr off d) s1 s2 ?_ f0 (fun p hp=>?_) (fun i hi=>j.NT i hi) fun i hi=>?_
   .rw [<- hk,g0]
    refine ⟨this,?_⟩;have t:=T'.cons;have L:=k0.ri c0;have h3:cm ((jG a'.V x).wr off d).pr=cm (eG (h'.mg z)):=rB fun i hi=>(j.NT i hi).symm;omega
   .have m0:z<=p:=L
    rw [f0 p t];show (if off<=p/\p<off+d.length then d.getD (p-off) 0 else if p<122880 then ki a'.V x p else 0)=0
    rw [if_neg (by omega),if_pos t];exact ht p t (by omega)
   .show z=(((if d.length=0 then x.n.sz.toNat else max x.n.sz.toNat (off+d.length)):Nat):Int)
    rw [if_neg y];omega
   .show (if off<=p/\p<off+d.length then d.getD (p-off) 0 else if p<122880 then ki a'.V x p else 0)=0
    rw [if_neg (by omega),if_neg (by omega)]
   .show (eG x i || cI off d.length i)=u
    have e1:eG x i=u:=by unfold eG;simp;omega
    have e2:cI off d.length i=u:=by
     cases o:cI off d.length i with
     | false=>rfl
     | true=>
      obtain ⟨t,L,h3⟩:=cH.1 o;omega
    rw [e1,e2];rfl
end
section
variable {σ α:Type} {n id k:Nat} {own:Nat->Own} {N:Nat->Option Hd} {a a':Aw} {V0:Nat->List UInt8} {I:σ->Prop} {ask:dD σ} {E:Int->Prop} {P:α->Aw->Prop} {A:Nat->Option AF} {f:AF} {M:ia σ} {m:WM σ α}
theorem Has.congr (h:Has n a A k) (v:∀ i,0<i->i<n->a'.V i=a.V i) (hB:a'.B=a.B):Has n a' A k:=by
 obtain ⟨own,N,S,hk,T⟩:=h
 have y:∀ id g,N id=Y g->(∀ b,b=id\/own b=Ge id->a'.V b=a.V b)/\∀ b i,own b=CW id i->a'.V b=a.V b:=by
  intro id g o;obtain ⟨i0,i1,ho⟩:=S.lay.ok _ _ o
  have z:∀ b,own b≠qK->own b≠IF->a'.V b=a.V b:=fun b r t=>by
   refine v b ?_ ?_
   .rcases Nat.eq_zero_or_pos b with e|e
    .subst e;exact absurd S.lay.zero t
    .exact e
   .refine Nat.lt_of_not_le fun Q=>r (S.lay.out b Q)
  refine ⟨fun b j=>?_,fun b i j=>z b (by rw [j];simp) (by rw [j];simp)⟩;rcases j with rfl|j
  .exact v b i0 i1
  .exact z b (by rw [j];simp) (by rw [j];simp)
 refine ⟨own,N,⟨S.lay,by rw [hB];exact S.bm,fun b h0 j=>by rw [v b h0 j];exact S.len b h0 j,fun id g b0 o=>?_⟩,hk,fun id=>?_⟩
 .obtain ⟨r,t,L⟩:=S.rest id g b0 o
  exact ⟨r,t.frame S.lay o (y id g o).1,L.frame S.lay o (y id g o).2⟩
 .rw [T id]
  cases o:N id with
  | none=>rfl
  | some g=>
   show Y (jG a.V g)=Y (jG a'.V g)
   congr 1;unfold jG;congr 1;funext p
   split
   .rename_i hp;exact (mW S.lay o (y id g o).2 hp).symm
   .rfl
structure qa (n:Nat) (V0:Nat->List UInt8) (I:σ->Prop) (M:ia σ) (A:Nat->Option AF) (k:Nat):Prop where
 fW:Good n V0 I M
 has:Has n (JM V0 M) A k
theorem qa.reader (h:qa n V0 I M A k) {s:σ} (j:I s):qa n V0 I { M with s:=s } A k:=⟨⟨h.fW.err,j,h.fW.wr,h.fW.rd,h.fW.keys⟩,h.has⟩
theorem qa.run (hr:sy ask n V0 I) (h0:0<n) (h:qa n V0 I M A k) (y:aR n V0 I m (JM V0 M) P E) :
  (∃ x M' a',eu m M=(.ok x,M')/\P x a'/\∀ A' k',Has n a' A' k'->qa n V0 I M' A' k')\/∃ c j,eu m M=(.bad c,{ M with s:=j })/\E c/\qa n V0 I { M with s:=j } A k:=by
 rcases aR.run hr h0 h.fW y with ⟨x,M',a',o,r,t,h4,v⟩|⟨c,j,o,r,t⟩
 .exact .inl ⟨x,M',a',o,t,fun A' k' z=>⟨r,z.congr v h4⟩⟩
 .exact .inr ⟨c,j,o,t,h.reader r⟩
variable (hr:sy ask n V0 I) (h0:0<n) (hn:n<=3840)
include hr h0
theorem A0 (h4:4<=n) (hn:n<=3840) (t:Good n V0 I M):∃ M',eu (iC ask) M=(.ok (),M')/\qa n V0 I M' (fun id=>if id=1 then Y (iM 2) else O) (n-2):=by
 rcases aR.run hr h0 t (aR.format (E:=fun _=>False) hr h4 hn fun b _ y=>t.Lz hr y) with ⟨x,M',a',o,r,j,h4,v⟩|⟨c,z,o,r,j⟩
 .exact ⟨M',o,r,j.congr v h4⟩
 .exact j.elim
include hn
theorem Gw (h:qa n V0 I M A k) (y:A id=Y f):∃ x M',eu (oF ask n (id:Int)) M=(.ok x,M')/\x.kd=f.kd/\x.lk=f.lk/\x.sz=f.sz/\qa n V0 I M' A k:=by
 rcases h.run hr h0 (aR.node (E:=fun _=>False) hr hn h.has y) with ⟨x,M',a',o,⟨j,r,h4,t⟩,v⟩|⟨c,z,o,j,r⟩
 .exact ⟨x,M',o,j,r,h4,v _ _ (by rw [t];exact h.has)⟩
 .exact j.elim
theorem A5 (h:qa n V0 I M A k) (y:A id=Y f) (off j:Nat):∃ M',eu (iS ask n (id:Int) (off:Int) (j:Int)) M=(.ok (f.sub off j),M')/\qa n V0 I M' A k:=by
 rcases h.run hr h0 (aR.Ot (E:=fun _=>False) hr hn h.has y off j) with ⟨x,M',a',r,⟨o,t⟩,v⟩|⟨c,L,r,o,z⟩
 .exact ⟨M',by rw [r,o],v _ _ (by rw [t];exact h.has)⟩
 .exact o.elim
theorem Mo (h:qa n V0 I M A k) {kd:Int} (L:kd=1\/kd=2) :
  (∃ id M',eu (ve ask n kd) M=(.ok id,M')/\A id=O/\0<id/\id<n/\0<k/\qa n V0 I M' (eU A id (Y (iM kd))) (k-1))\/(∃ j,eu (ve ask n kd) M=(.bad 7,{ M with s:=j })/\k=0/\qa n V0 I { M with s:=j } A k):=by
 rcases h.run hr h0 (aR.new hr h0 hn h.has L) with ⟨x,M',a',o,⟨r,t,h4,v,y⟩,z⟩|⟨c,j,o,⟨rfl,r⟩,t⟩
 .exact .inl ⟨x,M',o,r,t,h4,v,z _ _ y⟩
 .exact .inr ⟨j,o,r,t⟩
theorem EC (h:qa n V0 I M A k) (y:A id=Y f) (d:Int) :
  (∃ M',eu (j8 ask n (id:Int) d) M=(.ok (),M')/\(0<=wrap64 (f.lk+d)/\wrap64 (f.lk+d)<=65535)/\qa n V0 I M' (eU A id (Y { f with lk:=wrap64 (f.lk+d) })) k) \/
  (∃ j,eu (j8 ask n (id:Int) d) M=(.bad 1,{ M with s:=j })/\¬ (0<=wrap64 (f.lk+d)/\wrap64 (f.lk+d)<=65535)/\qa n V0 I { M with s:=j } A k):=by
 rcases h.run hr h0 (aR.Q8 hr hn h.has y d) with ⟨x,M',a',o,⟨r,t⟩,v⟩|⟨c,j,o,⟨rfl,r⟩,t⟩
 .exact .inl ⟨M',o,r,v _ _ t⟩
 .exact .inr ⟨j,o,r,t⟩
theorem rj (h:qa n V0 I M A k) (z:A id=Y f) (off:Nat) (d:List UInt8) (y:d.length<=4096) (L:off+d.length<=122880) :
  (∃ M',eu (gg ask n (id:Int) (off:Int) d) M=(.ok (),M')/\cm (f.wr off d).pr<=k+cm f.pr/\qa n V0 I M' (eU A id (Y (f.wr off d))) (k+cm f.pr-cm (f.wr off d).pr)) \/
  (∃ j,eu (gg ask n (id:Int) (off:Int) d) M=(.bad 7,{ M with s:=j })/\k+cm f.pr<cm (f.wr off d).pr/\qa n V0 I { M with s:=j } A k):=by
 rcases h.run hr h0 (aR.Lf hr hn h.has z off d y L) with ⟨x,M',a',o,⟨r,t⟩,v⟩|⟨c,j,o,⟨rfl,r⟩,t⟩
 .exact .inl ⟨M',o,t,v _ _ r⟩
 .exact .inr ⟨j,o,r,t⟩
end
variable {σ α β:Type} {m:WM σ α} {k:α->WM σ β} {ask:dD σ} {c d n:Nat}
def cu (m:WM σ α) (c:Nat):Prop:=∀ st a j,m st=(.ok a,j)->j.b.W.length<=st.b.W.length+c
theorem cu.bind (h:cu m c) (o:∀ a,cu (k a) d):cu (WM.bind m k) (c+d):=by
 intro st a z e;unfold WM.bind at e
 cases j:m st with
 | mk r y=>
  rw [j] at e
  cases r with
  | ok x=>have t:=h _ _ _ j;have v:=o x _ _ _ e;omega
  | bad c=>cases e
theorem cu.iJ (h:cu m 0) (j:∀ a,cu (k a) d):cu (WM.bind m k) d:=by
 have:=h.bind j;rwa [T3] at this
theorem cu.mono (h:cu m c) (j:c<=d):cu m d:=fun st a o e=>by have:=h _ _ _ e;omega
theorem cu.pure (a:α):cu (WM.pure a:WM σ α) 0:=fun st b j e=>by cases e;exact D2 _
theorem cu.ite {p:Prop} [Decidable p] {j:WM σ α} (h:cu m c) (h':cu j c):cu (fun st=>if p then m st else j st) c:=fun st a o e=>by
 simp only at e;split at e;exact h _ _ _ e;exact h' _ _ _ e
theorem cu.stop (z:Int):cu (fun st=>(.bad z,st):WM σ α) 0:=fun st a j e=>by cases e
theorem cu.skip (a:α):cu (fun st=>(.ok a,st):WM σ α) 0:=fun st b j e=>by cases e;exact D2 _
theorem Bu (b:ia σ) (id:Int):(fD ask b id).2.W=b.W:=by
 unfold fD
 split
 .rfl
 .split
  .rfl
  .split
   .rfl
   .unfold qL;split <;> rfl
theorem kB (id:Int):cu (cZ ask id) 0:=fun st a j e=>by
 unfold cZ at e
 split at e
 .cases e
 .split at e
  .cases e
  .cases e;show (fD ask st.b id).2.W.length<=_;rw [Bu];omega
theorem lv (id:Int) (l:List UInt8):cu (bO id l:WM σ Unit) 1:=fun st a j e=>by
 unfold bO at e
 split at e
 .cases e
  show (SL.fm st.b.W id l).length<=_
  rw [CC];split <;> omega
 .cases e
theorem vK:cu (kq ask) 0:=fun st a j e=>by
 unfold kq at e
 split at e
 .cases e;exact D2 _
 .split at e
  .rename_i h;cases e;have:=kB 0 _ _ _ h;exact this
  .cases e
theorem vN (id:Nat) (t:Bool):cu (fz ask id t) 0:=vK.iJ fun l st a j e=>by cases e;exact D2 _
theorem mV:cu (ic ask n) 0:=vK.iJ fun l st a o e=>by
 unfold qS at e
 cases j:eK l n with
 | none=>rw [j] at e;cases e
 | some k=>rw [j] at e;cases e;exact D2 _
theorem lX (l:List Int):cu (eo n l:WM σ Unit) 0:=fun st a j e=>by
 unfold eo at e;split at e <;> cases e;exact D2 _
theorem tN (id:Nat) (nd:Nd) (row:List Int):cu (ik n id nd row:WM σ Hd) 0:=(lX _).iJ fun _=>(lX _).iJ fun _=>cu.pure _
theorem vp (id:Int):cu (gR ask n id) 0:=by
 refine cu.ite ((kB _).iJ fun L=>cu.ite (cu.ite (tN _ _ _) ((lX _).iJ fun _=>(kB _).iJ fun L=>cu.ite (tN _ _ _) (cu.stop _))) (cu.stop _)) (cu.stop _)
theorem nk (h:Hd):cu (dZ h:WM σ Unit) 2:=by
 refine cu.ite ((lv _ _).bind (d:=1) fun _=>cu.ite ((cu.skip _).mono (by omega)) (cu.ite (lv _ _) ((cu.stop _).mono (by omega)))) ((cu.stop _).mono (by omega))
def Still (m:WM σ α):Prop:=∀ st a j,m st=(.ok a,j)->j.b.W.length<=st.b.W.length/\j.dt=st.dt
theorem Still.bind (h:Still m) (v:∀ a,Still (k a)):Still (WM.bind m k):=by
 intro st a z e;unfold WM.bind at e
 cases t:m st with
 | mk r y=>
  rw [t] at e
  cases r with
  | ok x=>have j:=h _ _ _ t;have o:=v x _ _ _ e;exact ⟨O2 o.1 j.1,o.2.trans j.2⟩
  | bad c=>cases e
theorem Still.pure (a:α):Still (WM.pure a:WM σ α):=fun st b j e=>by cases e;exact ⟨D2 _,rfl⟩
theorem Still.ite {p:Prop} [Decidable p] {j:WM σ α} (h:Still m) (h':Still j):Still (fun st=>if p then m st else j st):=fun st a o e=>by
 simp only at e;split at e;exact h _ _ _ e;exact h' _ _ _ e
theorem Still.stop (z:Int):Still (fun st=>(.bad z,st):WM σ α):=fun st a j e=>by cases e
theorem Still.skip (a:α):Still (fun st=>(.ok a,st):WM σ α):=fun st b j e=>by cases e;exact ⟨D2 _,rfl⟩
theorem nT (id:Int):Still (cZ ask id):=fun st a j e=>by
 refine ⟨kB id _ _ _ e,?_⟩;unfold cZ at e
 split at e
 .cases e
 .split at e <;> cases e
  rfl
theorem kY (l:List Int):Still (eo n l:WM σ Unit):=fun st a j e=>by
 unfold eo at e;split at e <;> cases e;exact ⟨D2 _,rfl⟩
theorem rF (id:Nat) (nd:Nd) (row:List Int):Still (ik n id nd row:WM σ Hd):=(kY _).bind fun _=>(kY _).bind fun _=>Still.pure _
theorem sS (id:Int):Still (gR ask n id):=
 Still.ite ((nT _).bind fun L=>Still.ite (Still.ite (rF _ _ _) ((kY _).bind fun _=>(nT _).bind fun L=>Still.ite (rF _ _ _) (Still.stop _))) (Still.stop _)) (Still.stop _)
theorem B6 (node:Int):Still (oF ask n node):=(sS _).bind fun _=>Still.pure _
theorem ta (h:Hd) (off:Nat):∀ (f done:Nat) (L:List UInt8),Still (AT ask h off f done L)
 | 0,_,L=>Still.pure L
 | f+1,done,L=>Still.ite (Still.ite (ta h off f _ L) ((nT _).bind fun _=>ta h off f _ _)) (Still.skip _)
theorem xB (node off j:Int):Still (iS ask n node off j):=(sS _).bind fun h=>Still.ite (Still.ite (Still.skip _) (ta _ _ _ _ _)) (Still.stop _)
theorem Still.run (h:Still m) {M M':ia σ} {x:α} (e:eu m M=(.ok x,M')):M'.W.length<=M.W.length:=by
 cases j:m ⟨M,O,u⟩ with
 | mk r st=>
  cases r with
  | ok y=>
   have o:=h _ _ _ j;rw [mY j o.2] at e;cases e;exact o.1
  | bad z=>rw [kE j] at e;cases e
theorem cu.run (h:cu m c) {M M':ia σ} {x:α} (e:eu m M=(.ok x,M')):M'.W.length<=M.W.length+(c+1):=by
 unfold eu at e
 have t:cu (my:WM σ Unit) 1:=fun st a v e=>by
  unfold my at e
  split at e
  .exact lv _ _ st a v e
  .cases e;omega
 have o:cu (WM.bind m fun a=>WM.bind my fun _=>WM.pure a) (c+1):=h.bind fun a=>t.bind (d:=0) fun _=>cu.pure a
 cases j:(WM.bind m fun a=>WM.bind my fun _=>WM.pure a) ⟨M,O,u⟩ with
 | mk r st=>
  rw [j] at e
  cases r with
  | ok y=>cases e;exact o _ _ _ j
  | bad z=>cases e
theorem G5 (kd:Int):cu (ve ask n kd) 2:=cu.ite (mV.iJ fun id=>(nk _).bind (d:=0) fun _=>cu.pure _) ((cu.stop _).mono (by omega))
theorem BH (node j:Int):cu (j8 ask n node j) 2:=(vp _).iJ fun h=>cu.ite (nk _) ((cu.stop _).mono (by omega))
theorem DW (h:Hd) (i:Nat) (j:Bool):cu (lI ask n h i j) 0:=
 cu.ite (cu.ite (mV.iJ fun r=>mV.iJ fun _=>cu.pure _) (mV.iJ fun _=>cu.pure _)) (cu.ite (cu.skip _) ((kB _).iJ fun _=>cu.pure _))
def AE (off l done:Nat):Nat:=if done<l then (off+l-1)/480-(off+done)/480+1 else 0
theorem Ez {off l done:Nat} (h:done<l):1+AE off l (done+gY (l-done) (off+done))<=AE off l done:=by
 have r:AE off l done=(off+l-1)/480-(off+done)/480+1:=if_pos h;rw [r]
 by_cases j:done+gY (l-done) (off+done)<l
 .have o:AE off l (done+gY (l-done) (off+done))=(off+l-1)/480-(off+(done+gY (l-done) (off+done)))/480+1:=if_pos j
  rw [o];have t:gY (l-done) (off+done)=480-(off+done)%480:=by unfold gY at j ⊢;omega
  rw [t] at j ⊢;omega
 .have o:AE off l (done+gY (l-done) (off+done))=0:=if_neg j
  rw [o];omega
theorem Dz (off:Nat) (dt:List UInt8):∀ (f done:Nat) (h:Hd),cu (wg ask n off dt f done h) (AE off dt.length done)
 | 0,_,h=>(cu.pure h).mono (by omega)
 | f+1,done,h=>by
  by_cases o:done<dt.length
  .have r:cu (WM.bind (lI ask n h ((off+done)/480) (gY (dt.length-done) (off+done) == 480)) (xW (wg ask n off dt f) done off (gY (dt.length-done) (off+done)) dt)) (1+AE off dt.length (done+gY (dt.length-done) (off+done))):=
    (DW _ _ _).iJ fun p=>(lv _ _).bind fun _=>Dz off dt f _ _
   intro st a t e;have j:wg ask n off dt (f+1) done h st=(WM.bind (lI ask n h ((off+done)/480) (gY (dt.length-done) (off+done) == 480)) (xW (wg ask n off dt f) done off (gY (dt.length-done) (off+done)) dt)) st:=if_pos o;rw [j] at e;have v:=r _ _ _ e;have h4:=Ez (off:=off) o;omega
  .intro st a t e
   have j:wg ask n off dt (f+1) done h st=(.ok h,st):=if_neg o;rw [j] at e;cases e
   omega
theorem xu (node off:Int) (dt:List UInt8):cu (gg ask n node off dt) (dt.length/480+4):=by
 refine (vp _).iJ fun h=>cu.ite (cu.ite ((cu.skip _).mono (by omega)) (((Dz _ _ _ _ _).mono (d:=dt.length/480+2) ?_).bind fun _=>nk _)) ((cu.stop _).mono (by omega));unfold AE
 split <;> omega
theorem zd:cu (iC ask) 2:=fun st a j e=>((vN 0 U).iJ fun _=>(vN 1 U).iJ fun _=>nk _) { st with bits:=Y (zs 480) } a j e
end Go.SL
namespace Go.Proofs.Fs
open Go.RowKit Go.SL Go.Proofs.Ba
structure Fx (n:Nat) where
 σ:Type
 c:Cx σ
 V0:Nat->List UInt8
 I:σ->Prop
 ok:c.Ok
 OC:sy c.ask n V0 I
 h4:4<=n
 hn:n<=3840
 R:Hp->ai
 hR:∀ S S',Ext S S'->∀ h,R S h->R S' h
 C:Nat
@[reducible] def Fx.more {n:Nat} (x:Fx n) (m:Nat):Fx n:=⟨x.σ,x.c,x.V0,x.I,x.ok,x.OC,x.h4,x.hn,x.R,x.hR,x.C+m⟩
def Oo {n:Nat} (x:Fx n) (b:Nat) (M:ia x.σ):ai:=ex fun S=>cG x.c S b M*(ak S*x.R S)
abbrev y8 {n:Nat} (x:Fx n) (M:ia x.σ) (A:Nat->Option AF) (k:Nat):Prop:=qa n x.V0 x.I M A k/\M.W.length<=x.C
def eA {n:Nat} (x:Fx n) (b:Nat) (A:Nat->Option AF) (k:Nat):ai:=ex fun M=>fact (y8 x M A k)*Oo x b M
section
variable {n:Nat} {x:Fx n} {b k:Nat} {A:Nat->Option AF} {M:ia x.σ} {w w':G} {F:ai}
theorem ag.uB (h:ag w (Oo x b M*F)):∃ S,ag w (cG x.c S b M*(ak S*(x.R S*F))):=by
 obtain ⟨S,j⟩:=ag.aw.1 h;exact ⟨S,j.to (by ac_rfl)⟩
theorem ag.wP {S S':Hp} (o:Ext S S') (h:ag w (cG x.c S' b M*(ak S'*(x.R S*F)))):ag w (Oo x b M*F):=by
 have j:=(h.to (by ac_rfl:_=x.R S*(cG x.c S' b M*(ak S'*F)))).fp (x.hR S S' o);exact ag.aw.2 ⟨S',j.to (by ac_rfl)⟩
theorem ag.rJ (h:ag w (eA x b A k*F)):∃ M,y8 x M A k/\ag w (Oo x b M*F):=by
 obtain ⟨M,j⟩:=ag.aw.1 h;obtain ⟨o,r⟩:=ag.au.1 (j.to (ax _ _ _));exact ⟨M,o,r⟩
theorem ag.sI (j:y8 x M A k) (h:ag w (Oo x b M*F)):ag w (eA x b A k*F):=
 ag.aw.2 ⟨M,(ag.au.2 ⟨j,h⟩:ag w (fact (y8 x M A k)*(Oo x b M*F))).to (ax _ _ _).symm⟩
theorem ag.C4 (m:Nat) (h:ag w (eA x b A k*F)):ag w (eA (x.more m) b A k*F):=by
 obtain ⟨M,j,o⟩:=ag.rJ h;exact ag.sI (x:=x.more m) ⟨j.1,O2 j.2 (Nat.le_add_right _ _)⟩ o
def YI {n:Nat} (x:Fx n) (b:Nat) (A:Nat->Option AF) (k:Nat) (v c:Int) (F:ai) (w:G) (e:Ending) (w':G):Prop:=
 e = Z' (.tuple #[Z .i64 v,Z .i64 c])/\aj w w'/\ag w' (eA x b A k*F)
def YE {n:Nat} (x:Fx n) (b:Nat) (A:Nat->Option AF) (k:Nat) (c:Int) (F:ai) (w:G) (e:Ending) (w':G):Prop:=
 e = Z' (Z .i64 c)/\aj w w'/\ag w' (eA x b A k*F)
def YB {n:Nat} (x:Fx n) (b:Nat) (A:Nat->Option AF) (k:Nat) (l:List UInt8) (F:ai) (w:G) (e:Ending) (w':G):Prop:=
 ∃ v,e = Z' (.tuple #[v,Z .i64 0])/\aj w w'/\ag w' (bs 5 v l*(eA x b A k*F))
def YN {n:Nat} (x:Fx n) (b:Nat) (A:Nat->Option AF) (k:Nat) (f:AF) (F:ai) (w:G) (e:Ending) (w':G):Prop:=
 ∃ y:Nd,e = Z' (.tuple #[.agg (ints y.l),Z .i64 0])/\y.dr.length=16/\y.kd=f.kd/\y.lk=f.lk/\y.sz=f.sz/\aj w w'/\ag w' (eA x b A k*F)
def RA {n:Nat} (x:Fx n) (b:Nat) (A:Nat->Option AF) (k:Nat) (kd:Int) (F:ai) (w:G) (e:Ending) (w':G):Prop:=
 ∃ id:Nat,e = Z' (.tuple #[Z .i64 (id:Int),Z .i64 0])/\A id=O/\0<id/\id<n/\aj w w'/\ag w' (eA x b (eU A id (Y (iM kd))) (k-1)*F)
section
variable {S:Hp} {c:Int} {M':ia x.σ} {A':Nat->Option AF} {k':Nat} {e:Ending}
theorem Mi.ye {p:Rs Unit × ia x.σ} (h:Mi x.c b S (x.R S*F) w p e w') (t:p=(.ok (),M')) (j:y8 x M' A' k'):YE x b A' k' 0 F w e w':=by
 subst t;obtain ⟨S',o,d,r,v⟩:=h;exact ⟨r,d,ag.sI j (ag.wP o v)⟩
theorem Mi.no {p:Rs Unit × ia x.σ} (h:Mi x.c b S (x.R S*F) w p e w') (t:p=(.bad c,M')) (j:y8 x M' A' k'):YE x b A' k' c F w e w':=by
 subst t;obtain ⟨S',o,d,r,v⟩:=h;exact ⟨r,d,ag.sI j (ag.wP o v)⟩
end
variable (h:ag w (eA x b A k*F))
include h
theorem Ql {kd:Int} (L:kd=1\/kd=2) (hk:0<k):Calls W 68 #[gq b n,Z .i64 kd] w (RA (x.more 3) b A k kd F w):=by
 obtain ⟨M,o,h0⟩:=ag.rJ h;obtain ⟨S,v⟩:=ag.uB h0;refine (OJ x.c x.ok n x.h4 x.hn b M w S kd (x.R S*F) v).mono fun e w' r=>?_;rcases Mo x.OC (by have:=x.h4;omega) x.hn o.1 L with ⟨id,M1,j,r1,T,i1,-,t⟩|⟨s',-,h0,-⟩
 .rw [j] at r
  obtain ⟨S',y,d,z,Q⟩:=r;exact ⟨id,z,r1,T,i1,d,ag.sI (x:=x.more 3) ⟨t,O2 ((G5 kd).run j) (W3 o.2 3)⟩ (ag.wP (x:=x.more 3) y Q)⟩
 .omega
theorem JV {id:Nat} {f:AF} (hf:A id=Y f) (off j:Nat):Calls W 92 #[gq b n,Z .i64 (id:Int),Z .i64 (off:Int),Z .i64 (j:Int)] w (YB x b A k (f.sub off j) F w):=by
 obtain ⟨M,v,h0⟩:=ag.rJ h;obtain ⟨S,L⟩:=ag.uB h0;refine (Eo x.c x.ok n x.h4 x.hn b M w S id off j (x.R S*F) L).mono fun e w' y=>?_;obtain ⟨r,t,o⟩:=A5 x.OC (by have:=x.h4;omega) x.hn v.1 hf off j;have o:y8 x r A k:=⟨o,O2 ((xB _ _ _).run t) v.2⟩
 rw [t] at y;obtain ⟨S',z,T,d,he,hs⟩:=y;refine ⟨z,he,d,?_⟩;have Q:=ag.sI o (ag.wP T (hs.to (by unfold fJ;ac_rfl:_=cG x.c S' b r*(ak S'*(x.R S*(bs 5 z (f.sub off j)*F))))));exact Q.ah
theorem Co {id:Nat} {f:AF} (hf:A id=Y f):Calls W 91 #[gq b n,Z .i64 (id:Int)] w (YN x b A k f F w):=by
 obtain ⟨M,r,h0⟩:=ag.rJ h;obtain ⟨S,y⟩:=ag.uB h0;refine (Mc x.c x.ok n x.h4 x.hn b M w S id (x.R S*F) y).mono fun e w' t=>?_;obtain ⟨b0,v,o,y1,y2,y3,j⟩:=Gw x.OC (by have:=x.h4;omega) x.hn r.1 hf;have j:y8 x v A k:=⟨j,O2 ((B6 _).run o) r.2⟩
 rw [o] at t;obtain ⟨S',c0,Q,d,T,hs⟩:=t;obtain ⟨⟨rfl,z⟩,L⟩:=ag.au.1 hs;exact ⟨b0,T,z,y1,y2,y3,d,ag.sI j (ag.wP Q L)⟩
theorem LL {id:Nat} {f:AF} (z:A id=Y f) (d:Int) (h0:0<=wrap64 (f.lk+d)/\wrap64 (f.lk+d)<=65535):Calls W 38 #[gq b n,Z .i64 (id:Int),Z .i64 d] w (YE (x.more 3) b (eU A id (Y { f with lk:=wrap64 (f.lk+d) })) k 0 F w):=by
 obtain ⟨M,o,t⟩:=ag.rJ h;obtain ⟨S,v⟩:=ag.uB t;refine (IL x.c x.ok n x.h4 x.hn b M w S id d (x.R S*F) v).mono fun e w' L=>?_;rcases EC x.OC (by have:=x.h4;omega) x.hn o.1 z d with ⟨Q,j,-,r⟩|⟨T,-,y,-⟩
 .exact L.ye (x:=x.more 3) j ⟨r,O2 ((BH _ _).run j) (W3 o.2 3)⟩
 .exact absurd h0 y
omit h
variable {D:ai} {va:Option Addr} {cap:Nat} {l:List UInt8}
theorem DI {id:Nat} {f:AF} (Q:A id=Y f) (off:Nat) (z:∀ j P,ag j (D*P)->Rd j (J va l.length cap) l) (L:l.length<=cap) (T:l.length<=4096) (hm:off+l.length<=122880) (hk:cm (f.wr off l).pr<=k+cm f.pr) (h:ag w (eA x b A k*(D*F))) :
  Calls W 42 #[gq b n,Z .i64 (id:Int),Z .i64 (off:Int),J va l.length cap] w (YE (x.more (l.length/480+5)) b (eU A id (Y (f.wr off l))) (k+cm f.pr-cm (f.wr off l).pr) 0 (D*F) w):=by
 obtain ⟨M,r,h0⟩:=ag.rJ h;obtain ⟨S,y⟩:=ag.uB h0;refine (uy x.c x.ok n x.h4 x.hn b M w S id off l va cap D z L (by omega) (x.R S*F) (y.to (by ac_rfl))).mono fun e w' t=>?_;rw [aE] at t;rcases rj x.OC (by have:=x.h4;omega) x.hn r.1 Q off l T hm with ⟨M1,o,-,v⟩|⟨s',-,h9,-⟩
 .exact t.ye (x:=x.more (l.length/480+5)) o ⟨v,O2 ((xu _ _ _).run o) (W3 r.2 (l.length/480+5))⟩
 .omega
theorem Gv {id:Nat} {f:AF} (Q:A id=Y f) (off:Nat) (z:∀ o P,ag o (D*P)->Rd o (J va l.length cap) l) (L:l.length<=cap) (T:l.length<=4096) (hm:off+l.length<=122880) (hk:k+cm f.pr<cm (f.wr off l).pr) (h:ag w (eA x b A k*(D*F))) :
  Calls W 42 #[gq b n,Z .i64 (id:Int),Z .i64 (off:Int),J va l.length cap] w (YE x b A k 7 (D*F) w):=by
 obtain ⟨M,t,h0⟩:=ag.rJ h;obtain ⟨S,y⟩:=ag.uB h0;refine (uy x.c x.ok n x.h4 x.hn b M w S id off l va cap D z L (by omega) (x.R S*F) (y.to (by ac_rfl))).mono fun e w' v=>?_;rw [aE] at v;rcases rj x.OC (by have:=x.h4;omega) x.hn t.1 Q off l T hm with ⟨M1,r,h9,j⟩|⟨s',r,-,j⟩
 .omega
 .exact v.no r ⟨j,t.2⟩
end
theorem oQ (w:G) (v:Value) (l:List UInt8) (h:Rd w v l):(convert 37 9 v).run W w = .ok (.string (str l)) w:=by
 have uM:∀ (l:List UInt8) (s:ByteArray),(l.map fun x=>(x.toNat:Int)).foldl (fun r n=>r.push (UInt8.ofNat n.toNat)) s=⟨s.data++l.toArray⟩:=by
  intro l
  induction l with
  | nil=>intro s;simp
  | cons a l t=>intro s;simp only [List.map_cons,List.foldl_cons,t];simp [ByteArray.push]
 obtain ⟨_,hr⟩:=h;rcases hr with ⟨rfl,h0⟩|⟨a,c,rfl,o⟩
 .have:l=[]:=List.eq_nil_of_length_eq_zero h0
  subst this;rw [run_convert_bytes_string w _ _ 5 O 0 0 underlying37 underlying5 underlying9]
  rfl
 .rw [run_convert_bytes_string w _ _ 5 (Y a) _ c underlying37 underlying5 underlying9]
  have j:=run_loadCells_list (P:=W) (w:=w) a (l.map u8) o;rw [R2] at j
  have:=run_bytesToString (P:=W) w a l.length c (l.map fun x=>(x.toNat:Int)) (by
   rw [j];simp [u8,Function.comp_def])
  rw [this,uM];simp [str]
end Go.Proofs.Fs

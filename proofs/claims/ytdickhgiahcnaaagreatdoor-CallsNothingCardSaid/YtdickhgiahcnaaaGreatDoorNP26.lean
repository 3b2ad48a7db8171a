/- Steps. -/
import Derived.Test.YtdickhgiahcnaaaGreatDoorNP25
import Derived.DataElems
import Derived.Deep.RegionLaw
set_option linter.all false
set_option maxRecDepth 99999
set_option maxHeartbeats 0
open Go.SL
open Go.Value renaming int->Z,slice->G,pointer->J
open Go.IntKind renaming i64->Y
open Go.Obj renaming cells->W
open Go renaming World->D
open Go.Proofs.Tryz renaming prog->O
open Option renaming some->X,none->R
open Bool renaming true->Q,false->H
open Go.SL renaming Om0->U
open Go.Proofs.Tryz
open Nat renaming le_refl->A3,zero_add->K7
open List renaming getD->A2,range->B3,replicate->D8,getElem?_eq_getElem->D3,getElem?_replicate->D2,length_take->E5,drop_left'->E2,countP_append->G3,all_eq_true->H9,getElem_of_mem->H8,length_map->H7,getElem?_take->H6,getElem?_drop->H5,append_assoc->H3,drop_drop->H2,countP_eq_zero->J7,length_drop->J4,length_append->J3,range_succ->J2,countP_cons->K9,countP_congr->K8,getElem?_append_left->K6,eq_replicate_iff->K4,getElem?_append_right->K3
open Int renaming toNat_natCast->B2
open Bool renaming and_eq_true->D7,or_eq_true->D4,or_true->K5
open Go.World renaming size_alloc->D6
namespace Go.SL
open RowKit
section
variable {σ:Type}
def qi (ask:cL σ) (n:Nat) (h:Hd) (i:Nat):WM σ (Hd × Int × List UInt8):=WM.bind (iN ask n) fun b=>WM.pure (h.put i (b:Int),(b:Int),zs 480)
def nj (ask:cL σ) (n:Nat) (h:Hd) (i:Nat) (e:Bool):WM σ (Hd × Int × List UInt8):=fun st=>
 if h.aN i=0 then (if 16<=i/\h.n.rw=0 then (WM.bind (iN ask n) fun r=>qi ask n (h.dF (r:Int)) i) st else qi ask n h i st)
 else if e=Q then (.ok (h,h.aN i,zs 480),st) else (WM.bind (cZ ask (h.aN i)) fun L=>WM.pure (h,h.aN i,L)) st
end
end Go.SL
namespace Go.Proofs.Fs
open RowKit SL Proofs.Ba
section
variable {σ α:Type}
def tZ (x:Wk σ) (t:Nat) (S:Hp) (F:ai) (w:D):Rs (Hd × Int × List UInt8) × eG σ->Ending->D->Prop
 | (.ok p,r),e,o=>∃ j v,Ext S j/\aj w o/\p.2.2.length=480/\e = .returned (.tuple #[Z Y p.2.1,v])/\ag o (bs 5 v p.2.2*(aP t p.1*(aG x j r*(al j*F))))
 | (.bad c,r),e,o=>∃ j h',Ext S j/\aj w o/\e = .panicked (JW c)/\ag o (aP t h'*(aG x j r*(al j*F)))
def lY (x:Wk σ) (hc:x.c.Ok) (hn:x.n<=3840) (w:D) (S:Hp) (st:eG σ) (j:Nat) (h:Hd) (i:Nat) (wh:Bool) (F:ai) (hi:i<256) (hs:ag w (aP j h*(aG x S st*(al S*F)))) :
  Calls O 95 #[J (X ⟨x.k,0,R⟩),J (X ⟨j,0,R⟩),Z Y (i:Int),.bool wh] w (tZ x j S F w (nj x.c.ask x.n h i wh st)):=by
 refine aF fun q0 HQ=>?_;have d0:=nT w j h _ hs i hi;unfold MP at d0;have u0:(i:Int)<256:=U
 obtain ⟨m0,C⟩:=Nm (nj x.c.ask x.n h i wh st)
 rw [C] at HQ;have x0:∀ w,(Instr.makeSlice 23 (Z Y 480) (Z Y 480)).run O w = .ok (G (X ⟨w.heap.size,0,R⟩) 480 480) (w.alloc (W (ed (zs 480)) 5 (0,0))):=fq 480 U;have hf:=(ag.held.1 hs).1;have g0:w.cell? ⟨j,20,R⟩=X (Z Y h.n.rw):=qM hf (ag.held.1 hs).2;have Hs:=ae hs;have Hf:=ae hf;clear hs hf
 by_cases h0:h.aN i=0
 .rw [h0] at d0
  by_cases hr:16<=i/\h.n.rw=0
  .have z:(WM.bind (iN x.c.ask x.n) fun e0=>qi x.c.ask x.n (h.dF (e0:Int)) i) st=m0:=((if_pos h0).trans (if_pos hr)).symm.trans C
   have n0:16<=(i:Int):=U
   have ht:=oU x hc hn w S st _ (Hs.o.t00 (aG x S st*(al S*(aP j h*F))));obtain ⟨⟨r1,bH⟩,L⟩:∃ p,iN x.c.ask x.n st=p:=⟨_,rfl⟩
   rw [L] at ht;rw [hr.2] at g0
   cases r1 with
   | bad cN=>
    have t:=ae ((WM.bd L).symm.trans z);clear C z h0 hr L
    go_in
    go_wp2_with fail
    (with_reducible apply d0.mono)
    rintro e w2 ⟨rfl,rfl⟩
    go_wp2_with fail
    (with_reducible apply ht.mono)
    rintro e w2 ⟨y,hS,d2,rfl,h2⟩
    go_wp2_with fail
    exact ⟨rfl,HQ.o _ _ (by rw [<- t.o];exact ⟨y,h,hS,d2,rfl,h2.u00⟩)⟩
   | ok e0=>
    have t:=ae ((WM.aW L).symm.trans z);clear C z h0 hr L
    go_in
    go_wp2_with fail
    (with_reducible apply d0.mono)
    rintro e w2 ⟨rfl,rfl⟩
    go_wp2_with fail
    (with_reducible apply ht.mono)
    rintro e w2 ⟨y,v,hS,d2,rfl,h2⟩;obtain ⟨rfl,h3⟩:=ag.aq.1 h2;have h4:=h3.t00 (aP j h*(aG x y bH*(al y*F)));have r0:=(de h4 (j:=20) De0).1;have s0:=(de h4 (j:=20) De0).2;generalize h.l.getD 20 0=F0 at *;have h5:=kI (h':=h.dF (e0:Int)) h4 (j:=20) (z:=(e0:Int)) Hf.o (Hd.Gp Hf.o _);have d5:=d2.setCell ⟨j,20,R⟩ (Z Y (e0:Int));have f0:=oU x hc hn _ y bH _ (h5.t00 (aG x y bH*(al y*(aP j (h.dF (e0:Int))*F))));have c0:=ae f0;clear h2 h3 h4 ht f0 g0
    go_wp2_with fail
    generalize w2.setCell ⟨j,20,R⟩ (Z Y (e0:Int))=w3 at *;clear h5;apply c0.o.mono;generalize h.dF (e0:Int)=hk at *;obtain ⟨⟨r6,j0⟩,r⟩:∃ p,iN x.c.ask x.n bH=p:=⟨_,rfl⟩
    rw [r]
    cases r6 with
    | bad cN=>
     have T:=ae ((WM.bd r).symm.trans t.o);rintro e w6 ⟨o,b0,d6,rfl,u⟩;clear c0 r
     go_wp2_with fail
     exact ⟨rfl,HQ.o _ _ (by rw [<- T.o];exact ⟨o,hk,hS.trans b0,d5.trans d6,rfl,u.u00⟩)⟩
    | ok b=>
     have T:=ae ((WM.aW r).symm.trans t.o);rintro e w6 ⟨o,v6,b0,d6,rfl,u⟩;obtain ⟨rfl,h7⟩:=ag.aq.1 u;have i0:=ri w6 j hk _ (h7.t00 (aP j hk*(aG x o j0*(al o*F)))) i hi (b:Int);clear c0 r u h7
     go_wp2_with fail
     (with_reducible apply i0.mono)
     rintro e w7 ⟨rfl,h8,d8⟩
     go_wp2_with fail
     have hB:=oR 480 De0 h8.drew;have D9:=ae ((((d5.trans d6).trans d8).drew).alloc (W (ed (zs 480)) 5 (0,0)));have HB:=ae hB;clear h8 hB
     go_region_held3 (fun _=>True) (trivial) (fail)
     all_goals
      go_wp2_with fail
      exact HQ.o _ _ (by rw [<- T.o];exact ⟨o,_,hS.trans b0,D9.o,bg 480,rfl,HB.o⟩)
  .have z:qi x.c.ask x.n h i st=m0:=((if_pos h0).trans (if_neg hr)).symm.trans C
   have t:=ae z;have f0:=oU x hc hn w S st _ (Hs.o.t00 (aG x S st*(al S*(aP j h*F))));have c0:=ae f0;obtain ⟨bb,k0⟩:=Mn0 (decide (16<=(i:Int)))
   cases bb with
   | false=>
    have n0:¬ 16<=(i:Int):=by simpa using k0
    clear C z h0 hr f0 k0
    go_in
    go_wp2_with fail
    (with_reducible apply d0.mono)
    rintro e w2 ⟨rfl,rfl⟩
    go_wp2_with fail
    apply c0.o.mono;obtain ⟨⟨r6,j0⟩,r⟩:∃ p,iN x.c.ask x.n st=p:=⟨_,rfl⟩
    rw [r]
    cases r6 with
    | bad cN=>
     have T:=ae ((WM.bd r).symm.trans t.o);rintro e w6 ⟨o,b0,d6,rfl,u⟩;clear c0 r
     go_wp2_with fail
     exact ⟨rfl,HQ.o _ _ (by rw [<- T.o];exact ⟨o,h,b0,d6,rfl,u.u00⟩)⟩
    | ok b=>
     have T:=ae ((WM.aW r).symm.trans t.o);rintro e w6 ⟨o,v6,b0,d6,rfl,u⟩;obtain ⟨rfl,h7⟩:=ag.aq.1 u;have i0:=ri w6 j h _ (h7.t00 (aP j h*(aG x o j0*(al o*F)))) i hi (b:Int);clear c0 r u h7
     go_wp2_with fail
     (with_reducible apply i0.mono)
     rintro e w7 ⟨rfl,h8,d8⟩
     go_wp2_with fail
     have hB:=oR 480 De0 h8.drew;have D9:=ae (((d6.trans d8).drew).alloc (W (ed (zs 480)) 5 (0,0)));have HB:=ae hB;clear h8 hB
     go_region_held3 (fun _=>True) (trivial) (fail)
     all_goals
      go_wp2_with fail
      exact HQ.o _ _ (by rw [<- T.o];exact ⟨o,_,b0,D9.o,bg 480,rfl,HB.o⟩)
   | true=>
    have n0:16<=(i:Int):=by simpa using k0
    have D0:(h.n.rw == 0)=H:=by simp only [beq_eq_false_iff_ne];intro h9;exact hr ⟨U,h9⟩
    clear C z h0 hr f0 k0;generalize h.n.rw=yK at *
    go_in
    go_wp2_with fail
    (with_reducible apply d0.mono)
    rintro e w2 ⟨rfl,rfl⟩
    go_wp2_with fail
    apply c0.o.mono;obtain ⟨⟨r6,j0⟩,r⟩:∃ p,iN x.c.ask x.n st=p:=⟨_,rfl⟩
    rw [r]
    cases r6 with
    | bad cN=>
     have T:=ae ((WM.bd r).symm.trans t.o);rintro e w6 ⟨o,b0,d6,rfl,u⟩;clear c0 r
     go_wp2_with fail
     exact ⟨rfl,HQ.o _ _ (by rw [<- T.o];exact ⟨o,h,b0,d6,rfl,u.u00⟩)⟩
    | ok b=>
     have T:=ae ((WM.aW r).symm.trans t.o);rintro e w6 ⟨o,v6,b0,d6,rfl,u⟩;obtain ⟨rfl,h7⟩:=ag.aq.1 u;have i0:=ri w6 j h _ (h7.t00 (aP j h*(aG x o j0*(al o*F)))) i hi (b:Int);clear c0 r u h7
     go_wp2_with fail
     (with_reducible apply i0.mono)
     rintro e w7 ⟨rfl,h8,d8⟩
     go_wp2_with fail
     have hB:=oR 480 De0 h8.drew;have D9:=ae (((d6.trans d8).drew).alloc (W (ed (zs 480)) 5 (0,0)));have HB:=ae hB;clear h8 hB
     go_region_held3 (fun _=>True) (trivial) (fail)
     all_goals
      go_wp2_with fail
      exact HQ.o _ _ (by rw [<- T.o];exact ⟨o,_,b0,D9.o,bg 480,rfl,HB.o⟩)
 .have h1:(h.aN i != 0)=Q:=by simpa using h0
  cases wh with
  | true=>
   have t:=ae (((if_neg h0).trans (if_pos rfl)).symm.trans C);have hB:=oR 480 De0 Hs.o.drew;have D9:=ae (((aj.refl w).drew).alloc (W (ed (zs 480)) 5 (0,0)));have HB:=ae hB;clear C h0 hB g0;generalize h.aN i=o0 at *
   go_in
   go_wp2_with fail
   (with_reducible apply d0.mono)
   rintro e w2 ⟨rfl,rfl⟩
   go_wp2_with fail
   go_region_held3 (fun _=>True) (trivial) (fail)
   all_goals
    go_wp2_with fail
    exact HQ.o _ _ (by rw [<- t.o];exact ⟨S,_,Ext.refl S,D9.o,bg 480,rfl,HB.o⟩)
  | false=>
   have z:=((if_neg h0).trans (if_neg De0)).symm.trans C;have l0:=lT x hc w S st (h.aN i) _ (Hs.o.t00 (aG x S st*(al S*(aP j h*F))));obtain ⟨⟨r1,bH⟩,L⟩:∃ p,cZ x.c.ask (h.aN i) st=p:=⟨_,rfl⟩
   rw [L] at l0
   cases r1 with
   | bad cN=>
    have t:=ae ((WM.bd L).symm.trans z);clear C z h0 L g0;generalize h.aN i=o0 at *
    go_in
    go_wp2_with fail
    (with_reducible apply d0.mono)
    rintro e w2 ⟨rfl,rfl⟩
    go_wp2_with fail
    (with_reducible apply l0.mono)
    rintro e w2 ⟨y,hS,d2,rfl,h2⟩
    go_wp2_with fail
    exact ⟨rfl,HQ.o _ _ (by rw [<- t.o];exact ⟨y,h,hS,d2,rfl,h2.u00⟩)⟩
   | ok p0=>
    have t:=ae ((WM.aW L).symm.trans z);have HL:=ae (iW L);clear C z h0 L g0;generalize h.aN i=o0 at *
    go_in
    go_wp2_with fail
    (with_reducible apply d0.mono)
    rintro e w2 ⟨rfl,rfl⟩
    go_wp2_with fail
    (with_reducible apply l0.mono)
    rintro e w2 ⟨y,v,hS,d2,rfl,h2⟩;unfold gX at h2;have h3:=ae (h2.t00 (bs 5 v p0*(aP j h*(aG x y bH*(al y*F)))));obtain ⟨va,vc,rfl⟩:=aC h2;clear h2 l0
    go_wp2_with fail
    exact HQ.o _ _ (by rw [<- t.o];exact ⟨y,_,hS,d2,HL.o,rfl,h3.o⟩)
end
end Go.Proofs.Fs
namespace Go.SL
open RowKit
section
variable {σ:Type}
def Aq (f:Nat->Hd->WM σ Hd) (done off l:Nat) (d:List UInt8) (p:Hd × Int × List UInt8):WM σ Hd:=
 WM.bind (cS p.2.1 (putAt p.2.2 ((off+done)%480) ((d.drop done).take l))) fun _=>f (done+l) p.1
def yH (ask:cL σ) (n off:Nat) (d:List UInt8):Nat->Nat->Hd->WM σ Hd
 | 0,_,h=>WM.pure h
 | f+1,done,h=>fun st=>
  if done<d.length then (WM.bind (nj ask n h ((off+done)/480) (iJ (d.length-done) (off+done) == 480)) (Aq (yH ask n off d f) done off (iJ (d.length-done) (off+done)) d)) st else (.ok h,st)
def IX (off:Nat) (d:List UInt8) (h:Hd):WM σ Unit:=dR (h.cP (max h.n.sz ((off+d.length:Nat):Int)))
def Ga (ask:cL σ) (n:Nat) (off:Int) (d:List UInt8) (h:Hd):WM σ Unit:=fun st=>
 if 0<=off/\d.length<=4096/\off<=122880-d.length then (if d.length=0 then (.ok (),st) else (WM.bind (yH ask n off.toNat d d.length 0 h) (IX off.toNat d)) st) else (.bad 1,st)
def gF (ask:cL σ) (n:Nat) (node off:Int) (d:List UInt8):WM σ Unit:=WM.bind (fZ ask n node) (Ga ask n off d)
def pL {α β:Type} {m e:WM σ α} {k:α->WM σ β} {st j:eG σ} (h:m st=e j):(WM.bind m k) st=(WM.bind e k) j:=by unfold WM.bind;rw [h]
def OR {ask:cL σ} {h:Hd} {n off f done:Nat} {d:List UInt8} (e:d.length<=done) (st:eG σ):yH ask n off d f done h st=(.ok h,st):=by
 cases f with
 | zero=>rfl
 | succ f=>exact if_neg U
def VK {ask:cL σ} {h:Hd} {n off f done:Nat} {d:List UInt8} (j:done<d.length) {st e:eG σ} {c:Int}
  (hr:nj ask n h ((off+done)/480) (iJ (d.length-done) (off+done) == 480) st=(.bad c,e)):yH ask n off d (f+1) done h st=(.bad c,e):=(if_pos j).trans (WM.bd hr)
def UD {ask:cL σ} {h:Hd} {n off f done:Nat} {d:List UInt8} (j:done<d.length) {st e:eG σ} {p:Hd × Int × List UInt8}
  (hr:nj ask n h ((off+done)/480) (iJ (d.length-done) (off+done) == 480) st=(.ok p,e)):yH ask n off d (f+1) done h st=Aq (yH ask n off d f) done off (iJ (d.length-done) (off+done)) d p e:=(if_pos j).trans (WM.aW hr)
end
end Go.SL
namespace Go.Proofs.Fs
open RowKit SL Proofs.Ba
section
variable {σ α:Type}
def ON (b:Nat) (v:Value):ai:=pt b (W #[v] 23 (0,0))
def Vo (x:Wk σ) (o off:Nat) (d:List UInt8) (S:Hp) (F:ai) (w:D) (T:Rs Unit × eG σ) (u:Value) (wr:D):Prop:=
 ∃ (done f:Nat) (h:Hd) (j:eG σ) (e:Hp),done<=d.length/\d.length-done<=f/\u = Z Y (done:Int)/\(WM.bind (yH x.c.ask x.n off d f done h) (IX off d)) j=T/\Ext S e/\aj w wr /\
  ag wr (aP o h*(aG x e j*(al e*F)))
def Bh {c:Cx σ} (hc:c.Ok) {n:Nat} (hn:n<=3840) (node off:Int) (l:List UInt8) (va:Option Addr) (C:Nat) (k0:ai) (hD:∀ y P,ag y (k0*P)->Rd y (G va l.length C) l) (t1:l.length<=C) (s1:l.length<=1000000000000) (nb ob db:Nat) :
  Cu c n 92 #[J (X ⟨nb,0,R⟩),J (X ⟨ob,0,R⟩),J (X ⟨db,0,R⟩)] jo (bf nb node*(bf ob off*(ON db (G va l.length C)*k0))) (gF c.ask n node off l):=by
 intro x w q0 st n0 A1 B1 h;subst A1 B1;have cn:w.cell? ⟨nb,0,R⟩=X (Z Y node):=(h.t00 (bf nb node*((bf ob off*(ON db (G va l.length C)*k0))*(aG x q0 st*(al q0*n0))))).cell 0;show Calls O 92 #[J (X ⟨x.k,0,R⟩),J (X ⟨nb,0,R⟩),J (X ⟨ob,0,R⟩),J (X ⟨db,0,R⟩)] w _
 refine aF fun L1 HQ=>?_;have hl:=jV x hc w q0 st node _ h;obtain ⟨⟨r,bH⟩,hp⟩:∃ p,fZ x.c.ask x.n node st=p:=⟨_,rfl⟩
 rw [hp] at hl;clear h;obtain ⟨F,hG⟩:=Mn0 (bf nb node*(bf ob off*(ON db (G va l.length C)*k0))*n0)
 rw [<- hG] at hl HQ;have HG:=ae hG
 cases r with
 | bad cN=>
  have HE:=ae (show gF x.c.ask x.n node off l st=(.bad cN,bH) from WM.bd hp);clear hp hG
  go_in
  go_wp2_with fail
  (with_reducible apply hl.mono)
  rintro e T ⟨t,hS,d2,rfl,h2⟩
  go_wp2_with fail
  exact ⟨rfl,HQ.o _ _ (by rw [HE.o];exact ⟨t,hS,d2,rfl,h2⟩)⟩
 | ok hh=>
  obtain ⟨e0,hT⟩:=Nm (Ga x.c.ask x.n off l hh bH)
  have HE:=ae (show gF x.c.ask x.n node off l st=e0 from (WM.aW hp).trans hT);have HT:=ae hT;clear hp hG hT
  have sO:∀ y P,ag y (P*F)->y.cell? ⟨ob,0,R⟩=X (Z Y off):=fun y P hW=>by
   rw [HG.o] at hW;exact (hW.t00 (bf ob off*(bf nb node*(ON db (G va l.length C)*(k0*(n0*P)))))).cell 0
  have sB:∀ y P,ag y (P*F)->y.cell? ⟨db,0,R⟩=X (G va l.length C):=fun y P hW=>by
   rw [HG.o] at hW;exact (hW.t00 (ON db (G va l.length C)*(bf nb node*(bf ob off*(k0*(n0*P)))))).cell 0
  have sR:∀ y P,ag y (P*F)->Rd y (G va l.length C) l:=fun y P hW=>by
   rw [HG.o] at hW;exact hD y _ (hW.t00 (k0*(ON db (G va l.length C)*(bf nb node*(bf ob off*(n0*P))))))
  have SO:=ae sO;have SB:=ae sB;have SR:=ae sR;clear sO sB sR;have g1:Hid (∃ m,l.length=m):=⟨_,rfl⟩
  obtain ⟨m,hm⟩:=g1.o;rw [hm] at SB SR t1 s1;have z:=ae hm;clear hm g1 hD
  go_in
  go_wp2_with fail
  (with_reducible apply hl.mono)
  rintro e T ⟨t,v,hS,d2,rfl,h2⟩;obtain ⟨j,rfl,h3⟩:=ag.pK h2;have h4:ag T (aP j hh*(aG x t bH*(al t*F))):=h3.u00;have co:=SO.o T (aP j hh*(aG x t bH*al t)) (h4.u00);have cb:=SB.o T (aP j hh*(aG x t bH*al t)) (h4.u00);have H4:=ae h4;clear h2 h3 hl cn h4;have M1:(m:Int)<=1000000000000:=U
  by_cases S:0<=off/\l.length<=4096/\off<=122880-(l.length:Int)
  .obtain ⟨z0,z1,z2⟩:=S
   obtain ⟨o,rfl⟩:∃ o:Nat,off=(o:Int):=⟨off.toNat,U⟩
   by_cases h0:m=0
   .subst h0
    have d0:Hid (e0=(.ok (),bH)):=by rw [<- HT.o];exact (if_pos ⟨z0,z1,z2⟩).trans (if_pos z.o)
    rw [z.o] at z2;have z3:(o:Int)<=122880:=U
    clear z1 z2 HT
    go_wp2_with fail
    (with_reducible apply (gH T).mono)
    rintro e w3 ⟨rfl,rfl⟩
    go_wp2_with fail
    go_end0
    exact HQ.o _ _ (by rw [HE.o,d0.o];exact ⟨t,_,hS,d2,rfl,ag.aq.2 ⟨rfl,(H4.o).right⟩⟩)
   .have k1:(WM.bind (yH x.c.ask x.n o l l.length 0 hh) (IX o l)) bH=e0:=by
     rw [<- HT.o];exact ((if_pos ⟨z0,z1,z2⟩).trans (if_neg (by rw [z.o];exact h0))).symm
    have d0:=ae k1;rw [z.o] at z1 z2;have c2:(m:Int)<=4096:=U
    have e2:(o:Int)+(m:Int)<=122880:=U
    have z3:(o:Int)<=122880-(m:Int):=U
    have S1:((m:Int) == 0)=H:=by simpa using h0
    clear k1 HT z2
    go_wp2_with fail
    (with_reducible apply (gH T).mono)
    rintro e w3 ⟨rfl,rfl⟩;have T1:(m:Int)≠0:=U
    clear co cb;have cb:T.cell? ⟨db,0,R⟩=X (G va m C):=SB.o T (aP j hh*(aG x t bH*al t)) (H4.o.u00)
    go_wp2_with fail
    clear cb
    go_loopw [6] (fun K0 wr=>Vo x j o l q0 F w e0 K0 wr) (fun K0 _=>m-(intOf K0).toNat)
    case atStart=>exact ⟨0,l.length,hh,bH,t,Nat.zero_le _,A3 _,rfl,d0.o,hS,d2,H4.o⟩
    case round=>
     obtain ⟨done,f,h,b0,Sk,u1,hf,rfl,l1,j1,dk,f0⟩:=hrel;have L0:=ae l1;have p0:=ae j1;clear H4 d0 l1 j1;rw [z.o] at u1 hf;have co:=SO.o wr (aP j h*(aG x Sk b0*al Sk)) (f0.u00);have cb:=SB.o wr (aP j h*(aG x Sk b0*al Sk)) (f0.u00)
     by_cases w1:done<m
     .have x1:(done:Int)<(m:Int):=U
      obtain ⟨f',rfl⟩:∃ f',f=f'+1:=⟨f-1,U⟩
      have hA:done<l.length:=by rw [z.o];exact w1
      obtain ⟨k,hk⟩:=Nm (iJ (l.length-done) (o+done))
      have W0:k=min (m-done) (480-(o+done)%480):=by rw [<- hk,z.o];rfl
      obtain ⟨q,hq⟩:=Nm ((o+done)/480)
      obtain ⟨r,hr⟩:=Nm ((o+done)%480)
      have y1:q<256:=U
      have W1:r<480:=U
      rw [hr] at W0;have N1:1<=k:=U
      have O1:done+k<=m:=U
      have R1:r+k<=480:=U
      have V1:((o:Int)+(done:Int)).tdiv 480=(q:Int):=by rw [Int.tdiv_eq_ediv_of_nonneg U];omega
      have X1:((o:Int)+(done:Int)).tmod 480=(r:Int):=by rw [Int.tmod_eq_emod_of_nonneg U];omega
      have U1:(if (480:Int)-(r:Int)<((m-done:Nat):Int) then (480:Int)-(r:Int) else ((m-done:Nat):Int))=(k:Int):=by split <;> omega
      have Y1:(m:Int)-(done:Int)=((m-done:Nat):Int):=U
      have x0:=lY x hc hn wr Sk b0 j h q (k == 480) F y1 f0;obtain ⟨⟨r2,j0⟩,F0⟩:∃ p,nj x.c.ask x.n h q (k == 480) b0=p:=⟨_,rfl⟩
      rw [F0] at x0;have g0:nj x.c.ask x.n h ((o+done)/480) (iJ (l.length-done) (o+done) == 480) b0=(r2,j0):=by rw [hq,hk];exact F0
      have Z0:((k:Int) == 480)=(k == 480):=by
       by_cases h9:k=480
       .subst h9;rfl
       .rw [beq_eq_false_iff_ne.2 h9,beq_eq_false_iff_ne.2 U]
      have D0:=x0;rw [<- Z0] at D0
      cases r2 with
      | bad cN=>
       have HN:=ae ((WM.bd (VK hA g0)).symm.trans L0.o);clear F0 g0 W0 hq hr hk x0 Z0
       go_wp2_with fail
       (with_reducible apply D0.mono)
       rintro e w4 ⟨S2,h',s0,d4,rfl,h6⟩
       go_wp2_with fail
       exact ⟨rfl,HQ.o _ _ (by rw [HE.o,<- HN.o];exact ⟨S2,p0.o.trans s0,dk.trans d4,rfl,h6.right⟩)⟩
      | ok p=>
       obtain ⟨h',b,L⟩:=p
       have o0:=ae (show (WM.bind (Aq (yH x.c.ask x.n o l f') done o k l (h',b,L)) (IX o l)) j0=e0 from by
        rw [<- hk];exact (pL (UD hA g0)).symm.trans L0.o)
       clear F0 g0 W0 hq hk x0 Z0
       go_wp2_with fail
       (with_reducible apply D0.mono)
       rintro e w4 ⟨S2,v4,s0,d4,hL,rfl,h6⟩;dsimp only at hL h6 ⊢;have HL:=ae hL;obtain ⟨ga,ca,R0,rfl,a1,a2,a3,a4,a5,a6⟩:=oQ h6 (by rw [hL];decide);have rd:=(SR.o w4 (bs 5 (G (X ⟨ga,0,R⟩) L.length ca) L*(aP j h'*(aG x S2 j0*al S2))) (h6.u00))
       obtain ⟨-,(⟨-,h9⟩|⟨E1,c',e,ha⟩)⟩:=rd
       .exact absurd h9 (by rw [z.o];omega)
       simp only [Value.slice.injEq] at e;obtain ⟨rfl,-,rfl⟩:=e;obtain ⟨part,G0⟩:=Nm ((l.drop done).take k)
       have i0:part.length=k:=by rw [<- G0,E5,J4,z.o];omega
       have h7:=(a6 r part (by rw [i0,hL];omega)).1
       have u0:=fun ty=>run_copy_row (P:=O) w4 23 23 ty 5 ga r (480-r) (ca-r) (E1.add done) k (C-done) R0 5 (part.map SL.u8) underlying23 B9 a4
        (by rw [H7,i0];exact (Nat.min_eq_left U).symm)
        (fun o1 v hv=>by
         have hj:o1<k:=by rw [<- i0];simpa using (List.getElem?_eq_some_iff.1 hv).1
         rw [Addr.add_add];refine ha (done+o1) v ?_;rw [<- hv,<- G0,List.getElem?_map,List.getElem?_map,H6,if_pos hj,H5])
        (by rw [H7,i0,a3];omega) (se _)
       rw [H7,i0] at u0;obtain ⟨RW,r0⟩:=Mn0 ((R0.toList.take r++part.map SL.u8++R0.toList.drop (r+(part.map SL.u8).length)).toArray)
       rw [<- r0] at h7;rw [H7,i0] at r0;rw [<- r0] at u0;have f1:=ae u0;have m1:=h7.oa;have m0:=mh x _ S2 j0 b _ (putAt L r part) _ (h7.t00 (aG x S2 j0*(al S2*(bs 5 (G (X ⟨ga,0,R⟩) L.length ca) (putAt L r part)*(aP j h'*F))))) m1;obtain ⟨⟨r3,c1⟩,g0⟩:∃ p,cS b (putAt L r part) j0=p:=⟨_,rfl⟩
       have hK:∀ p,cS b (putAt L r part) j0=p->Aq (yH x.c.ask x.n o l f') done o k l (h',b,L) j0=match p with|(.ok _,b1)=>yH x.c.ask x.n o l f' (done+k) h' b1|(.bad c,b1)=>(.bad c,b1):=by
        intro p hp;unfold Aq WM.bind;dsimp only;rw [hr,G0,hp]
        cases p with
        | mk a c=>cases a <;> rfl
       have i1:=hK _ g0;rw [g0] at m0;have v1:(putAt L r part).length=480:=by rw [gv (by rw [i0,HL.o];omega)];exact HL.o
       rw [HL.o] at m0 a1 ⊢;have p1:=ae m0;have D5:=ae ((dk.trans d4).setRow ga RW);clear D0 h6 h7 u0 r0 m1 m0 ha a2 a3 a4 a5 a6 hK g0 hL i0 G0 hr v1 cb
       go_wp2_with (refine fD (f1.o _) _ _ rfl rfl rfl rfl rfl ?_)
       generalize w4.setRow ga RW=w5 at *;clear f1;apply p1.o.mono
       cases r3 with
       | bad cN=>
        have HN:=ae ((WM.bd i1).symm.trans o0.o);rintro e w6 ⟨u,l0,d6,rfl,h8⟩
        go_wp2_with fail
        exact ⟨rfl,HQ.o _ _ (by rw [HE.o,<- HN.o];exact ⟨u,(p0.o.trans s0).trans l0,D5.o.trans d6,rfl,(h8.t00 ((bs 5 (G (X ⟨ga,0,R⟩) 480 ca) (putAt L r part)*aP j h')*(aG x u c1*(al u*F)))).right⟩)⟩
       | ok K0=>
        have HN:=ae ((pL i1).symm.trans o0.o);rintro e w6 ⟨u,v6,l0,d6,rfl,h8⟩;obtain ⟨rfl,h9⟩:=ag.aq.1 h8;clear h8
        go_wp2_with fail
        go_roundw
        case rel=>exact ⟨done+k,f',h',c1,u,by rw [z.o];omega,by rw [z.o];omega,by go_num,HN.o,(p0.o.trans s0).trans l0,D5.o.trans d6,(h9.t00 (bs 5 (G (X ⟨ga,0,R⟩) 480 ca) (putAt L r part)*(aP j h'*(aG x u c1*(al u*F))))).right⟩
        case measure=>simp [intOf];omega
     .obtain rfl:done=m:=U
      have o0:=ae (show IX o l h b0=e0 from (WM.aW (OR (by rw [z.o];exact A3 _) b0)).symm.trans L0.o);have hf:=ag.zd f0;have c3:=(de f0 (j:=3) De0).1;have f3:=(de f0 (j:=3) De0).2;rw [show h.l.getD 3 0=h.n.sz from rfl] at c3;obtain ⟨c0,S⟩:=Nm (max h.n.sz ((o+l.length:Nat):Int))
      have S0:=(kI (h':=h.cP c0) f0 (j:=3) (z:=c0) hf rfl).drew;have e1:=ae (dk.setCell ⟨j,3,R⟩ (Z Y c0)).drew;have Y0:=jW x _ Sk b0 j (h.cP c0) _ S0;obtain ⟨⟨r6,d1⟩,X0⟩:∃ p,dR (h.cP c0) b0=p:=⟨_,rfl⟩
      rw [X0] at Y0;have HN:=ae (show (r6,d1)=e0 by rw [<- o0.o,<- X0,<- S];rfl);have m0:IntKind.i64.wrap ((o:Int)+(done:Int))=(o:Int)+(done:Int):=by rw [IntKind.wrap_i64];omega
      have H0:(if h.n.sz<IntKind.i64.wrap ((o:Int)+(done:Int)) then IntKind.i64.wrap ((o:Int)+(done:Int)) else h.n.sz)=c0:=by rw [m0,<- S,z.o];split <;> omega
      have q1:=ae H0;have h1:=ae Y0;have K1:=ae S0;have x1:¬ (done:Int)<(done:Int):=U
      clear hf S0 Y0 X0 S f0 o0 m0 H0;generalize h.n.sz=sz at *
      go_wp2_with fail
      go_region_law (fail)
      all_goals
       rw [q1.o];generalize (wr.setCell ⟨j,3,R⟩ (Z Y c0)).drew=b2 at *
       cases r6 with
       | bad cN=>
        go_wp2_with fail
        apply h1.o.mono;rintro e H1 ⟨u,l0,d6,rfl,T0⟩
        go_wp2_with fail
        exact ⟨rfl,HQ.o _ _ (by rw [HE.o,<- HN.o];exact ⟨u,p0.o.trans l0,e1.o.trans d6,rfl,(T0.t00 (aP j (h.cP c0)*(aG x u d1*(al u*F)))).right⟩)⟩
       | ok u6=>
        go_wp2_with fail
        apply h1.o.mono;rintro e H1 ⟨u,v6,l0,d6,rfl,T0⟩;obtain ⟨rfl,r1⟩:=ag.aq.1 T0
        go_wp2_with fail
        go_end0
        exact HQ.o _ _ (by rw [HE.o,<- HN.o];exact ⟨u,_,p0.o.trans l0,e1.o.trans d6,rfl,ag.aq.2 ⟨rfl,(r1.t00 (aP j (h.cP c0)*(aG x u d1*(al u*F)))).right⟩⟩)
  .have hT:e0=(.bad 1,bH):=by rw [<- HT.o];exact if_neg S
   have d0:=ae hT;rw [z.o] at S;clear hT HT
   by_cases D1:0<=off
   .by_cases H0:(m:Int)<=4096
    .have n1:¬ off<=122880-(m:Int):=fun h9=>S ⟨D1,U,h9⟩
     have Z1:decide (off<=122880-(m:Int))=H:=decide_eq_false n1;clear S n1
     go_wp2_with fail
     (with_reducible apply (gQ T).mono)
     rintro e w4 ⟨rfl,rfl⟩
     go_wp2_with fail
     exact ⟨rfl,HQ.o _ _ (by rw [HE.o,d0.o];exact ⟨t,hS,d2,rfl,H4.o.right⟩)⟩
    .clear S
     go_wp2_with fail
     (with_reducible apply (gQ T).mono)
     rintro e w4 ⟨rfl,rfl⟩
     go_wp2_with fail
     exact ⟨rfl,HQ.o _ _ (by rw [HE.o,d0.o];exact ⟨t,hS,d2,rfl,H4.o.right⟩)⟩
   .have H0:off<0:=U
    clear S
    go_wp2_with fail
    (with_reducible apply (gQ T).mono)
    rintro e w4 ⟨rfl,rfl⟩
    go_wp2_with fail
    exact ⟨rfl,HQ.o _ _ (by rw [HE.o,d0.o];exact ⟨t,hS,d2,rfl,H4.o.right⟩)⟩
end
section
variable {σ α:Type}
abbrev cH (e n:Nat):Obj:=W #[J (X ⟨e,0,R⟩),Z Y (n:Int)] 76 (0,0)
def P1:Value:=.agg #[Z Y 0,Z Y 0,Z Y 0,Z Y 0,Z Y 0,Z Y 0,Z Y 0,Z Y 0,Z Y 0,Z Y 0,Z Y 0,Z Y 0,Z Y 0,Z Y 0,Z Y 0,Z Y 0,Z Y 0,Z Y 0,Z Y 0,Z Y 0]
def Wp:Rs Nat->Value
 | .ok a=>Z Y (a:Int)
 | .bad _=>Z Y 0
def Ub (c:Cx σ) (r:Nat) (S:Hp) (F:ai) (w:D) (p:Rs Nat × gD σ) (e:Ending) (o:D):Prop:=
 ∃ j,Ext S j/\aj w o/\e = .returned (.tuple #[Wp p.1,Z Y p.1.code])/\ag o (dG c j r p.2*(al j*F))
def JG (c:Cx σ) (z:c.Ok) (n:Nat) (b0:4<=n) (c0:n<=3840) (e:Nat) (M:gD σ) (w:D) (S:Hp)  (F:ai) (h:ag w (dG c S e M*(al S*(F)))) :
  Calls O 62 #[fI e n] w (Ld c e S F w (dM (ji c.ask) M)):=by
 refine aF fun d0 t=>?_;obtain ⟨p,C⟩:=Nm (dM (ji c.ask) M)
 rw [C] at t;have f0:=nH O;have o:=fun  w F h=>vg c z n b0 c0 118 #[] (emp) (ji c.ask) (fun L w=>enters func118 Kr0 rfl L w) (Di z) e M w S F h;rw [C] at o;have u:=ae o;have x:=(h.alloc (cH e n))
 have dA:=((aj.refl w).alloc (cH e n))
 have y:ag (w.alloc (cH e n)) (dG c S e M*(al S*((emp)*(pt w.heap.size (cH e n)*F)))):=(ag.mu x).to (by unfold cH;ac_rfl);have r:=ae y;clear x y o h;unfold fI
 go_in
 go_wp2_with fail
 refine u.o _ _ r.o _ ?_;clear u r;generalize g0:(w.alloc (cH e n))=w1 at *;generalize w.heap.size=T at *;rintro e0 w2 ⟨j,hS,d2,rfl,v⟩;have h3:=ae (v.t00 (((emp*pt T (cH e n)))*(dG c j e p.2*(al j*F)))).right;clear v
 go_wp2_with fail
 try go_ret
 exact t.o _ _ ⟨j,hS,dA.trans d2,rfl,h3.o⟩
def QP (c:Cx σ) (hc:c.Ok) (n:Nat) (e0:4<=n) (b0:n<=3840) (e:Nat) (M:gD σ) (w:D) (S:Hp)  (F:ai) (h:ag w (dG c S e M*(al S*(F)))) :
  Calls O 40 #[fI e n] w (Ub c e S F w (dM (pO c.ask n) M)):=by
 refine aF fun g0 r=>?_;obtain ⟨p,hp⟩:=Nm (dM (pO c.ask n) M)
 rw [hp] at r;have i0:=nH O;have y:=fun  w F h=>Bj c hc n e0 b0 85 #[] (emp) (pO c.ask n) (fun c0 w=>enters func85 Kr0 rfl c0 w) (NQ hc b0) e M w S F h;rw [hp] at y;have C:=ae y;have hA:=(h.alloc (cH e n))
 have dA:=((aj.refl w).alloc (cH e n))
 have hB:ag (w.alloc (cH e n)) (dG c S e M*(al S*((emp)*(pt w.heap.size (cH e n)*F)))):=(ag.mu hA).to (by unfold cH;ac_rfl);have z:=ae hB;clear hA hB y h;unfold fI
 go_in
 go_wp2_with fail
 refine C.o _ _ z.o _ ?_;clear C z;generalize j0:(w.alloc (cH e n))=w1 at *;generalize w.heap.size=T at *;obtain ⟨f0,L⟩:=p
 cases f0 with
 | bad cN=>
  rintro d0 w2 ⟨j,x,t,rfl,o⟩;have u:=ae (o.t00 (((emp*pt T (cH e n)))*(dG c j e L*(al j*F)))).right;clear o
  go_wp2_with fail
  try go_ret
  exact r.o _ _ ⟨j,x,dA.trans t,rfl,u.o⟩
 | ok a=>
  rintro d0 w2 ⟨j,v,x,t,rfl,o⟩;have u:=ae (o.t00 (((emp*pt T (cH e n)))*(CG a v*(dG c j e L*(al j*F))))).right;clear o;obtain ⟨rfl,h4⟩:=ag.aq.1 u.o
  go_wp2_with fail
  try go_ret
  exact r.o _ _ ⟨j,x,dA.trans t,rfl,h4⟩
def Na (c:Cx σ) (hc:c.Ok) (n:Nat) (f0:4<=n) (c0:n<=3840) (e:Nat) (M:gD σ) (w:D) (S:Hp) (kd:Int) (F:ai) (h:ag w (dG c S e M*(al S*(F)))) :
  Calls O 90 #[fI e n,Z Y kd] w (Ub c e S F w (dM (xO c.ask n kd) M)):=by
 refine aF fun i0 r=>?_;obtain ⟨p,hp⟩:=Nm (dM (xO c.ask n kd) M)
 rw [hp] at r;have j0:=nH O;have z:=fun C w F h=>Bj c hc n f0 c0 149 #[J (X ⟨C,0,R⟩)] (bf C kd) (xO c.ask n kd) (fun d0 w=>enters func149 Kr0 rfl d0 w) (Qp hc c0 kd C) e M w S F h;rw [hp] at z;have T:=ae z;have x:=((h.alloc (cH e n)).alloc (W #[Z Y kd] 3 (0,0)))
 have dA:=(((aj.refl w).alloc (cH e n)).alloc (W #[Z Y kd] 3 (0,0)))
 simp only [D6] at x;have hB:ag ((w.alloc (cH e n)).alloc (W #[Z Y kd] 3 (0,0))) (dG c S e M*(al S*((bf (w.heap.size+1) kd)*(pt w.heap.size (cH e n)*F)))):=x.to (by unfold bf;ac_rfl);have L:=ae hB;clear x hB z h;unfold fI
 go_in
 go_wp2_with fail
 refine T.o (w.heap.size+1) _ _ L.o _ ?_;clear T L;generalize k0:((w.alloc (cH e n)).alloc (W #[Z Y kd] 3 (0,0)))=w1 at *;generalize w.heap.size+1=b1 at *;generalize w.heap.size=b0 at *;obtain ⟨g0,M2⟩:=p
 cases g0 with
 | bad cN=>
  rintro e0 w2 ⟨j,y,t,rfl,o⟩;have u:=ae (o.t00 ((pt b0 (cH e n)*bf b1 kd)*(dG c j e M2*(al j*F)))).right;clear o
  go_wp2_with fail
  try go_ret
  exact r.o _ _ ⟨j,y,dA.trans t,rfl,u.o⟩
 | ok a=>
  rintro e0 w2 ⟨j,v,y,t,rfl,o⟩;have u:=ae (o.t00 ((pt b0 (cH e n)*bf b1 kd)*(CG a v*(dG c j e M2*(al j*F))))).right;clear o;obtain ⟨rfl,h4⟩:=ag.aq.1 u.o
  go_wp2_with fail
  try go_ret
  exact r.o _ _ ⟨j,y,dA.trans t,rfl,h4⟩
def PH (c:Cx σ) (C:c.Ok) (n:Nat) (d0:4<=n) (L:n<=3840) (e:Nat) (M:gD σ) (w:D) (S:Hp) (node:Int) (F:ai) (h:ag w (dG c S e M*(al S*(F)))) :
  Calls O 53 #[fI e n,Z Y node] w (Ld c e S F w (dM (rh c.ask n node) M)):=by
 refine aF fun e0 v=>?_;obtain ⟨p,T⟩:=Nm (dM (rh c.ask n node) M)
 rw [T] at v;have g0:=nH O;have r:=fun t w F h=>vg c C n d0 L 103 #[J (X ⟨t,0,R⟩)] (bf t node) (rh c.ask n node) (fun c0 w=>enters func103 Kr0 rfl c0 w) (Ma C L node t) e M w S F h;rw [T] at r;have x:=ae r;have o:=((h.alloc (cH e n)).alloc (W #[Z Y node] 3 (0,0)))
 have dA:=(((aj.refl w).alloc (cH e n)).alloc (W #[Z Y node] 3 (0,0)))
 simp only [D6] at o;have z:ag ((w.alloc (cH e n)).alloc (W #[Z Y node] 3 (0,0))) (dG c S e M*(al S*((bf (w.heap.size+1) node)*(pt w.heap.size (cH e n)*F)))):=o.to (by unfold bf;ac_rfl);have u:=ae z;clear o z r h;unfold fI
 go_in
 go_wp2_with fail
 refine x.o (w.heap.size+1) _ _ u.o _ ?_;clear x u;generalize i0:((w.alloc (cH e n)).alloc (W #[Z Y node] 3 (0,0)))=w1 at *;generalize w.heap.size+1=b1 at *;generalize w.heap.size=b0 at *;rintro f0 w2 ⟨j,hS,d2,rfl,y⟩;have h3:=ae (y.t00 ((pt b0 (cH e n)*bf b1 node)*(dG c j e p.2*(al j*F)))).right;clear y
 go_wp2_with fail
 try go_ret
 exact v.o _ _ ⟨j,hS,dA.trans d2,rfl,h3.o⟩
def Nh (c:Cx σ) (L:c.Ok) (n:Nat) (d0:4<=n) (e0:n<=3840) (e:Nat) (M:gD σ) (w:D) (S:Hp) (node:Int) (d:Int) (F:ai) (h:ag w (dG c S e M*(al S*(F)))) :
  Calls O 49 #[fI e n,Z Y node,Z Y d] w (Ld c e S F w (dM (lq c.ask n node d) M)):=by
 refine aF fun f0 x=>?_;obtain ⟨p,T⟩:=Nm (dM (lq c.ask n node d) M)
 rw [T] at x;have i0:=nH O;have t:=fun u o w F h=>vg c L n d0 e0 101 #[J (X ⟨u,0,R⟩),J (X ⟨o,0,R⟩)] (bf u node*(bf o d)) (lq c.ask n node d) (fun c0 w=>enters func101 Kr0 rfl c0 w) (ID L node d u o) e M w S F h;rw [T] at t;have y:=ae t;have r:=(((h.alloc (cH e n)).alloc (W #[Z Y node] 3 (0,0))).alloc (W #[Z Y d] 3 (0,0)))
 have dA:=((((aj.refl w).alloc (cH e n)).alloc (W #[Z Y node] 3 (0,0))).alloc (W #[Z Y d] 3 (0,0)))
 simp only [D6] at r;have C:ag (((w.alloc (cH e n)).alloc (W #[Z Y node] 3 (0,0))).alloc (W #[Z Y d] 3 (0,0))) (dG c S e M*(al S*((bf (w.heap.size+1) node*(bf (w.heap.size+1+1) d))*(pt w.heap.size (cH e n)*F)))):=r.to (by unfold bf;ac_rfl);have v:=ae C;clear r C t h;unfold fI
 go_in
 go_wp2_with fail
 refine y.o (w.heap.size+1) (w.heap.size+1+1) _ _ v.o _ ?_;clear y v;generalize j0:(((w.alloc (cH e n)).alloc (W #[Z Y node] 3 (0,0))).alloc (W #[Z Y d] 3 (0,0)))=w1 at *;generalize w.heap.size+1+1=b2 at *;generalize w.heap.size+1=b1 at *;generalize w.heap.size=b0 at *;rintro g0 w2 ⟨j,hS,d2,rfl,z⟩;have h3:=ae (z.t00 ((pt b0 (cH e n)*bf b1 node*bf b2 d)*(dG c j e p.2*(al j*F)))).right;clear z
 go_wp2_with fail
 try go_ret
 exact x.o _ _ ⟨j,hS,dA.trans d2,rfl,h3.o⟩
def Mb (c:Cx σ) (T:c.Ok) (n:Nat) (e0:4<=n) (c0:n<=3840) (e:Nat) (M:gD σ) (w:D) (S:Hp) (node:Int) (j:Int) (F:ai) (h:ag w (dG c S e M*(al S*(F)))) :
  Calls O 66 #[fI e n,Z Y node,Z Y j] w (Ld c e S F w (dM (mQ c.ask n node j) M)):=by
 refine aF fun f0 y=>?_;obtain ⟨p,hp⟩:=Nm (dM (mQ c.ask n node j) M)
 rw [hp] at y;have i0:=nH O;have t:=fun u v w F h=>vg c T n e0 c0 122 #[J (X ⟨u,0,R⟩),J (X ⟨v,0,R⟩)] (bf u node*(bf v j)) (mQ c.ask n node j) (fun d0 w=>enters func122 Kr0 rfl d0 w) (IG T c0 node j u v) e M w S F h;rw [hp] at t;have z:=ae t;have r:=(((h.alloc (cH e n)).alloc (W #[Z Y node] 3 (0,0))).alloc (W #[Z Y j] 3 (0,0)))
 have dA:=((((aj.refl w).alloc (cH e n)).alloc (W #[Z Y node] 3 (0,0))).alloc (W #[Z Y j] 3 (0,0)))
 simp only [D6] at r;have L:ag (((w.alloc (cH e n)).alloc (W #[Z Y node] 3 (0,0))).alloc (W #[Z Y j] 3 (0,0))) (dG c S e M*(al S*((bf (w.heap.size+1) node*(bf (w.heap.size+1+1) j))*(pt w.heap.size (cH e n)*F)))):=r.to (by unfold bf;ac_rfl);have x:=ae L;clear r L t h;unfold fI
 go_in
 go_wp2_with fail
 refine z.o (w.heap.size+1) (w.heap.size+1+1) _ _ x.o _ ?_;clear z x;generalize j0:(((w.alloc (cH e n)).alloc (W #[Z Y node] 3 (0,0))).alloc (W #[Z Y j] 3 (0,0)))=w1 at *;generalize w.heap.size+1+1=b2 at *;generalize w.heap.size+1=b1 at *;generalize w.heap.size=b0 at *;rintro g0 w2 ⟨o,hS,d2,rfl,C⟩;have h3:=ae (C.t00 ((pt b0 (cH e n)*bf b1 node*bf b2 j)*(dG c o e p.2*(al o*F)))).right;clear C
 go_wp2_with fail
 try go_ret
 exact y.o _ _ ⟨o,hS,dA.trans d2,rfl,h3.o⟩
def Ik (c:Cx σ) (hc:c.Ok) (n:Nat) (i0:4<=n) (e0:n<=3840) (e:Nat) (M:gD σ) (w:D) (S:Hp) (node:Int) (off:Int) (j:Int) (F:ai) (h:ag w (dG c S e M*(al S*(F)))) :
  Calls O 83 #[fI e n,Z Y node,Z Y off,Z Y j] w (Ay c e (G R 0 0) gX S F w (dM (jI c.ask n node off j) M)):=by
 refine aF fun k0 t=>?_;obtain ⟨p,hp⟩:=Nm (dM (jI c.ask n node off j) M)
 rw [hp] at t;have l0:=nH O;have L:=fun T c0 u w F h=>vf c hc n i0 e0 143 #[J (X ⟨T,0,R⟩),J (X ⟨c0,0,R⟩),J (X ⟨u,0,R⟩)] (bf T node*(bf c0 off*(bf u j))) (jI c.ask n node off j) (fun f0 w=>enters func143 Kr0 rfl f0 w) (ET hc e0 node off j T c0 u) e M w S F h;rw [hp] at L;have d0:=ae L;have z:=((((h.alloc (cH e n)).alloc (W #[Z Y node] 3 (0,0))).alloc (W #[Z Y off] 3 (0,0))).alloc (W #[Z Y j] 3 (0,0)))
 have dA:=(((((aj.refl w).alloc (cH e n)).alloc (W #[Z Y node] 3 (0,0))).alloc (W #[Z Y off] 3 (0,0))).alloc (W #[Z Y j] 3 (0,0)))
 simp only [D6] at z;have hB:ag ((((w.alloc (cH e n)).alloc (W #[Z Y node] 3 (0,0))).alloc (W #[Z Y off] 3 (0,0))).alloc (W #[Z Y j] 3 (0,0))) (dG c S e M*(al S*((bf (w.heap.size+1) node*(bf (w.heap.size+1+1) off*(bf (w.heap.size+1+1+1) j)))*(pt w.heap.size (cH e n)*F)))):=z.to (by unfold bf;ac_rfl);have HB:=ae hB;clear z hB L h;unfold fI
 go_in
 go_wp2_with fail
 refine d0.o (w.heap.size+1) (w.heap.size+1+1) (w.heap.size+1+1+1) _ _ HB.o _ ?_;clear d0 HB;generalize m0:((((w.alloc (cH e n)).alloc (W #[Z Y node] 3 (0,0))).alloc (W #[Z Y off] 3 (0,0))).alloc (W #[Z Y j] 3 (0,0)))=w1 at *;generalize w.heap.size+1+1+1=b3 at *;generalize w.heap.size+1+1=b2 at *;generalize w.heap.size+1=b1 at *;generalize w.heap.size=b0 at *;obtain ⟨j0,M2⟩:=p
 cases j0 with
 | bad cN=>
  rintro g0 w2 ⟨o,C,x,rfl,r⟩;have y:=ae (r.t00 ((pt b0 (cH e n)*bf b1 node*bf b2 off*bf b3 j)*(dG c o e M2*(al o*F)))).right;clear r
  go_wp2_with fail
  try go_ret
  exact t.o _ _ ⟨o,C,dA.trans x,rfl,y.o⟩
 | ok a=>
  rintro g0 w2 ⟨o,v,C,x,rfl,r⟩;have y:=ae (r.t00 ((pt b0 (cH e n)*bf b1 node*bf b2 off*bf b3 j)*(gX a v*(dG c o e M2*(al o*F))))).right;clear r
  go_wp2_with fail
  try go_ret
  exact t.o _ _ ⟨o,v,C,dA.trans x,rfl,y.o⟩
def wN (c:Cx σ) (hc:c.Ok) (n:Nat) (i0:4<=n) (d0:n<=3840) (e:Nat) (M:gD σ) (w:D) (S:Hp) (node:Int) (off:Int) (l:List UInt8) (o:Option Addr) (j:Nat) (r:ai) (hD:∀ c0 P,ag c0 (r*P)->Rd c0 (G o l.length j) l) (g0:l.length<=j) (f0:l.length<=1000000000000) (F:ai) (h:ag w (dG c S e M*(al S*(r*F)))) :
  Calls O 45 #[fI e n,Z Y node,Z Y off,G o l.length j] w (Ld c e S (r*F) w (dM (gF c.ask n node off l) M)):=by
 refine aF fun j0 L=>?_;obtain ⟨p,hp⟩:=Nm (dM (gF c.ask n node off l) M)
 rw [hp] at L;have l0:=nH O;have v:=fun x y z w F h=>vg c hc n i0 d0 92 #[J (X ⟨x,0,R⟩),J (X ⟨y,0,R⟩),J (X ⟨z,0,R⟩)] (bf x node*(bf y off*((ON z (G o l.length j)*r)))) (gF c.ask n node off l) (fun e0 w=>enters func92 Kr0 rfl e0 w) (Bh hc d0 node off l o j r hD g0 f0 x y z) e M w S F h;rw [hp] at v;have T:=ae v;have u:=((((h.alloc (cH e n)).alloc (W #[Z Y node] 3 (0,0))).alloc (W #[Z Y off] 3 (0,0))).alloc (W #[G o l.length j] 23 (0,0)))
 have dA:=(((((aj.refl w).alloc (cH e n)).alloc (W #[Z Y node] 3 (0,0))).alloc (W #[Z Y off] 3 (0,0))).alloc (W #[G o l.length j] 23 (0,0)))
 simp only [D6] at u;have hB:ag ((((w.alloc (cH e n)).alloc (W #[Z Y node] 3 (0,0))).alloc (W #[Z Y off] 3 (0,0))).alloc (W #[G o l.length j] 23 (0,0))) (dG c S e M*(al S*((bf (w.heap.size+1) node*(bf (w.heap.size+1+1) off*((ON (w.heap.size+1+1+1) (G o l.length j)*r))))*(pt w.heap.size (cH e n)*F)))):=u.to (by unfold bf ON;ac_rfl);have C:=ae hB;clear u hB v h;unfold fI
 go_in
 go_wp2_with fail
 refine T.o (w.heap.size+1) (w.heap.size+1+1) (w.heap.size+1+1+1) _ _ C.o _ ?_;clear T C;generalize m0:((((w.alloc (cH e n)).alloc (W #[Z Y node] 3 (0,0))).alloc (W #[Z Y off] 3 (0,0))).alloc (W #[G o l.length j] 23 (0,0)))=w1 at *;generalize w.heap.size+1+1+1=b3 at *;generalize w.heap.size+1+1=b2 at *;generalize w.heap.size+1=b1 at *;generalize w.heap.size=b0 at *;rintro k0 w2 ⟨t,hS,d2,rfl,h2⟩;have h3:=ae (h2.t00 ((pt b0 (cH e n)*bf b1 node*bf b2 off*ON b3 (G o l.length j))*(dG c t e p.2*(al t*(r*F))))).right;clear h2
 go_wp2_with fail
 try go_ret
 exact L.o _ _ ⟨t,hS,dA.trans d2,rfl,h3.o⟩
def qS {w:D} {j:Array Value} {a:Nat} {e:Value} {o:Array Value} {F:ai} (h4:j[4]?=X (az a)) (h5:j[5]?=X e) (t:ag w (pt a (W o 66 (0,0))*F)) (r:o.size=20) :
  (results Tryz.f74 j).run O w = .ok (.tuple #[.agg o,e]) w:=by
 have u:=run_loadVar_row (P:=O) w a 66 66 o (0,0) _ t.heap underlying66 rfl (by rw [r];exact bC);have v:j.getD 4 undef = J (X ⟨a,0,R⟩):=by simp [h4]
 have x:j.getD 5 undef=e:=by simp [h5]
 simp [results,Tryz.results74,h4,h5,asAddr,u]
def Pc (c:Cx σ) (hc:c.Ok) (n:Nat) (o0:4<=n) (p0:n<=3840) (e:Nat) (M:gD σ) (w:D) (S:Hp) (node:Int) (F:ai) (h:ag w (dG c S e M*(al S*F))) :
  Calls O 74 #[fI e n,Z Y node] w (Ay c e P1 A0 S F w (dM (rA c.ask n node) M)):=by
 refine aF fun r0 T=>?_;obtain ⟨p,hp⟩:=Nm (dM (rA c.ask n node) M)
 rw [hp] at T;have s0:=nH O;have e0:=fun f0 w F h=>KR c hc n o0 p0 136 #[J (X ⟨f0,0,R⟩)] (bf f0 node) (rA c.ask n node) (fun l0 w=>enters func136 Kr0 rfl l0 w) (KH hc node f0) e M w S F h;rw [hp] at e0;have g0:=ae e0;have hA:=(((h.alloc (cH e n)).alloc (W #[Z Y node] 3 (0,0))).alloc (W #[Z Y 0,Z Y 0,Z Y 0,Z Y 0,Z Y 0,Z Y 0,Z Y 0,Z Y 0,Z Y 0,Z Y 0,Z Y 0,Z Y 0,Z Y 0,Z Y 0,Z Y 0,Z Y 0,Z Y 0,Z Y 0,Z Y 0,Z Y 0] 66 (0,0)))
 have dA:=((((aj.refl w).alloc (cH e n)).alloc (W #[Z Y node] 3 (0,0))).alloc (W #[Z Y 0,Z Y 0,Z Y 0,Z Y 0,Z Y 0,Z Y 0,Z Y 0,Z Y 0,Z Y 0,Z Y 0,Z Y 0,Z Y 0,Z Y 0,Z Y 0,Z Y 0,Z Y 0,Z Y 0,Z Y 0,Z Y 0,Z Y 0] 66 (0,0)))
 simp only [D6] at hA;have hB:ag (((w.alloc (cH e n)).alloc (W #[Z Y node] 3 (0,0))).alloc (W #[Z Y 0,Z Y 0,Z Y 0,Z Y 0,Z Y 0,Z Y 0,Z Y 0,Z Y 0,Z Y 0,Z Y 0,Z Y 0,Z Y 0,Z Y 0,Z Y 0,Z Y 0,Z Y 0,Z Y 0,Z Y 0,Z Y 0,Z Y 0] 66 (0,0))) (dG c S e M*(al S*(bf (w.heap.size+1) node*(pt (w.heap.size+1+1) (W #[Z Y 0,Z Y 0,Z Y 0,Z Y 0,Z Y 0,Z Y 0,Z Y 0,Z Y 0,Z Y 0,Z Y 0,Z Y 0,Z Y 0,Z Y 0,Z Y 0,Z Y 0,Z Y 0,Z Y 0,Z Y 0,Z Y 0,Z Y 0] 66 (0,0))*(pt w.heap.size (cH e n)*F))))):=hA.to (by unfold bf;ac_rfl);have HB:=ae hB;clear hA hB e0 h;unfold fI
 go_in
 go_wp2_with fail
 refine g0.o (w.heap.size+1) _ _ HB.o _ ?_;clear g0 HB;generalize u0:(((w.alloc (cH e n)).alloc (W #[Z Y node] 3 (0,0))).alloc (W #[Z Y 0,Z Y 0,Z Y 0,Z Y 0,Z Y 0,Z Y 0,Z Y 0,Z Y 0,Z Y 0,Z Y 0,Z Y 0,Z Y 0,Z Y 0,Z Y 0,Z Y 0,Z Y 0,Z Y 0,Z Y 0,Z Y 0,Z Y 0] 66 (0,0)))=w1 at *;generalize w.heap.size+1+1=j at *;generalize w.heap.size+1=b1 at *;generalize w.heap.size=b0 at *;obtain ⟨q0,M2⟩:=p;have n0:(prog.info? 66).map (·.size)=X 20:=bC;have C:∀ (z:Array Value) (y:D) (P:ai),z.size=20->ag y (pt j (W #[Z Y 0,Z Y 0,Z Y 0,Z Y 0,Z Y 0,Z Y 0,Z Y 0,Z Y 0,Z Y 0,Z Y 0,Z Y 0,Z Y 0,Z Y 0,Z Y 0,Z Y 0,Z Y 0,Z Y 0,Z Y 0,Z Y 0,Z Y 0] 66 (0,0))*P)->ag (y.setRow j z) (pt j (W z 66 (0,0))*P):=fun z y P x u=>u.setRow
 cases q0 with
 | bad cN=>
  rintro m0 y ⟨o,u,d2,rfl,t⟩;have r:=t.t00 (pt j (W #[Z Y 0,Z Y 0,Z Y 0,Z Y 0,Z Y 0,Z Y 0,Z Y 0,Z Y 0,Z Y 0,Z Y 0,Z Y 0,Z Y 0,Z Y 0,Z Y 0,Z Y 0,Z Y 0,Z Y 0,Z Y 0,Z Y 0,Z Y 0] 66 (0,0))*((bf b1 node*pt b0 (cH e n))*(dG c o e M2*(al o*F))));have Hz:=ae r.heap;have h4:=ae (C #[Z Y 0,Z Y 0,Z Y 0,Z Y 0,Z Y 0,Z Y 0,Z Y 0,Z Y 0,Z Y 0,Z Y 0,Z Y 0,Z Y 0,Z Y 0,Z Y 0,Z Y 0,Z Y 0,Z Y 0,Z Y 0,Z Y 0,Z Y 0] _ _ rfl r);have c0:Hid ((#[Z Y 0,Z Y 0,Z Y 0,Z Y 0,Z Y 0,Z Y 0,Z Y 0,Z Y 0,Z Y 0,Z Y 0,Z Y 0,Z Y 0,Z Y 0,Z Y 0,Z Y 0,Z Y 0,Z Y 0,Z Y 0,Z Y 0,Z Y 0]:Array Value).all (·.oneCell')=Q):=Gy;have L:=ae ((dA.trans d2).setRow j #[Z Y 0,Z Y 0,Z Y 0,Z Y 0,Z Y 0,Z Y 0,Z Y 0,Z Y 0,Z Y 0,Z Y 0,Z Y 0,Z Y 0,Z Y 0,Z Y 0,Z Y 0,Z Y 0,Z Y 0,Z Y 0,Z Y 0,Z Y 0]);clear t r C
  go_wp2_with (refine wpList_store_row (by exact rfl) 66 (.tmp 4) (.tmp 9) (by exact rfl) j #[Z Y 0,Z Y 0,Z Y 0,Z Y 0,Z Y 0,Z Y 0,Z Y 0,Z Y 0,Z Y 0,Z Y 0,Z Y 0,Z Y 0,Z Y 0,Z Y 0,Z Y 0,Z Y 0,Z Y 0,Z Y 0,Z Y 0,Z Y 0] (by exact rfl) (by exact rfl) 66 _ (by with_reducible exact Hz.o) n0 Rf0 c0.o ?_)
  exact bodyPost_ret (qS rfl rfl h4.o rfl) rfl (T.o _ _ ⟨o,u,L.o,rfl,h4.o.right.right⟩)
 | ok a=>
  rintro m0 y ⟨o,v,u,d2,rfl,t⟩;obtain ⟨⟨rfl,d0⟩,i0⟩:=ag.aq.1 t;have r:=i0.t00 (pt j (W #[Z Y 0,Z Y 0,Z Y 0,Z Y 0,Z Y 0,Z Y 0,Z Y 0,Z Y 0,Z Y 0,Z Y 0,Z Y 0,Z Y 0,Z Y 0,Z Y 0,Z Y 0,Z Y 0,Z Y 0,Z Y 0,Z Y 0,Z Y 0] 66 (0,0))*((bf b1 node*pt b0 (cH e n))*(dG c o e M2*(al o*F))));have x:(ints a.l).size=20:=by rw [er,Nd.cells d0]
  have Hz:=ae r.heap;have h4:=ae (C (ints a.l) _ _ x r);have c0:Hid ((ints a.l).all (·.oneCell')=Q):=by simp [RowKit.Hid,ints,Value.oneCell']
  have k0:Hid ((prog.info? 66).map (·.size)=X (ints a.l).size):=by show _=_;rw [x];exact bC
  have L:=ae ((dA.trans d2).setRow j (ints a.l));have HX:=ae x;have j0:=ae d0;clear t i0 r C x d0;unfold Nd.v
  go_wp2_with (refine wpList_store_row (by exact rfl) 66 (.tmp 4) (.tmp 9) (by exact rfl) j (ints a.l) (by exact rfl) (by exact rfl) 66 _ (by with_reducible exact Hz.o) k0.o (by rw [HX.o];rfl) c0.o ?_)
  exact bodyPost_ret (qS rfl rfl h4.o HX.o) rfl (T.o _ _ ⟨o,_,u,L.o,rfl,ag.aq.2 ⟨⟨rfl,j0.o⟩,h4.o.right.right⟩⟩)
end
end Go.Proofs.Fs
namespace Go.SL
open RowKit
section
variable {σ α β:Type}
structure qm (ask:cL σ) (n:Nat) (V:Nat->List UInt8) (I:σ->Prop):Prop where
 len:∀ i,i<n->(V i).length=480
 Xu:∀ (s:σ) (i:Nat),I s->i<n->(ask s (i:Int)).1=(0,V i)/\I (ask s (i:Int)).2
structure Good (n:Nat) (V:Nat->List UInt8) (I:σ->Prop) (b:gD σ):Prop where
 err:b.err=0
 inv:I b.s
 wr:∀ (i:Nat) l,i<n->aM b.W (i:Int)=some l->l.length=480
 rd:∀ (i:Nat) l,i<n->aM b.D (i:Int)=some l->l=V i
 keys:∀ p ∈ b.W,0<=p.1/\p.1<(n:Int)
def vw (V:Nat->List UInt8) (e:List (Int × List UInt8)) (i:Nat):List UInt8:=(aM e (i:Int)).getD (V i)
structure Aw where
 V:Nat->List UInt8
 B:List UInt8
structure Rel (n:Nat) (V0:Nat->List UInt8) (I:σ->Prop) (st:eG σ) (a:Aw):Prop where
 gC:Good n V0 I st.b
 view:∀ i,0<i->i<n->vw V0 st.b.W i=a.V i
 bits:st.bits=some a.B\/(st.bits=none/\st.dt=false/\vw V0 st.b.W 0=a.B)
 dt:st.dt=false->vw V0 st.b.W 0=a.B
 len:a.B.length=480
def AB (V:Nat->List UInt8) (i:Nat) (l:List UInt8):Nat->List UInt8:=fun k=>if k=i then l else V k
def uK (V:Nat->List UInt8) (e:List (Int × List UInt8)) (i:Nat) (l:List UInt8) (k:Nat):vw V (SL.fC e (i:Int) l) k=if k=i then l else vw V e k:=by
 unfold vw;rw [nF]
 by_cases h:k=i
 .subst h;rw [if_pos rfl,if_pos rfl];rfl
 .rw [if_neg h,if_neg U]
def Good.PJ {n:Nat} {V:Nat->List UInt8} {I:σ->Prop} {b:gD σ} {ask:cL σ} (hr:qm ask n V I) (h:Good n V I b) {i:Nat} (hi:i<n):(vw V b.W i).length=480:=by
 unfold vw
 cases e:aM b.W (i:Int) with
 | some l=>exact h.wr i l hi e
 | none=>exact hr.len i hi
def aK (n:Nat) (V0:Nat->List UInt8) (I:σ->Prop) (m:WM σ α) (a:Aw) (P:α->Aw->Prop) (E:Int->Prop):Prop:=
 ∀ st,Rel n V0 I st a->match m st with
  | (.ok x,e)=>∃ a',Rel n V0 I e a'/\P x a'
  | (.bad c,e)=>I e.b.s/\E c
variable {n:Nat} {V0:Nat->List UInt8} {I:σ->Prop} {ask:cL σ} {m:WM σ α} {a:Aw} {P:α->Aw->Prop} {E:Int->Prop}
def aK.bind {k:α->WM σ β} {j:β->Aw->Prop} (h:aK n V0 I m a P E) (t:∀ x a',P x a'->aK n V0 I (k x) a' j E):aK n V0 I (WM.bind m k) a j E:=by
 intro st u;have:=h st u;unfold WM.bind
 match v:m st,this with
 | (.ok x,o),⟨a',e,r⟩=>exact t x a' r o e
 | (.bad c,o),e=>exact e
def aK.mono {o:α->Aw->Prop} {j:Int->Prop} (h:aK n V0 I m a P E) (u:∀ x a',P x a'->o x a') (t:∀ c,E c->j c):aK n V0 I m a o j:=by
 intro st v;have:=h st v
 match y:m st,this with
 | (.ok x,w),⟨a',e,r⟩=>exact ⟨a',e,u _ _ r⟩
 | (.bad c,w),e=>exact ⟨e.1,t _ e.2⟩
def aK.pure {x:α} (h:P x a):aK n V0 I (WM.pure x) a P E:=fun st e=>⟨a,e,h⟩
def aK.bad {c:Int} (h:E c):aK n V0 I (fun st=>((.bad c,st):Rs α × eG σ)) a P E:=fun st e=>⟨e.gC.inv,h⟩
def aK.congr {m':WM σ α} (h:aK n V0 I m' a P E) (e:∀ st,m st=m' st):aK n V0 I m a P E:=fun st j=>by
 have:=h st j;rw [<- e st] at this;exact this
def Fe (hr:qm ask n V0 I) {b:gD σ} (h:Good n V0 I b) {i:Nat} (hi:i<n) :
  ∃ o,fY ask b (i:Int)=((0,vw V0 b.W i),o)/\o.W=b.W/\Good n V0 I o:=by
 unfold fY vw;rw [if_neg (by rw [h.err];simp)]
 cases w:aM b.W (i:Int) with
 | some l=>exact ⟨b,rfl,rfl,h⟩
 | none=>
  cases u:aM b.D (i:Int) with
  | some l=>exact ⟨b,by rw [h.rd i l hi u];rfl,rfl,h⟩
  | none=>
   obtain ⟨r,t⟩:=hr.Xu b.s i h.inv hi;refine ⟨{ b with D:=SL.fC b.D (i:Int) (V0 i),s:=(ask b.s (i:Int)).2 },?_,rfl,h.err,t,h.wr,fun k l v j=>?_,h.keys⟩
   .show su ask b (i:Int)=_
    unfold su;rw [r];rfl
   .rw [nF] at j
    split at j
    .rename_i e;cases j;congr 1;omega
    .exact h.rd k l v j
def yX (hr:qm ask n V0 I) {st:eG σ} (h:Good n V0 I st.b) {i:Nat} (hi:i<n) :
  ∃ e,cZ ask (i:Int) st=(.ok (vw V0 st.b.W i),{ st with b:=e })/\e.W=st.b.W/\Good n V0 I e:=by
 obtain ⟨e,j,o,r⟩:=Fe hr h hi;refine ⟨e,?_,o,r⟩;unfold cZ;rw [j];rw [if_neg Si0,if_neg (by simp [h.PJ hr hi])]
def aK.read (hr:qm ask n V0 I) {i:Nat} (h0:0<i) (hi:i<n):aK n V0 I (cZ ask (i:Int)) a (fun l a'=>l=a.V i/\l.length=480/\a'=a) E:=by
 intro st e;obtain ⟨j,r,o,t⟩:=yX hr e.gC hi;rw [r];refine ⟨a,⟨t,fun k v w=>?_,?_,fun u=>?_,e.len⟩,e.view i h0 hi,e.gC.PJ hr hi,rfl⟩
 .show vw V0 j.W k=_;rw [o];exact e.view k v w
 .show st.bits=_\/(st.bits=R/\st.dt=H/\vw V0 j.W 0=_);rw [o];exact e.bits
 .show vw V0 j.W 0=_;rw [o];exact e.dt u
def aK.write {i:Nat} {l:List UInt8} (h0:0<i) (F:i<n) (z:l.length=480):aK n V0 I (cS (i:Int) l) a (fun _ a'=>a'={ a with V:=AB a.V i l }) E:=by
 intro st j
 have e:kg st.b.err (i:Int) l=0:=by
  unfold kg;rw [j.gC.err,if_neg Si0,if_neg U]
 have u:cS (i:Int) l st=(.ok (),{ st with b:={ st.b with W:=SL.fC st.b.W (i:Int) l } }):=if_pos e;rw [u];refine ⟨{ a with V:=AB a.V i l },⟨⟨j.gC.err,j.gC.inv,fun k t r h'=>?_,j.gC.rd,fun p C=>(zr C).elim (fun e=>by rw [e];exact ⟨U,U⟩) (j.gC.keys p)⟩,fun k r y=>?_,?_,fun x=>?_,j.len⟩,rfl⟩
 .have o:aM (SL.fC st.b.W (i:Int) l) (k:Int)=X t:=h'
  rw [nF] at o
  split at o
  .cases o;exact z
  .exact j.gC.wr k t r o
 .show vw V0 (SL.fC st.b.W (i:Int) l) k=AB a.V i l k
  rw [uK];unfold AB
  split
  .rfl
  .exact j.view k r y
 .rcases j.bits with h|⟨h,v,w⟩
  .exact .inl h
  .refine .inr ⟨h,v,?_⟩
   show vw V0 (SL.fC st.b.W (i:Int) l) 0=a.B
   rw [uK,if_neg U];exact w
 .show vw V0 (SL.fC st.b.W (i:Int) l) 0=a.B
  rw [uK,if_neg U];exact j.dt x
def aK.bits (hr:qm ask n V0 I) (h0:0<n):∀ st,Rel n V0 I st a->∃ st',jq ask st=(.ok a.B,st')/\Rel n V0 I st' a/\st'.bits=X a.B:=by
 intro st e;unfold jq;rcases e.bits with h|⟨h,y,r⟩
 .rw [h];exact ⟨st,rfl,e,h⟩
 .rw [h]
  obtain ⟨j,t,o,v⟩:=yX hr e.gC h0;have u:cZ ask 0 st=(.ok (vw V0 st.b.W 0),{ st with b:=j }):=t;dsimp only;rw [u,r];refine ⟨_,rfl,⟨v,fun k w x=>?_,.inl rfl,fun z=>?_,e.len⟩,rfl⟩
  .show vw V0 j.W k=_;rw [o];exact e.view k w x
  .show vw V0 j.W 0=_;rw [o];exact r
def aK.mark (hr:qm ask n V0 I) (h0:0<n) {id:Nat} {t:Bool}:aK n V0 I (cI ask id t) a (fun _ a'=>a'={ a with B:=dZ a.B id t }) E:=by
 intro st u;obtain ⟨v,o,j,w⟩:=aK.bits hr h0 st u;have e:cI ask id t st=y8 id t a.B v:=WM.aW o;rw [e];unfold y8;exact ⟨{ a with B:=dZ a.B id t },⟨j.gC,j.view,.inl rfl,fun r=>by simp at r,by rw [fu];exact j.len⟩,rfl⟩
def aK.take (hr:qm ask n V0 I) (h0:0<n) (r:fw a.B n=R->E 7):aK n V0 I (iN ask n) a (fun k a'=>fw a.B n=X k/\a'={ a with B:=dZ a.B k Q }) E:=by
 intro st v;obtain ⟨w,o,j,x⟩:=aK.bits hr h0 st v;have e:iN ask n st=s5 n a.B w:=WM.aW o;rw [e];unfold s5
 cases u:fw a.B n with
 | none=>exact ⟨j.gC.inv,r u⟩
 | some k=>exact ⟨{ a with B:=dZ a.B k Q },⟨j.gC,j.view,.inl rfl,fun t=>by simp at t,by rw [fu];exact j.len⟩,rfl,rfl⟩
def OE (V0:Nat->List UInt8) (M:gD σ):Aw:=⟨vw V0 M.W,vw V0 M.W 0⟩
def Rel.start (hr:qm ask n V0 I) (h0:0<n) {M:gD σ} (h:Good n V0 I M):Rel n V0 I ⟨M,R,H⟩ (OE V0 M):=
 ⟨h,fun _ _ _=>rfl,.inr ⟨rfl,rfl,rfl⟩,fun _=>rfl,h.PJ hr h0⟩
def aK.run (hr:qm ask n V0 I) (h0:0<n) {M:gD σ} (T:Good n V0 I M) (h:aK n V0 I m (OE V0 M) P E) :
  (∃ x t a',dM m M=(.ok x,t)/\Good n V0 I t/\P x a'/\vw V0 t.W 0=a'.B/\∀ i,0<i->i<n->vw V0 t.W i=a'.V i) \/
  (∃ c F,dM m M=(.bad c,{ M with s:=F })/\I F/\E c):=by
 have S:=h _ (Rel.start hr h0 T)
 match y:m ⟨M,R,H⟩,S with
 | (.ok x,j),⟨a',o,z⟩=>
  cases v:j.dt with
  | false=>exact .inl ⟨x,j.b,a',zw y v,o.gC,z,o.dt v,o.view⟩
  | true=>
   have r:j.bits=X a'.B:=by
    rcases o.bits with r|⟨_,r,_⟩
    .exact r
    .rw [v] at r;cases r
   have e:kg j.b.err 0 (j.bits.getD [])=0:=by
    unfold kg;rw [o.gC.err,if_neg Si0,r];simp [o.len]
   have L:cS 0 (j.bits.getD []) j=(.ok (),{ j with b:={ j.b with W:=SL.fC j.b.W 0 (j.bits.getD []) } }):=if_pos e;refine .inl ⟨x,_,a',FD y v L,⟨o.gC.err,o.gC.inv,fun k C w h'=>?_,o.gC.rd,fun p hp=>(zr hp).elim (fun e=>by rw [e];exact ⟨U,U⟩) (o.gC.keys p)⟩,z,?_,fun k w b0=>?_⟩
   .have u:aM (SL.fC j.b.W ((0:Nat):Int) (j.bits.getD [])) (k:Int)=X C:=h'
    rw [nF] at u
    split at u
    .cases u;rw [r];exact o.len
    .exact o.gC.wr k C w u
   .have:=uK V0 j.b.W 0 (j.bits.getD []) 0
    rw [if_pos rfl,r] at this;rw [r];exact this
   .have:=uK V0 j.b.W 0 (j.bits.getD []) k
    rw [if_neg U] at this;exact this.trans (o.view k w b0)
 | (.bad c,j),o=>exact .inr ⟨c,j.b.s,wU y,o.1,o.2⟩
end
def LI (x:Int) (e:List Int):jR (x :: e)=dD x 2++jR e:=rfl
def BO (l:List UInt8) (o m:Nat):bS l o (m+1)=iM (l.drop o) 2 :: bS l (o+2) m:=by
 simp only [bS,List.range_succ_eq_map,List.map_cons,List.map_map];congr 1;apply List.map_congr_left;intro i _;simp only [Function.comp,Nat.mul_succ];congr 2;omega
def wk (j:List Int):∀ (o rest:List UInt8),j.all dh=Q->bS (o++(jR j++rest)) o.length j.length=j:=by
 induction j with
 | nil=>intro o rest _;rfl
 | cons x j r=>
  intro o rest h;simp only [List.all_cons,D7] at h;rw [List.length_cons,BO,List.drop_left,LI,H3,mE x 2 _ 2 (A3 _)];have t:=ju h.1;have e:x%(256:Int) ^ 2=x:=by rw [show (256:Int) ^ 2=65536 by decide];omega
  rw [e];congr 1;have:=r (o++dD x 2) rest h.2;rw [J3,bp,H3] at this;exact this
def OF {n:Nd} (e:n.dr.length=16):iO n=dD n.kd 1++(dD n.lk 2++(dD n.sz 4++(jR n.dr++(dD n.rw 2++zs 439)))):=by
 unfold iO QW bY;have j:(jR [n.rw])=dD n.rw 2:=by simp [jR]
 rw [j];have o:(dD n.kd 1++dD n.lk 2++dD n.sz 4++jR n.dr++dD n.rw 2).length=41:=by simp [bp,ja,e]
 rw [List.take_append,o,List.take_of_length_le U];have r:(zs 480).take (480-41)=zs 439:=by unfold zs;rw [List.take_replicate];exact congrArg (fun m=>D8 m 0) De0
 rw [r];simp only [H3]
def Kp {n:Nd} (o:n.dr.length=16) (v:n.ok=Q):kN (iO n)=(n,0):=by
 have S:=Nd.qR v;obtain ⟨hk,l0,l1,s0,s1,L,hr,-,-⟩:=S;have b0:=ju hr;rw [OF o];obtain ⟨kd,lk,sz,dr,j⟩:=n;dsimp only at *
 have F:iM (dD kd 1++(dD lk 2++(dD sz 4++(jR dr++(dD j 2++zs 439))))) 1=kd:=by
  rw [mE kd 1 _ 1 (A3 _),show (256:Int) ^ 1=256 by decide];omega
 have r:(dD kd 1++(dD lk 2++(dD sz 4++(jR dr++(dD j 2++zs 439))))).drop 1=dD lk 2++(dD sz 4++(jR dr++(dD j 2++zs 439))):=E2 (bp _ _)
 have t:(dD kd 1++(dD lk 2++(dD sz 4++(jR dr++(dD j 2++zs 439))))).drop 3=dD sz 4++(jR dr++(dD j 2++zs 439)):=by
  rw [show 3=1+2 from rfl,<- H2,r];exact E2 (bp _ _)
 have C:(dD kd 1++(dD lk 2++(dD sz 4++(jR dr++(dD j 2++zs 439))))).drop 7=jR dr++(dD j 2++zs 439):=by
  rw [show 7=3+4 from rfl,<- H2,t];exact E2 (bp _ _)
 have u:(dD kd 1++(dD lk 2++(dD sz 4++(jR dr++(dD j 2++zs 439))))).drop 39=dD j 2++zs 439:=by
  rw [show 39=7+32 from rfl,<- H2,C];exact E2 (by rw [ja,o])
 have z:(dD kd 1++(dD lk 2++(dD sz 4++(jR dr++(dD j 2++zs 439))))).drop 41=zs 439:=by
  rw [show 41=39+2 from rfl,<- H2,u];exact E2 (bp _ _)
 have T:bS (dD kd 1++(dD lk 2++(dD sz 4++(jR dr++(dD j 2++zs 439))))) 7 16=dr:=by
  have:=wk dr (dD kd 1++(dD lk 2++dD sz 4)) (dD j 2++zs 439) L;rw [o] at this;have e:(dD kd 1++(dD lk 2++dD sz 4)).length=7:=by simp [bp]
  rw [e] at this;simpa only [H3] using this
 have hn:iF (dD kd 1++(dD lk 2++(dD sz 4++(jR dr++(dD j 2++zs 439)))))=⟨kd,lk,sz,dr,j⟩:=by
  unfold iF;rw [F,r,t,u,T,mE lk 2 _ 2 (A3 _),mE sz 4 _ 4 (A3 _),mE j 2 _ 2 (A3 _)];have w:lk%(256:Int) ^ 2=lk:=by rw [show (256:Int) ^ 2=65536 by decide];omega
  have y:sz%(256:Int) ^ 4=sz:=by rw [show (256:Int) ^ 4=4294967296 by decide];omega
  have a3:j%(256:Int) ^ 2=j:=by rw [show (256:Int) ^ 2=65536 by decide];omega
  rw [w,y,a3]
 unfold kN;rw [hn,z,v];have hz:(zs 439).all (· == 0)=Q:=List.all_eq_true.2 fun x hx=>by rw [List.eq_of_mem_replicate hx];rfl
 rw [hz]
 rfl
def Ls {l:List Int} (h:l.length=240) (e:l.all dh=Q):l7 (jR l)=(l,0):=by
 have:=wk l [] [] e;simp only [List.nil_append,List.append_nil,List.length_nil,h] at this;unfold l7;rw [this,e]
 rfl
abbrev Own:=Nat × Nat × Nat
abbrev nA:Own:=(0,0,0)
abbrev MV:Own:=(1,0,0)
abbrev Q3:Own:=(2,0,0)
abbrev Kj (id:Nat):Own:=(3,id,0)
abbrev FI (id i:Nat):Own:=(4,id,i)
def df {α:Type} (f:Nat->α) (k:Nat) (x:α):Nat->α:=fun b=>if b=k then x else f b
def bA {α:Type} (f:Nat->α) (k:Nat) (x:α):df f k x k=x:=if_pos rfl
def aI {α:Type} (f:Nat->α) {k b:Nat} (x:α) (h:b≠k):df f k x b=f b:=if_neg h
def xn (own:Nat->Own) (n:Nat):Nat:=(B3 n).countP fun b=>own b == nA
def rK (own:Nat->Own) (n:Nat):xn own (n+1)=xn own n+if own n=nA then 1 else 0:=by
 unfold xn;rw [J2,G3];simp [K9]
def Ja {own own':Nat->Own} {n:Nat} (h:∀ b,b<n->own b=own' b):xn own n=xn own' n:=by
 unfold xn;apply K8;intro b e;rw [h b (List.mem_range.1 e)]
def me {own:Nat->Own} {k:Nat} {x:Own}:∀ {n:Nat},k<n->xn (df own k x) n+(if own k=nA then 1 else 0)=xn own n+if x=nA then 1 else 0
 | n+1,h=>by
  rw [rK,rK]
  by_cases e:k=n
  .subst e
   rw [bA,Ja (own:=df own k x) (own':=own) fun b j=>aI _ _ U];omega
  .have:=me (own:=own) (x:=x) (show k<n by omega)
   rw [aI _ _ (by omega:n≠k)];omega
structure Bm (n:Nat) (own:Nat->Own) (B:List UInt8):Prop where
 len:B.length=480
 bit:∀ b,b<n->(dY B b=true↔own b≠nA)
def Bm.set {n:Nat} {own:Nat->Own} {B:List UInt8} (h:Bm n own B) (hn:n<=3840) {k:Nat} (r:k<n) (x:Own) (t:Bool) (o:t=Q↔x≠nA):Bm n (df own k x) (dZ B k t):=by
 refine ⟨by rw [fu];exact h.len,fun b j=>?_⟩;rw [yr (by rw [h.len];omega)]
 by_cases e:b=k
 .subst e;rw [if_pos rfl,bA];exact o
 .rw [if_neg e,aI _ _ e];exact h.bit b j
def Bm.sY {n:Nat} {own:Nat->Own} {B:List UInt8} (h:Bm n own B) {k:Nat} (e:fw B n=X k):k<n/\own k=nA:=by
 unfold fw at e;have t:=List.mem_of_find?_eq_some e;have j:=List.find?_some e;have r:=List.mem_range.1 t;refine ⟨r,?_⟩;have:=(h.bit k r)
 by_cases o:own k=nA
 .exact o
 .have u:=this.2 o
  rw [u] at j;simp at j
def Bm.ie {n:Nat} {own:Nat->Own} {B:List UInt8} (h:Bm n own B) (e:fw B n=R):xn own n=0:=by
 unfold fw at e;rw [List.find?_eq_none] at e;unfold xn;rw [J7];intro b o u;have w:=List.mem_range.1 o;have j:=e b o;have r:own b=nA:=by simpa using u
 have t:=(h.bit b w)
 have h4:dY B b=Q:=by
  cases v:dY B b with
  | true=>rfl
  | false=>rw [v] at j;simp at j
 exact t.1 h4 r
def Bm.left {n:Nat} {own:Nat->Own} {B:List UInt8} (h:Bm n own B):n-(dp B n).length=xn own n:=by
 have o:∀ m,m<=n->(dp B m).length+xn own m=m:=by
  intro m
  induction m with
  | zero=>intro _;rfl
  | succ m t=>
   intro u;have:=t U;rw [nI,rK];have j:=h.bit m U
   by_cases e:own m=nA
   .rw [if_neg (fun r=>j.1 r e),if_pos e];omega
   .rw [if_pos (j.2 e),if_neg e,J3];simp;omega
 have:=o n (A3 _);omega
structure Hd.Ok (n id:Nat) (h:Hd):Prop where
 fit:h.fit
 id:h.id=id
 kd:h.n.kd=1\/h.n.kd=2
 I0:0<=h.n.lk
 Kf:h.n.lk<=65535
 Kg:0<=h.n.sz
 OM:h.n.sz<=122880
 yK:0<=h.n.rw
 AE:h.n.rw<n
 pg:∀ i,i<256->0<=h.aN i/\h.aN i<n
 rz:h.n.rw=0->∀ i,16<=i->i<256->h.aN i=0
def eB (N:Nat->Option Hd) (b id:Nat):Prop:=∃ h,N id=X h/\h.n.rw=(b:Int)/\b≠0
def ez (N:Nat->Option Hd) (b id i:Nat):Prop:=∃ h,N id=X h/\i<256/\h.aN i=(b:Int)/\b≠0
structure jr (n:Nat) (own:Nat->Own) (N:Nat->Option Hd):Prop where
 bm:∀ b,own b=MV↔b=0
 out:∀ b,n<=b->own b=nA
 ok:∀ id h,N id=some h->0<id/\id<n/\h.Ok n id
 nd:∀ b,own b=Q3↔(N b).isSome=true
 rw:∀ b id,own b=Kj id↔eB N b id
 pg:∀ b id i,own b=FI id i↔ez N b id i
section
variable {n id k i:Nat} {own:Nat->Own} {N:Nat->Option Hd} {h h':Hd}
def jr.tA (L:jr n own N) (hN:N id=X h):own id=Q3:=(L.nd id).2 (by rw [hN];rfl)
def jr.vR (L:jr n own N) (hN:N id=X h) (h0:h.n.rw≠0):own h.n.rw.toNat=Kj id:=by
 have:=(L.ok id h hN).2.2.yK;exact (L.rw _ _).2 ⟨h,hN,U,U⟩
def jr.Bd (L:jr n own N) (hN:N id=X h) (hi:i<256) (h0:h.aN i≠0):own (h.aN i).toNat=FI id i:=by
 have:=((L.ok id h hN).2.2.pg i hi).1;exact (L.pg _ _ _).2 ⟨h,hN,hi,U,U⟩
def jr.zero (L:jr n own N):own 0=MV:=(L.bm 0).2 rfl
def jr.jJ (L:jr n own N) (e:own k=nA):k≠0:=by rintro rfl;rw [L.zero] at e;cases e
def jr.ie (L:jr n own N) (e:own k=nA):N k=R:=by
 cases hN:N k with
 | none=>rfl
 | some h=>have:=L.tA hN;rw [e] at this;cases this
def jr.fC (L:jr n own N) {x:Own} {j:Nat->Option Hd} (r:k≠0) (S:k<n) (F:x≠MV) (v:∀ id h,j id=X h->0<id/\id<n/\h.Ok n id)
  (t:∀ b,b≠k->(j b).isSome=(N b).isSome) (u:x=Q3↔(j k).isSome=Q)
  (C:∀ b id,b≠k->(eB j b id↔eB N b id)) (z:∀ id,x=Kj id↔eB j k id)
  (w:∀ b id i,b≠k->(ez j b id i↔ez N b id i)) (y:∀ id i,x=FI id i↔ez j k id i):jr n (df own k x) j:=by
 refine ⟨fun b=>?_,fun b o=>?_,v,fun b=>?_,fun b id=>?_,fun b id i=>?_⟩
 .by_cases e:b=k
  .subst e;rw [bA];exact ⟨fun h=>absurd h F,fun h=>absurd h r⟩
  .rw [aI _ _ e];exact L.bm b
 .rw [aI _ _ (by omega)];exact L.out b o
 .by_cases e:b=k
  .subst e;rw [bA];exact u
  .rw [aI _ _ e,t b e];exact L.nd b
 .by_cases e:b=k
  .subst e;rw [bA];exact z id
  .rw [aI _ _ e,C b id e];exact L.rw b id
 .by_cases e:b=k
  .subst e;rw [bA];exact y id i
  .rw [aI _ _ e,w b id i e];exact L.pg b id i
def ru {N:Nat->Option Hd} {o:Option Hd} {id id':Nat} {g:Hd} (h:df N id o id'=X g):(id'=id/\o=X g)\/(id'≠id/\N id'=X g):=by
 by_cases e:id'=id
 .subst e;rw [bA] at h;exact .inl ⟨rfl,h⟩
 .rw [aI _ _ e] at h;exact .inr ⟨e,h⟩
def gq {N:Nat->Option Hd} {id b:Nat} (hN:N id=X h):(df N id (X h') b).isSome=(N b).isSome:=by
 by_cases e:b=id
 .subst e;rw [bA,hN];rfl
 .rw [aI _ _ e]
def lP (hN:N id=X h) {b id':Nat} (r:b≠0->(h'.n.rw=(b:Int)↔h.n.rw=(b:Int))):eB (df N id (X h')) b id'↔eB N b id':=by
 by_cases e:id'=id
 .subst e
  unfold eB;rw [bA,hN];constructor
  .rintro ⟨g,e,o,j⟩;cases e;exact ⟨h,rfl,(r j).1 o,j⟩
  .rintro ⟨g,e,o,j⟩;cases e;exact ⟨h',rfl,(r j).2 o,j⟩
 .unfold eB;rw [aI _ _ e]
def lN (hN:N id=X h) {b id' j:Nat} (u:j<256->b≠0->(h'.aN j=(b:Int)↔h.aN j=(b:Int))):ez (df N id (X h')) b id' j↔ez N b id' j:=by
 by_cases e:id'=id
 .subst e
  unfold ez;rw [bA,hN];constructor
  .rintro ⟨g,e,r,t,o⟩;cases e;exact ⟨h,rfl,r,(u r o).1 t,o⟩
  .rintro ⟨g,e,r,t,o⟩;cases e;exact ⟨h',rfl,r,(u r o).2 t,o⟩
 .unfold ez;rw [aI _ _ e]
def jr.MU (L:jr n own N) (hN:N id=X h) (o:h'.Ok n id):∀ id' g,df N id (X h') id'=X g->0<id'/\id'<n/\g.Ok n id':=by
 intro id' g j;rcases ru j with ⟨rfl,e⟩|⟨_,e⟩
 .cases e;exact ⟨(L.ok _ _ hN).1,(L.ok _ _ hN).2.1,o⟩
 .exact L.ok _ _ e
def jr.AI (L:jr n own N) {x:Own} (e:own k=x) (j:∀ id,x≠Kj id):∀ id,¬ eB N k id:=fun id h=>j id (e.symm.trans ((L.rw k id).2 h))
def jr.yn (L:jr n own N) {x:Own} (e:own k=x) (j:∀ id i,x≠FI id i):∀ id i,¬ ez N k id i:=fun id i h=>j id i (e.symm.trans ((L.pg k id i).2 h))
def jr.new (L:jr n own N) (o:own k=nA) (u:k<n) (z:h'.Ok n k) (C:∀ i,i<256->h'.aN i=0) (hr:h'.n.rw=0):jr n (df own k Q3) (df N k (X h')):=by
 have hN:=L.ie o;have y:=L.jJ o
 have t:∀ b id,eB (df N k (X h')) b id↔eB N b id:=by
  intro b id
  by_cases e:id=k
  .subst e
   unfold eB;rw [bA,hN];constructor
   .rintro ⟨g,e,j,v⟩;cases e;rw [hr] at j;exact absurd j U
   .rintro ⟨g,e,_⟩;cases e
  .unfold eB;rw [aI _ _ e]
 have r:∀ b id i,ez (df N k (X h')) b id i↔ez N b id i:=by
  intro b id i
  by_cases e:id=k
  .subst e
   unfold ez;rw [bA,hN];constructor
   .rintro ⟨g,e,hi,j,v⟩;cases e;rw [C i hi] at j;exact absurd j U
   .rintro ⟨g,e,_⟩;cases e
  .unfold ez;rw [aI _ _ e]
 refine L.fC y u De0 ?_ (fun b w=>by rw [aI _ _ w]) (by rw [bA];simp) (fun b id _=>t b id) (fun id=>?_) (fun b id i _=>r b id i) (fun id i=>?_)
 .intro id g x
  rcases ru x with ⟨rfl,e⟩|⟨_,e⟩
  .cases e;exact ⟨U,u,z⟩
  .exact L.ok _ _ e
 .rw [t]
  exact ⟨fun h=>absurd h Si0,fun h=>absurd h (L.AI o Si0 id)⟩
 .rw [r]
  exact ⟨fun h=>absurd h Si0,fun h=>absurd h (L.yn o Si0 id i)⟩
def jr.aN (L:jr n own N) (hN:N id=X h) (t:own k=nA) (c0:k<n) (hi:i<256) (h0:h.aN i=0) (hr:16<=i->h.n.rw≠0):jr n (df own k (FI id i)) (df N id (X (h.put i (k:Int)))):=by
 have F:=L.jJ t;have o:=(L.ok _ _ hN).2.2;have u:=fun j=>Hd.jk o.fit hi (k:Int) j;have z:∀ b id',eB (df N id (X (h.put i (k:Int)))) b id'↔eB N b id':=fun b id'=>lP hN (by rw [Hd.gV];exact fun _=>Iff.rfl);refine L.fC F c0 Si0 (L.MU hN ?_) (fun b _=>gq hN) ?_ (fun b id _=>z b id) (fun id'=>?_) (fun b id' j T=>lN hN fun v=>?_) (fun id' j=>?_)
 .refine ⟨Hd.ux o.fit _ _,by rw [Hd.KE];exact o.id,?_,?_,?_,?_,?_,by rw [Hd.gV];exact o.yK,by rw [Hd.gV];exact o.AE,fun j v=>?_,fun r j C b0=>?_⟩
  .unfold Hd.put;split <;> exact o.kd
  .unfold Hd.put;split <;> exact o.I0
  .unfold Hd.put;split <;> exact o.Kf
  .rw [Hd.As];exact o.Kg
  .rw [Hd.As];exact o.OM
  .rw [u];split
   .exact ⟨U,U⟩
   .exact o.pg j v
  .rw [Hd.gV] at r
   rw [u,if_neg (by rintro rfl;exact hr C r)];exact o.rz r j C b0
 .have:(N k)=R:=L.ie t
  rw [gq hN,this];simp
 .rw [z];exact ⟨fun h=>absurd h Si0,fun h=>absurd h (L.AI t Si0 id')⟩
 .rw [u]
  intro d0
  split
  .rename_i e;subst e;rw [h0]
   exact ⟨fun h=>absurd U T,fun h=>absurd h.symm U⟩
  .exact Iff.rfl
 .by_cases e:id'=id
  .subst e
   by_cases x:j=i
   .subst x
    exact ⟨fun _=>⟨_,bA _ _ _,hi,by rw [u,if_pos rfl],F⟩,fun _=>rfl⟩
   .refine ⟨fun h=>absurd h (by simp;omega),fun r=>?_⟩
    obtain ⟨g,e,v,y,S⟩:=r;rw [bA] at e;cases e
    rw [u,if_neg x] at y;exact absurd ⟨h,hN,v,y,S⟩ (L.yn t Si0 _ _)
  .refine ⟨fun h=>absurd h (by simp;omega),fun r=>?_⟩
   obtain ⟨g,w,r⟩:=r;rw [aI _ _ e] at w;exact absurd ⟨g,w,r⟩ (L.yn t Si0 _ _)
def jr.row (L:jr n own N) (hN:N id=X h) (t:own k=nA) (x:k<n) (h0:h.n.rw=0):jr n (df own k (Kj id)) (df N id (X (h.dF (k:Int)))):=by
 have w:=L.jJ t;have o:=(L.ok _ _ hN).2.2;have v:∀ b id' j,ez (df N id (X (h.dF (k:Int)))) b id' j↔ez N b id' j:=fun b id' j=>lN hN fun _ _=>Iff.rfl;refine L.fC w x Si0 (L.MU hN ?_) (fun b _=>gq hN) ?_ (fun b id' y=>lP hN fun z=>?_) (fun id'=>?_) (fun b id i _=>v b id i) (fun id' j=>?_)
 .exact ⟨o.fit,o.id,o.kd,o.I0,o.Kf,o.Kg,o.OM,show 0<=(k:Int) by omega,show (k:Int)<n by omega,o.pg,fun r=>absurd (show (k:Int)=0 from r) U⟩
 .rw [gq hN,L.ie t];simp
 .rw [h0];show (k:Int)=b↔_;constructor <;> intro r <;> omega
 .by_cases e:id'=id
  .subst e
   exact ⟨fun _=>⟨_,bA _ _ _,rfl,w⟩,fun _=>rfl⟩
  .refine ⟨fun h=>absurd h (by simp;omega),fun r=>?_⟩
   obtain ⟨g,u,r⟩:=r;rw [aI _ _ e] at u;exact absurd ⟨g,u,r⟩ (L.AI t Si0 _)
 .rw [v];exact ⟨fun h=>absurd h Si0,fun h=>absurd h (L.yn t Si0 id' j)⟩
def jr.Td (L:jr n own N) (hN:N id=X h) (hi:i<256) (h0:h.aN i≠0):jr n (df own (h.aN i).toNat nA) (df N id (X (h.put i 0))):=by
 have o:=(L.ok _ _ hN).2.2;have hp:=o.pg i hi;obtain ⟨k,z⟩:∃ k:Nat,h.aN i=(k:Int):=⟨(h.aN i).toNat,U⟩
 have u:=L.Bd hN hi h0;rw [z,B2] at u ⊢;have T:k≠0:=U
 have w:=fun j=>Hd.jk o.fit hi 0 j;have y:∀ b id',eB (df N id (X (h.put i 0))) b id'↔eB N b id':=fun b id'=>lP hN (by rw [Hd.gV];exact fun _=>Iff.rfl);refine L.fC T U De0 (L.MU hN ?_) (fun b _=>gq hN) ?_ (fun b id _=>y b id) (fun id'=>?_) (fun b id' j hb=>?_) (fun id' j=>?_)
 .refine ⟨Hd.ux o.fit _ _,by rw [Hd.KE];exact o.id,?_,?_,?_,?_,?_,by rw [Hd.gV];exact o.yK,by rw [Hd.gV];exact o.AE,fun j t=>?_,fun r j F S=>?_⟩
  .unfold Hd.put;split <;> exact o.kd
  .unfold Hd.put;split <;> exact o.I0
  .unfold Hd.put;split <;> exact o.Kf
  .rw [Hd.As];exact o.Kg
  .rw [Hd.As];exact o.OM
  .rw [w];split
   .exact ⟨U,U⟩
   .exact o.pg j t
  .rw [Hd.gV] at r
   rw [w];split
   .rfl
   .exact o.rz r j F S
 .rw [gq hN]
  refine ⟨fun h=>absurd h Si0,fun r=>?_⟩;have:=(L.nd k).2 r;rw [u] at this;cases this
 .rw [y];exact ⟨fun h=>absurd h Si0,fun h=>absurd h (L.AI u Si0 id')⟩
 .by_cases e:id'=id
  .subst e
   refine lN hN fun t b0=>?_;rw [w]
   split
   .rename_i e;subst e;rw [z]
    constructor <;> intro r <;> omega
   .exact Iff.rfl
  .unfold ez;rw [aI _ _ e]
 .refine ⟨fun h=>absurd h Si0,fun r=>?_⟩
  obtain ⟨g,e,t,v,x⟩:=r;rcases ru e with ⟨rfl,C⟩|⟨e1,e⟩
  .cases C
   rw [w] at v
   split at v
   .omega
   .have:=(L.pg k id' j).2 ⟨h,hN,t,v,x⟩
    rw [u] at this;simp at this;omega
  .have:=(L.pg k id' j).2 ⟨g,e,t,v,x⟩
   rw [u] at this;simp at this;omega
def jr.UR (L:jr n own N) (hN:N id=X h) (h0:h.n.rw≠0) (C:∀ i,16<=i->i<256->h.aN i=0):jr n (df own h.n.rw.toNat nA) (df N id (X (h.dF 0))):=by
 have o:=(L.ok _ _ hN).2.2;have b0:=o.yK;have c0:=o.AE;obtain ⟨k,w⟩:∃ k:Nat,h.n.rw=(k:Int):=⟨h.n.rw.toNat,U⟩
 have t:=L.vR hN h0;rw [w,B2] at t ⊢;have z:k≠0:=U
 have v:∀ b id' j,ez (df N id (X (h.dF 0))) b id' j↔ez N b id' j:=fun b id' j=>lN hN fun _ _=>Iff.rfl;refine L.fC z U De0 (L.MU hN ?_) (fun b _=>gq hN) ?_ (fun b id' S=>?_) (fun id'=>?_) (fun b id i _=>v b id i) (fun id' j=>?_)
 .exact ⟨o.fit,o.id,o.kd,o.I0,o.Kf,o.Kg,o.OM,Int.le_refl _,show (0:Int)<n by omega,o.pg,fun _=>C⟩
 .rw [gq hN]
  refine ⟨fun h=>absurd h Si0,fun r=>?_⟩;have:=(L.nd k).2 r;rw [t] at this;cases this
 .by_cases e:id'=id
  .subst e
   refine lP hN fun T=>?_;rw [w];show (0:Int)=b↔_;constructor <;> intro r <;> omega
  .unfold eB;rw [aI _ _ e]
 .refine ⟨fun h=>absurd h Si0,fun r=>?_⟩
  obtain ⟨g,e,u,y⟩:=r;rcases ru e with ⟨rfl,x⟩|⟨F,e⟩
  .cases x
   exact absurd (show (0:Int)=k from u) U
  .have:=(L.rw k id').2 ⟨g,e,u,y⟩
   rw [t] at this;simp at this;omega
 .rw [v];exact ⟨fun h=>absurd h Si0,fun h=>absurd h (L.yn t Si0 id' j)⟩
def jr.gone (L:jr n own N) (hN:N id=X h) (h0:h.n.rw=0) (C:∀ i,i<256->h.aN i=0):jr n (df own id nA) (df N id R):=by
 have z:=(L.ok _ _ hN)
 have u:=L.tA hN
 have t:∀ b id',eB (df N id R) b id'↔eB N b id':=by
  intro b id'
  by_cases e:id'=id
  .subst e
   unfold eB;rw [bA,hN];constructor
   .rintro ⟨g,e,_⟩;cases e
   .rintro ⟨g,e,o,v⟩;cases e;rw [h0] at o;exact absurd o U
  .unfold eB;rw [aI _ _ e]
 have r:∀ b id' j,ez (df N id R) b id' j↔ez N b id' j:=by
  intro b id' j
  by_cases e:id'=id
  .subst e
   unfold ez;rw [bA,hN];constructor
   .rintro ⟨g,e,_⟩;cases e
   .rintro ⟨g,e,y,o,v⟩;cases e;rw [C j y] at o;exact absurd o U
  .unfold ez;rw [aI _ _ e]
 refine L.fC U z.2.1 De0 ?_ (fun b w=>by rw [aI _ _ w]) (by rw [bA];simp) (fun b id _=>t b id) (fun id'=>?_) (fun b id' j _=>r b id' j) (fun id' j=>?_)
 .intro id' g x
  rcases ru x with ⟨rfl,e⟩|⟨_,e⟩
  .cases e
  .exact L.ok _ _ e
 .rw [t];exact ⟨fun h=>absurd h Si0,fun h=>absurd h (L.AI u Si0 id')⟩
 .rw [r];exact ⟨fun h=>absurd h Si0,fun h=>absurd h (L.yn u Si0 id' j)⟩
def jr.set (L:jr n own N) (hN:N id=X h) (o:h'.Ok n id) (hr:h'.n.rw=h.n.rw) (r:∀ i,i<256->h'.aN i=h.aN i):jr n own (df N id (X h')):=by
 refine ⟨L.bm,L.out,L.MU hN o,fun b=>?_,fun b id'=>?_,fun b id' j=>?_⟩
 .rw [gq hN];exact L.nd b
 .rw [lP hN fun _=>by rw [hr]];exact L.rw b id'
 .rw [lN hN fun e _=>by rw [r j e]];exact L.pg b id' j
end
def jx (V:Nat->List UInt8) (h:Hd) (p:Nat):UInt8:=if h.aN (p/480)=0 then 0 else (V (h.aN (p/480)).toNat).getD (p%480) 0
structure yo (V:Nat->List UInt8) (h:Hd):Prop where
 dec:kN (V h.id)=(h.n,0)
 row:h.n.rw≠0->l7 (V h.n.rw.toNat)=(h.row,0)
structure Hd.Fin (h:Hd):Prop where
 hi:∀ i:Nat,i<256->aX h.n.sz<=i->h.aN i=0
 VH:h.n.rw≠0->∃ i,16<=i/\i<256/\h.aN i≠0
def Bt (V:Nat->List UInt8) (h:Hd):Prop:=∀ p:Nat,p<122880->h.n.sz<=p->jx V h p=0
structure tS (n:Nat) (a:Aw) (own:Nat->Own) (N:Nat->Option Hd) (id:Nat):Prop where
 lay:jr n own N
 bm:Bm n own a.B
 len:∀ b,0<b->b<n->(a.V b).length=480
 rest:∀ id' h,id'≠id->N id'=some h->h.Fin/\yo a.V h/\Bt a.V h
section
variable {n id k i:Nat} {own:Nat->Own} {N:Nat->Option Hd} {h h':Hd} {a:Aw} {V V':Nat->List UInt8}
def jr.Xt (L:jr n own N):N 0=R:=by
 cases hN:N 0 with
 | none=>rfl
 | some h=>exact absurd (L.ok 0 h hN).1 U
def kC (V:Nat->List UInt8) (k:Nat) (l:List UInt8):AB V k l k=l:=if_pos rfl
def fH (V:Nat->List UInt8) {k b:Nat} (l:List UInt8) (h:b≠k):AB V k l b=V b:=if_neg h
def yo.frame (L:jr n own N) (hN:N id=X h) (j:yo V h) (e:∀ b,b=id\/own b=Kj id->V' b=V b):yo V' h:=by
 have o:=(L.ok _ _ hN).2.2;refine ⟨?_,fun h0=>?_⟩
 .rw [e _ (.inl o.id)];exact j.dec
 .rw [e _ (.inr (L.vR hN h0))];exact j.row h0
def oE (L:jr n own N) (hN:N id=X h) (e:∀ b i,own b=FI id i->V' b=V b) {p:Nat} (j:p<122880):jx V' h p=jx V h p:=by
 unfold jx
 split
 .rfl
 .rename_i h0
  rw [e _ _ (L.Bd hN U h0)]
def Bt.frame (L:jr n own N) (hN:N id=X h) (r:Bt V h) (o:∀ b i,own b=FI id i->V' b=V b):Bt V' h:=fun p e j=>by
 rw [oE L hN o e];exact r p e j
def I7 (own:Nat->Own) (id k:Nat):Prop:=own k=nA\/(own k=Q3/\k=id)\/own k=Kj id\/∃ i,own k=FI id i
def vB {id':Nat} (L:jr n own N) (hN:N id'=X h) (t:id'≠id) (r:I7 own id k):k≠id'/\own k≠Kj id'/\∀ i,own k≠FI id' i:=by
 have:=L.tA hN;refine ⟨?_,?_,?_⟩
 .rintro rfl
  rcases r with e|⟨_,e⟩|e|⟨i,e⟩
  .rw [this] at e;cases e
  .exact t e
  .rw [this] at e;cases e
  .rw [this] at e;cases e
 .intro o
  rcases r with e|⟨e,_⟩|e|⟨i,e⟩
  .rw [o] at e;cases e
  .rw [o] at e;cases e
  .rw [o] at e;simp at e;exact t e
  .rw [o] at e;cases e
 .intro j o
  rcases r with e|⟨e,_⟩|e|⟨i,e⟩
  .rw [o] at e;cases e
  .rw [o] at e;cases e
  .rw [o] at e;cases e
  .rw [o] at e;simp at e;exact t e.1
def tS.QV (S:tS n a own N id) {id':Nat} (o:id'≠id) (hN:N id'=X h) (r:∀ b,¬ I7 own id b->V' b=a.V b):h.Fin/\yo V' h/\Bt V' h:=by
 obtain ⟨t,u,v⟩:=S.rest id' h o hN;refine ⟨t,u.frame S.lay hN fun b e=>r b fun j=>?_,v.frame S.lay hN fun b i e=>r b fun j=>?_⟩
 .have:=vB S.lay hN o j
  rcases e with rfl|e
  .exact this.1 rfl
  .exact this.2.1 e
 .exact (vB S.lay hN o j).2.2 i e
def yc (L:jr n own N) {id':Nat} (r:id'≠id) (hN:N id'=X h) (e:∀ b,¬ I7 own id b->V' b=V b) {p:Nat} (t:p<122880):jx V' h p=jx V h p:=
 oE L hN (fun b i j=>e b fun o=>(vB L hN r o).2.2 i j) t
def tS.gZ (S:tS n a own N 0) (id:Nat):tS n a own N id:=⟨S.lay,S.bm,S.len,fun id' h e hN=>S.rest id' h (by rintro rfl;rw [S.lay.Xt] at hN;cases hN) hN⟩
def tS.write (S:tS n a own N id) (o:I7 own id k) {l:List UInt8} (r:l.length=480):tS n { a with V:=AB a.V k l } own N id:=by
 refine ⟨S.lay,S.bm,fun b h0 j=>?_,fun id' h u hN=>S.QV u hN fun b t=>fH _ _ (by rintro rfl;exact t o)⟩
 by_cases e:b=k
 .subst e;show (AB a.V b l b).length=480;rw [kC];exact r
 .show (AB a.V k l b).length=480;rw [fH _ _ e];exact S.len b h0 j
def tS.step (S:tS n a own N id) {j:Nat->Own} {e:Nat->Option Hd} {o:List UInt8} (t:jr n j e) (v:Bm n j o) (hN:∀ id',id'≠id->e id'=N id'):tS n { a with B:=o } j e id:=
 ⟨t,v,S.len,fun id' h r u=>S.rest id' h r ((hN id' r).symm.trans u)⟩
def tS.shut (S:tS n a own N id) (j:∀ h,N id=X h->h.Fin/\yo a.V h/\Bt a.V h):tS n a own N 0:=
 ⟨S.lay,S.bm,S.len,fun id' h _ hN=>by
  by_cases e:id'=id
  .subst e;exact j h hN
  .exact S.rest id' h e hN⟩
def Hd.Ok.ok (e:h.Ok n id) (hn:n<=3840) (o:h.Fin):h.n.ok=Q:=by
 have t:∀ i,i<16->h.aN i=h.n.dr.getD i 0:=fun i hi=>by unfold Hd.aN;rw [if_pos hi]
 unfold Nd.ok
 have u:h.n.dr.all dh=Q:=by
  rw [H9];intro p z;obtain ⟨i,hi,rfl⟩:=H8 z;have y:i<16:=by have:=e.fit.1;omega
  have L:=e.pg i U;have r:=t i y;rw [A2,D3 hi] at r;simp only [Option.getD_some] at r;unfold dh;simp only [D7,decide_eq_true_eq];omega
 have v:dh h.n.rw=Q:=by
  have:=e.yK;have:=e.AE;unfold dh;simp only [D7,decide_eq_true_eq];omega
 have w:(16<aX h.n.sz)\/h.n.rw=0:=by
  by_cases h0:h.n.rw=0
  .exact .inr h0
  .obtain ⟨i,S,C,F⟩:=o.VH h0
   left
   by_cases j:aX h.n.sz<=i
   .exact absurd (o.hi i C j) F
   .omega
 have x:((B3 16).all fun i=>decide ((i:Int)<aX h.n.sz) || decide (h.n.dr.getD i 0=0))=Q:=by
  rw [H9];intro i hi;have hi:=List.mem_range.1 hi;simp only [D4,decide_eq_true_eq]
  by_cases j:aX h.n.sz<=i
  .right;rw [<- t i hi];exact o.hi i U j
  .left;omega
 rw [u,v,x];have:=e.kd;have:=e.I0;have:=e.Kf;have:=e.Kg;have:=e.OM;simp only [D7,D4,decide_eq_true_eq];exact ⟨⟨⟨⟨⟨⟨⟨⟨e.kd,e.I0⟩,e.Kf⟩,e.Kg⟩,e.OM⟩,trivial⟩,trivial⟩,w⟩,trivial⟩
def Hd.Ok.row (j:h.Ok n id) (hn:n<=3840):h.row.all dh=Q/\h.row.all (fun x=>decide (x<n))=Q:=by
 have o:∀ x ∈ h.row,0<=x/\x<n:=by
  intro x e;obtain ⟨i,hi,rfl⟩:=H8 e;have u:=j.fit.2;have r:=j.pg (16+i) U
  have t:h.aN (16+i)=h.row[i]:=by
   unfold Hd.aN;rw [if_neg U,show 16+i-16=i by omega,A2,D3 hi];rfl
  omega
 constructor
 .rw [H9];intro x e;have:=o x e;unfold dh;simp only [D7,decide_eq_true_eq];omega
 .rw [H9];intro x e;have:=o x e;simp only [decide_eq_true_eq];omega
def Hd.Ok.dr (e:h.Ok n id):h.n.dr.all (fun x=>decide (x<n))=Q:=by
 rw [H9];intro x j;obtain ⟨i,hi,rfl⟩:=H8 j;have r:=e.fit.1;have o:=e.pg i U
 have t:h.aN i=h.n.dr[i]:=by
  unfold Hd.aN;rw [if_pos U,A2,D3 hi];rfl
 simp only [decide_eq_true_eq];omega
def Hd.Ok.Wb (j:h.Ok n id) (h0:h.n.rw=0):h.row=D8 240 0:=by
 rw [K4];refine ⟨j.fit.2,fun x o=>?_⟩;obtain ⟨i,hi,rfl⟩:=H8 o;have r:=j.fit.2;have e:=j.rz h0 (16+i) U U;unfold Hd.aN at e;rw [if_neg U,show 16+i-16=i by omega,A2,D3 hi] at e;exact e
end
section
variable {σ:Type} {n id:Nat} {own:Nat->Own} {N:Nat->Option Hd} {h:Hd} {a:Aw} {V0:Nat->List UInt8} {I:σ->Prop} {ask:cL σ} {E:Int->Prop}
def aK.within {l:List Int} (e:l.all (fun x=>decide (x<n))=Q):aK n V0 I (eP n l) a (fun _ a'=>a'=a) E:=
 aK.congr (m':=WM.pure ()) (aK.pure rfl) fun st=>by unfold eP WM.pure;rw [if_pos e]
def aK.load (hr:qm ask n V0 I) (hn:n<=3840) (S:tS n a own N 0) (hN:N id=X h):aK n V0 I (fZ ask n (id:Int)) a (fun x a'=>x=h/\a'=a) E:=by
 obtain ⟨w,y,j⟩:=S.lay.ok _ _ hN;obtain ⟨z,u,C⟩:=S.rest id h U hN
 have r:∀ a,aK n V0 I (iT n id h.n h.row) a (fun x a'=>x=h/\a'=a) E:=by
  intro a;refine (aK.within j.dr).bind fun _ a' e=>?_;subst e;refine (aK.within (j.row hn).2).bind fun _ a' e=>?_;subst e;exact aK.pure ⟨by rw [<- j.id],rfl⟩
 refine aK.congr (m':=WM.bind (cZ ask (id:Int)) fun L=>TV (kN L) (lj ask n id)) ?_ fun st=>if_pos ⟨U,U⟩;refine (aK.read hr w y).bind fun L a' e=>?_;obtain ⟨rfl,-,rfl⟩:=e;have t:=u.dec;rw [j.id] at t;rw [t];refine aK.congr (m':=lj ask n id h.n) ?_ fun st=>if_pos rfl
 by_cases h0:h.n.rw=0
 .refine aK.congr (m':=iT n id h.n h.row) (r _) fun st=>?_
  rw [j.Wb h0];exact if_pos h0
 .have F:=j.yK
  have T:=j.AE;obtain ⟨k,v⟩:∃ k:Nat,h.n.rw=(k:Int):=⟨h.n.rw.toNat,U⟩
  have o:=u.row h0;refine aK.congr (m':=WM.bind (eP n [h.n.rw]) fun _=>WM.bind (cZ ask h.n.rw) fun L=>NB (l7 L) (iT n id h.n)) ?_ fun st=>if_neg h0;refine (aK.within (by simp;omega)).bind fun _ a' e=>?_;subst e;rw [v] at o ⊢;refine (aK.read hr U U).bind fun L a' e=>?_;obtain ⟨rfl,-,rfl⟩:=e;rw [B2] at o;rw [o];exact (r _).congr fun st=>if_pos rfl
def lh (V:Nat->List UInt8) (h:Hd):Nat->List UInt8:=if h.n.rw=0 then AB V h.id (iO h.n) else AB (AB V h.id (iO h.n)) h.n.rw.toNat (jR h.row)
def aK.save (o:0<h.id) (r:h.id<n) (x:h.n.rw<n) (w:0<=h.n.rw) (u:h.n.ok=Q) (v:h.row.all dh=Q) (j:h.row.length=240):aK n V0 I (dR h) a (fun _ a'=>a'={ a with V:=lh a.V h }) E:=by
 refine aK.congr (m':=WM.bind (cS (h.id:Int) (iO h.n)) fun _=>Kn h) ?_ fun st=>if_pos u;refine (aK.write o r (rJ _)).bind fun _ a' e=>?_;subst e
 by_cases h0:h.n.rw=0
 .refine aK.congr (m':=WM.pure ()) (aK.pure ?_) fun st=>if_pos h0
  unfold lh;rw [if_pos h0]
 .obtain ⟨k,t⟩:∃ k:Nat,h.n.rw=(k:Int):=⟨h.n.rw.toNat,U⟩
  refine aK.congr (m':=cS h.n.rw (jR h.row)) ?_ fun st=>(if_neg h0).trans (if_pos v);unfold lh;rw [if_neg h0];rw [t,B2];exact aK.write U U (by rw [ja,j])
def qk {V:Nat->List UInt8} {b:Nat} (e:b≠h.id) (j:h.n.rw≠0->b≠h.n.rw.toNat):lh V h b=V b:=by
 unfold lh
 split
 .exact fH _ _ e
 .rename_i h0;rw [fH _ _ (j h0),fH _ _ e]
def tS.saved (S:tS n a own N id) (hn:n<=3840) (hN:N id=X h) (v:h.Fin) (C:Bt a.V h):tS n { a with V:=lh a.V h } own N 0/\∀ p,p<122880->jx (lh a.V h) h p=jx a.V h p:=by
 obtain ⟨F,L,o⟩:=S.lay.ok _ _ hN;have r:=o.id
 have y:∀ b,¬ I7 own id b->lh a.V h b=a.V b:=by
  intro b j;refine qk ?_ fun h0=>?_
  .rintro rfl;exact j (.inr (.inl ⟨by rw [r];exact S.lay.tA hN,r⟩))
  .rintro rfl;exact j (.inr (.inr (.inl (S.lay.vR hN h0))))
 have w:∀ b i,own b=FI id i->lh a.V h b=a.V b:=by
  intro b i j;refine qk ?_ fun h0=>?_
  .rintro rfl;rw [r,S.lay.tA hN] at j;cases j
  .rintro rfl;rw [S.lay.vR hN h0] at j;cases j
 refine ⟨⟨S.lay,S.bm,fun b h0 j=>?_,fun id' g _ t=>?_⟩,fun p z=>oE S.lay hN w z⟩
 .show (lh a.V h b).length=480
  unfold lh
  have u:(AB a.V h.id (iO h.n) b).length=480:=by
   by_cases e:b=h.id
   .subst e;rw [kC];exact rJ _
   .rw [fH _ _ e];exact S.len b h0 j
  split
  .exact u
  .by_cases e:b=h.n.rw.toNat
   .subst e;rw [kC,ja,o.fit.2]
   .rw [fH _ _ e];exact u
 .by_cases e:id'=id
  .subst e
   rw [hN] at t;cases t
   refine ⟨v,⟨?_,fun h0=>?_⟩,C.frame S.lay hN w⟩
   .show kN (lh a.V h h.id)=_
    have e:lh a.V h h.id=iO h.n:=by
     unfold lh
     split
     .exact kC _ _ _
     .rename_i h0
      rw [fH _ _ ?_,kC];intro x;have:=S.lay.vR hN h0;rw [<- x,r,S.lay.tA hN] at this;cases this
    rw [e];exact Kp o.fit.1 (o.ok hn v)
   .show l7 (lh a.V h h.n.rw.toNat)=_
    unfold lh;rw [if_neg h0,kC];exact Ls o.fit.2 (o.row hn).1
  .exact S.QV e t y
end
structure AF where
 kd:Int
 lk:Int
 sz:Nat
 uq:Nat->UInt8
 pr:Nat->Bool
def dV (h:Hd) (i:Nat):Bool:=decide (i<256) && decide (h.aN i≠0)
def gI (V:Nat->List UInt8) (h:Hd):AF:=⟨h.n.kd,h.n.lk,h.n.sz.toNat,fun p=>if p<122880 then jx V h p else 0,dV h⟩
def j9 (pr:Nat->Bool):Nat:=(B3 256).countP pr
def Fi (pr:Nat->Bool):Bool:=(B3 256).any fun i=>decide (16<=i) && pr i
def bE (pr:Nat->Bool):Nat:=1+j9 pr+if Fi pr=Q then 1 else 0
def Hd.l9 (h:Hd):Nat:=1+j9 (dV h)+if h.n.rw=0 then 0 else 1
def gN {pr:Nat->Bool}:Fi pr=Q↔∃ i,16<=i/\i<256/\pr i=Q:=by
 unfold Fi;rw [List.any_eq_true];constructor
 .rintro ⟨i,hi,h⟩
  simp only [D7,decide_eq_true_eq] at h;exact ⟨i,h.1,List.mem_range.1 hi,h.2⟩
 .rintro ⟨i,e,j,o⟩
  exact ⟨i,List.mem_range.2 j,by simp only [D7,decide_eq_true_eq];exact ⟨e,o⟩⟩
def pY {p q:Nat->Bool} (h:∀ i,i<256->p i=q i):j9 p=j9 q:=by
 unfold j9;exact K8 fun i hi=>by rw [h i (List.mem_range.1 hi)]
def tu {p q:Nat->Bool} (h:∀ i,i<256->p i=q i):bE p=bE q:=by
 have e:Fi p=Fi q:=by
  cases t:Fi q with
  | true=>
   obtain ⟨i,o,j,r⟩:=gN.1 t;exact gN.2 ⟨i,o,j,by rw [h i j];exact r⟩
  | false=>
   cases u:Fi p with
   | false=>rfl
   | true=>
    obtain ⟨i,o,j,r⟩:=gN.1 u;rw [gN.2 ⟨i,o,j,by rw [<- h i j];exact r⟩] at t;cases t
 unfold bE;rw [pY h,e]
def vP (p q:Nat->Bool) (k:Nat) (h:∀ i,i≠k->p i=q i):∀ m,k<m->(B3 m).countP p+(if q k=Q then 1 else 0)=(B3 m).countP q+if p k=Q then 1 else 0
 | m+1,j=>by
  rw [J2,G3,G3];simp only [K9,List.countP_nil,K7]
  by_cases e:k=m
  .subst e
   have:(B3 k).countP p=(B3 k).countP q:=K8 fun i hi=>by rw [h i (by have:=List.mem_range.1 hi;omega)]
   omega
  .have:=vP p q k h m U
   rw [h m (Ne.symm e)];omega
def vy {p q:Nat->Bool} {k:Nat} (e:k<256) (h:∀ i,i≠k->p i=q i):j9 p+(if q k=Q then 1 else 0)=j9 q+if p k=Q then 1 else 0:=vP p q k h 256 e
def rM {p q:Nat->Bool}:∀ m,(∀ i,i<m->p i=Q->q i=Q)->(B3 m).countP p<=(B3 m).countP q
 | 0,_=>A3 _
 | m+1,h=>by
  rw [J2,G3,G3];simp only [K9,List.countP_nil,K7];have:=rM m fun i hi=>h i U;have j:=h m U
  split
  .rename_i e;rw [if_pos (j e)];omega
  .split <;> omega
def QA {p q:Nat->Bool} (h:∀ i,i<256->p i=Q->q i=Q):j9 p<=j9 q:=rM 256 h
def Qg {p q:Nat->Bool} {k:Nat} (t:k<256) (h:∀ i,i<256->p i=Q->q i=Q) (o:p k=H) (r:q k=Q):j9 p+1<=j9 q:=by
 have e:=vy (p:=fun i=>if i=k then Q else p i) (q:=p) t fun i hi=>if_neg hi;rw [if_neg (by rw [o];decide),if_pos (if_pos rfl)] at e
 have:=QA (p:=fun i=>if i=k then Q else p i) (q:=q) fun i hi j=>by
  by_cases e:i=k
  .subst e;exact r
  .rw [if_neg e] at j;exact h i hi j
 omega
section
variable {n id k i:Nat} {own:Nat->Own} {N:Nat->Option Hd} {h h':Hd} {a:Aw} {V V':Nat->List UInt8}
def fo:dV h i=Q↔i<256/\h.aN i≠0:=by unfold dV;simp
def gW (hi:i<256):dV h i=H↔h.aN i=0:=by
 unfold dV;simp [hi]
def rp (o:h.fit) (hi:i<256) (b:Int) (j:Nat):dV (h.put i b) j=if j=i then decide (b≠0) else dV h j:=by
 unfold dV;rw [Hd.jk o hi]
 by_cases e:j=i
 .subst e;rw [if_pos rfl,if_pos rfl];simp [hi]
 .rw [if_neg e,if_neg e]
def Hd.Ok.l9 (u:h.Ok n id) (t:h.Fin):h.l9=bE (dV h):=by
 unfold Hd.l9 bE;congr 1
 by_cases h0:h.n.rw=0
 .rw [if_pos h0,if_neg]
  intro r;obtain ⟨i,j,e,o⟩:=gN.1 r;exact (fo.1 o).2 (u.rz h0 i j e)
 .obtain ⟨i,j,e,o⟩:=t.VH h0
  rw [if_neg h0,if_pos (gN.2 ⟨i,j,e,fo.2 ⟨e,o⟩⟩)]
def Has (n:Nat) (a:Aw) (A:Nat->Option AF) (k:Nat):Prop:=∃ own N,tS n a own N 0/\xn own n=k/\∀ id,A id=(N id).map (gI a.V)
def Has.at {A:Nat->Option AF} {f:AF} (j:∀ id,A id=(N id).map (gI a.V)) (e:A id=X f):∃ h,N id=X h/\f=gI a.V h:=by
 rw [j id] at e
 cases hN:N id with
 | none=>rw [hN] at e;cases e
 | some h=>rw [hN] at e;exact ⟨h,rfl,by cases e;rfl⟩
structure AF.Wf (f:AF):Prop where
 kd:f.kd=1\/f.kd=2
 I0:0<=f.lk
 Kf:f.lk<=65535
 sz:f.sz<=122880
 tail:∀ p,f.sz<=p->f.uq p=0
 hole:∀ p,f.pr (p/480)=false->f.uq p=0
 Rf:∀ i,f.pr i=true->480*i<f.sz
def tS.wf (S:tS n a own N 0) (hN:N id=X h):(gI a.V h).Wf:=by
 obtain ⟨x,y,e⟩:=S.lay.ok _ _ hN;obtain ⟨u,w,v⟩:=S.rest id h U hN;have z0:=e.Kg;have z:=e.OM;refine ⟨e.kd,e.I0,e.Kf,show h.n.sz.toNat<=122880 by omega,fun p o=>?_,fun p o=>?_,fun i hi=>?_⟩
 .show (if p<122880 then jx a.V h p else 0)=0
  split
  .rename_i j;exact v p j (by have:h.n.sz.toNat<=p:=o;omega)
  .rfl
 .show (if p<122880 then jx a.V h p else 0)=0
  split
  .rename_i j
   unfold jx;rw [if_pos ((gW U).1 o)]
  .rfl
 .obtain ⟨j,t⟩:=fo.1 (show dV h i=Q from hi)
  show 480*i<h.n.sz.toNat
  by_cases r:aX h.n.sz<=i
  .exact absurd (u.hi i j r) t
  .unfold aX at r;omega
def Has.wf {A:Nat->Option AF} {f:AF} (o:Has n a A k) (j:A id=X f):f.Wf/\0<id/\id<n:=by
 obtain ⟨own,N,S,_,e⟩:=o;obtain ⟨h,hN,rfl⟩:=Has.at e j;exact ⟨S.wf hN,(S.lay.ok _ _ hN).1,(S.lay.ok _ _ hN).2.1⟩
end
section
variable {σ α:Type} {n id k:Nat} {own:Nat->Own} {N:Nat->Option Hd} {h:Hd} {a:Aw} {V0:Nat->List UInt8} {I:σ->Prop} {ask:cL σ} {E:Int->Prop} {A:Nat->Option AF} {f:AF}
def aK.node (hr:qm ask n V0 I) (hn:n<=3840) (r:Has n a A k) (o:A id=X f):aK n V0 I (rA ask n (id:Int)) a (fun x a'=>x.kd=f.kd/\x.lk=f.lk/\x.sz=f.sz/\a'=a) E:=by
 obtain ⟨own,N,S,_,j⟩:=r;obtain ⟨h,hN,rfl⟩:=Has.at j o;have t:=(S.lay.ok _ _ hN).2.2;refine (aK.load hr hn S hN).bind fun x a' e=>?_;obtain ⟨rfl,rfl⟩:=e;have:=t.Kg;exact aK.pure ⟨rfl,rfl,show x.n.sz=(x.n.sz.toNat:Int) by omega,rfl⟩
def aK.left (hr:qm ask n V0 I) (h0:0<n) (r:Has n a A k):aK n V0 I (pO ask n) a (fun x a'=>x=k/\a'=a) E:=by
 obtain ⟨own,N,S,t,y⟩:=r;intro st u;obtain ⟨v,j,o,w⟩:=aK.bits hr h0 st u;have e:pO ask n st=(.ok (n-(dp a.B n).length),v):=WM.aW j;rw [e];exact ⟨a,o,by rw [S.bm.left,t],rfl⟩
def pT {l d:List UInt8} {o:Nat} (h:o+d.length<=l.length) (j:Nat):(putAt l o d).getD j 0=if o<=j/\j<o+d.length then d.getD (j-o) 0 else l.getD j 0:=by
 unfold putAt;have e:(l.take o++d).length=o+d.length:=by rw [J3,E5];omega
 have r:(l.take o).length=o:=by rw [E5];omega
 simp only [A2]
 by_cases t:j<o
 .rw [if_neg U,K6 (by rw [e];omega),K6 (by rw [r];exact t),H6,if_pos t]
 .by_cases h4:j<o+d.length
  .rw [if_pos ⟨U,h4⟩,K6 (by rw [e];omega),K3 (by rw [r];omega),r]
  .rw [if_neg U,K3 (by rw [e];omega),e,H5,show o+d.length+(j-(o+d.length))=j by omega]
def aK.rd (hr:qm ask n V0 I) (S:tS n a own N 0) (hN:N id=X h) (off m:Nat) (hm:off+m<=122880):∀ (f done:Nat) (L:List UInt8),L.length=m->m-done<=f->(∀ j,j<m->L.getD j 0=if j<done then jx a.V h (off+j) else 0) ->
  aK n V0 I (C8 ask h off f done L) a (fun x a'=>x.length=m/\(∀ j,j<m->x.getD j 0=jx a.V h (off+j))/\a'=a) E:=by
 intro f
 induction f with
 | zero=>intro done L t hf u;exact aK.pure ⟨t,fun j o=>by rw [u j o,if_pos U],rfl⟩
 | succ f T=>
  intro done L t hf u;obtain ⟨i0,i1,ho⟩:=S.lay.ok _ _ hN
  by_cases hd:done<m
  .obtain ⟨l,v⟩:=Nm (iJ (L.length-done) (off+done))
   have b0:l=min (m-done) (480-(off+done)%480):=by rw [<- v,t];rfl
   have F:∀ j,done<=j->j<done+l->(off+j)/480=(off+done)/480/\(off+j)%480=(off+done)%480+(j-done):=fun j o r=>U
   by_cases h0:h.aN ((off+done)/480)=0
   .refine aK.congr (m':=C8 ask h off f (done+l) L) ?_ fun st=>by rw [<- v];exact Rt U h0 st
    refine T (done+l) L t U fun j o=>?_;rw [u j o]
    by_cases r:j<done
    .rw [if_pos r,if_pos U]
    .rw [if_neg r]
     split
     .unfold jx;rw [(F j U U).1,if_pos h0]
     .rfl
   .have hp:=ho.pg ((off+done)/480) U
    obtain ⟨b,C⟩:∃ b:Nat,h.aN ((off+done)/480)=(b:Int):=⟨(h.aN ((off+done)/480)).toNat,U⟩
    refine aK.congr (m':=WM.bind (cZ ask (b:Int)) fun y=>C8 ask h off f (done+l) (putAt L done ((y.drop ((off+done)%480)).take l))) ?_ fun st=>by
     refine (if_pos U).trans ((if_neg h0).trans ?_);rw [v,C]
    refine (aK.read hr U U).bind fun y a' e=>?_;obtain ⟨rfl,hX,e3⟩:=e;rw [e3];have w:(((a.V b).drop ((off+done)%480)).take l).length=l:=by rw [E5,J4,hX];omega
    refine T (done+l) _ (by rw [gv (by rw [w];omega)];exact t) U fun j o=>?_;rw [pT (by rw [w];omega),w]
    by_cases r:done<=j/\j<done+l
    .rw [if_pos r,if_pos U]
     obtain ⟨e1,e2⟩:=F j r.1 r.2;unfold jx;rw [e1,if_neg h0,C,e2,B2];simp only [A2];rw [H6,if_pos U,H5]
    .rw [if_neg r,u j o]
     by_cases z:j<done
     .rw [if_pos z,if_pos U]
     .rw [if_neg z,if_neg U]
  .refine aK.congr (m':=WM.pure L) (aK.pure ⟨t,fun j o=>by rw [u j o,if_pos U],rfl⟩) fun st=>if_neg U
def AF.sub (f:AF) (off e:Nat):List UInt8:=(B3 (min e (f.sz-off))).map fun j=>f.uq (off+j)
def aK.TQ (hr:qm ask n V0 I) (hn:n<=3840) (L:Has n a A k) (F:A id=X f) (off o:Nat):aK n V0 I (jI ask n (id:Int) (off:Int) (o:Int)) a (fun x a'=>x=f.sub off o/\a'=a) E:=by
 obtain ⟨own,N,S,_,C⟩:=L;obtain ⟨h,hN,rfl⟩:=Has.at C F;obtain ⟨i0,i1,v⟩:=S.lay.ok _ _ hN;have z0:=v.Kg;have z1:=v.OM;refine (aK.load hr hn S hN).bind fun x a' e=>?_;obtain ⟨rfl,rfl⟩:=e;have w:(gI a'.V x).sz=x.n.sz.toNat:=rfl
 by_cases t:x.n.sz<=(off:Int)
 .refine aK.congr (m':=WM.pure []) (aK.pure ⟨?_,rfl⟩) fun st=>(if_pos ⟨U,U⟩).trans (if_pos t)
  unfold AF.sub;rw [w,show min o (x.n.sz.toNat-off)=0 by omega];rfl
 .obtain ⟨m,T⟩:=Nm ((min (o:Int) (x.n.sz-(off:Int))).toNat)
  refine aK.congr (m':=C8 ask x off m 0 (zs m)) ?_ fun st=>by
   refine (if_pos ⟨U,U⟩).trans ((if_neg t).trans ?_);rw [T,B2]
  refine (aK.rd hr S hN off m U m 0 (zs m) (bg m) U fun j hj=>?_).mono (fun d0 c0 e=>?_) fun _ h=>h
  .rw [if_neg U]
   show (D8 m 0).getD j 0=0
   simp only [A2,D2];split <;> rfl
  .obtain ⟨r,y,z⟩:=e
   refine ⟨?_,z⟩;have b0:min o ((gI a'.V x).sz-off)=m:=by rw [w];omega
   unfold AF.sub;rw [b0];apply List.ext_getElem
   .simp [r]
   .intro j u h3
    rw [r] at u;have:=y j u;rw [A2,D3 U] at this;simp only [Option.getD_some] at this;rw [this,List.getElem_map,List.getElem_range];show _=if off+j<122880 then jx a'.V x (off+j) else 0
    rw [if_pos U]
end
structure bB (n:Nat) (a0:Aw) (N0:Nat->Option Hd) (id:Nat) (K:Nat) (a:Aw) (own:Nat->Own) (N:Nat->Option Hd) (h:Hd):Prop where
 sp:tS n a own N id
 hN:N id=some h
 T8:∀ id',id'≠id->N id'=N0 id'
 Dn:∀ id' g,id'≠id->N0 id'=some g->∀ p,p<122880->jx a.V g p=jx a0.V g p
 cons:xn own n+h.l9=K
section
variable {n id k i K:Nat} {own:Nat->Own} {N N0:Nat->Option Hd} {h h':Hd} {a a0:Aw} {V V':Nat->List UInt8}
def bB.start (S:tS n a own N 0) (hN:N id=X h):bB n a N id (xn own n+h.l9) a own N h:=
 ⟨S.gZ id,hN,fun _ _=>rfl,fun _ _ _ _ _ _=>rfl,rfl⟩
def bB.ok (T:bB n a0 N0 id K a own N h):h.Ok n id:=(T.sp.lay.ok _ _ T.hN).2.2
def bB.write (T:bB n a0 N0 id K a own N h) (o:I7 own id k) {l:List UInt8} (u:l.length=480):bB n a0 N0 id K { a with V:=AB a.V k l } own N h:=
 ⟨T.sp.write o u,T.hN,T.T8,fun id' g e j p r=>by
  have t:N id'=X g:=(T.T8 id' e).trans j;rw [<- T.Dn id' g e j p r];exact yc T.sp.lay e t (fun b v=>fH _ _ (by rintro rfl;exact v o)) r,T.cons⟩
def bB.step (T:bB n a0 N0 id K a own N h) {j:Nat->Own} {o:List UInt8} (r:jr n j (df N id (X h'))) (t:Bm n j o) (u:xn j n+h'.l9=K):bB n a0 N0 id K { a with B:=o } j (df N id (X h')) h':=
 ⟨T.sp.step r t fun id' e=>aI _ _ e,bA _ _ _,fun id' e=>(aI _ _ e).trans (T.T8 id' e),T.Dn,u⟩
def Og (e:h.fit) (hi:i<256) {b:Int} (h0:h.aN i=0) (o:b≠0):(h.put i b).l9=h.l9+1:=by
 unfold Hd.l9;rw [Hd.gV];have:=vy (p:=dV (h.put i b)) (q:=dV h) hi fun j r=>by rw [rp e hi,if_neg r]
 rw [rp e hi,if_pos rfl,(gW hi).2 h0] at this;simp only [o,ne_eq,not_false_eq_true,decide_true,if_true,Bool.false_eq_true,if_false] at this;omega
def Km (e:h.fit) (hi:i<256) (h0:h.aN i≠0):(h.put i 0).l9+1=h.l9:=by
 unfold Hd.l9;rw [Hd.gV];have:=vy (p:=dV (h.put i 0)) (q:=dV h) hi fun j o=>by rw [rp e hi,if_neg o]
 rw [rp e hi,if_pos rfl,fo.2 ⟨hi,h0⟩] at this;simp only [ne_eq,not_true_eq_false,decide_false,if_true,Bool.false_eq_true,if_false] at this;omega
def Oq (h0:h.n.rw=0) {b:Int} (j:b≠0):(h.dF b).l9=h.l9+1:=by
 unfold Hd.l9;have e:dV (h.dF b)=dV h:=rfl;rw [e,if_pos h0,if_neg (show (h.dF b).n.rw≠0 from j)]
def Of (h0:h.n.rw≠0):(h.dF 0).l9+1=h.l9:=by
 unfold Hd.l9;have e:dV (h.dF 0)=dV h:=rfl;rw [e,if_neg h0,if_pos (show (h.dF 0).n.rw=0 from rfl)]
def bB.Le (T:bB n a0 N0 id K a own N h) (hn:n<=3840) (e:own k=nA) (j:k<n) (hi:i<256) (h0:h.aN i=0) (hr:16<=i->h.n.rw≠0) :
  bB n a0 N0 id K { a with B:=dZ a.B k Q } (df own k (FI id i)) (df N id (X (h.put i (k:Int)))) (h.put i (k:Int)):=by
 have o:=T.sp.lay.jJ e;refine T.step (T.sp.lay.aN T.hN e j hi h0 hr) (T.sp.bm.set hn j _ _ Si0) ?_;have:=me (own:=own) (x:=FI id i) j;rw [if_pos e,if_neg Si0] at this;rw [Og T.ok.fit hi h0 U];have:=T.cons;omega
def bB.PT (T:bB n a0 N0 id K a own N h) (hn:n<=3840) (e:own k=nA) (j:k<n) (h0:h.n.rw=0) :
  bB n a0 N0 id K { a with B:=dZ a.B k Q } (df own k (Kj id)) (df N id (X (h.dF (k:Int)))) (h.dF (k:Int)):=by
 have o:=T.sp.lay.jJ e;refine T.step (T.sp.lay.row T.hN e j h0) (T.sp.bm.set hn j _ _ Si0) ?_;have:=me (own:=own) (x:=Kj id) j;rw [if_pos e,if_neg Si0] at this;rw [Oq h0 U];have:=T.cons;omega
def bB.B7 (T:bB n a0 N0 id K a own N h) (hn:n<=3840) (hi:i<256) (h0:h.aN i≠0) :
  bB n a0 N0 id K { a with B:=dZ a.B (h.aN i).toNat H } (df own (h.aN i).toNat nA) (df N id (X (h.put i 0))) (h.put i 0):=by
 have j:=T.ok.pg i hi;refine T.step (T.sp.lay.Td T.hN hi h0) (T.sp.bm.set hn U _ _ Si0) ?_;have:=me (own:=own) (x:=nA) (show (h.aN i).toNat<n by omega);rw [T.sp.lay.Bd T.hN hi h0,if_pos rfl,if_neg Si0] at this;have e:=Km T.ok.fit hi h0;have:=T.cons;omega
def bB.FR (T:bB n a0 N0 id K a own N h) (hn:n<=3840) (h0:h.n.rw≠0) (e:∀ i,16<=i->i<256->h.aN i=0) :
  bB n a0 N0 id K { a with B:=dZ a.B h.n.rw.toNat H } (df own h.n.rw.toNat nA) (df N id (X (h.dF 0))) (h.dF 0):=by
 have o:=T.ok.yK;have r:=T.ok.AE;refine T.step (T.sp.lay.UR T.hN h0 e) (T.sp.bm.set hn U _ _ Si0) ?_;have:=me (own:=own) (x:=nA) (show h.n.rw.toNat<n by omega);rw [T.sp.lay.vR T.hN h0,if_pos rfl,if_neg Si0] at this;have j:=Of h0;have:=T.cons;omega
def bB.set (T:bB n a0 N0 id K a own N h) (j:h'.Ok n id) (hr:h'.n.rw=h.n.rw) (e:∀ i,i<256->h'.aN i=h.aN i):bB n a0 N0 id K a own (df N id (X h')) h':=by
 refine T.step (T.sp.lay.set T.hN j hr e) T.sp.bm ?_
 have:h'.l9=h.l9:=by
  unfold Hd.l9;rw [hr,pY (p:=dV h') (q:=dV h) fun i hi=>by unfold dV;rw [e i hi]]
 rw [this];exact T.cons
def bB.done (T:bB n a0 N0 id K a own N h) (hn:n<=3840) (o:h.Fin) (ht:Bt a.V h) {A:Nat->Option AF} (F:∀ id,A id=(N0 id).map (gI a0.V)) (f:AF) (x:h.n.kd=f.kd) (y:h.n.lk=f.lk) (h3:h.n.sz=f.sz)
  (h4:∀ p,p<122880->jx a.V h p=f.uq p) (z:∀ p,122880<=p->f.uq p=0) (h5:∀ i,i<256->dV h i=f.pr i) (C:∀ i,256<=i->f.pr i=H):Has n { a with V:=lh a.V h } (df A id (X f)) (K-bE f.pr):=by
 obtain ⟨S,L⟩:=T.sp.saved hn T.hN o ht;have b0:=T.ok.l9 o;rw [tu h5] at b0;refine ⟨own,N,S,by have:=T.cons;omega,fun id'=>?_⟩
 by_cases e:id'=id
 .subst e
  rw [bA,T.hN];show X f=X (gI (lh a.V h) h)
  congr 1;obtain ⟨kd,lk,sz,uq,pr⟩:=f;dsimp only at *;unfold gI;have u:sz=h.n.sz.toNat:=U
  have v:uq=fun p=>if p<122880 then jx (lh a.V h) h p else 0:=by
   funext p
   split
   .rename_i j;rw [L p j];exact (h4 p j).symm
   .rename_i j;exact z p U
  have w:pr=dV h:=by
   funext i
   by_cases hi:i<256
   .exact (h5 i hi).symm
   .rw [C i U];unfold dV;simp [hi]
  rw [x,y,<- u,<- v,<- w]
 .rw [aI _ _ e,F id',<- T.T8 id' e]
  cases r:N id' with
  | none=>rfl
  | some g=>
   show X (gI a0.V g)=X (gI (lh a.V h) g)
   congr 1;have h0:N0 id'=X g:=(T.T8 id' e).symm.trans r;unfold gI;congr 1;funext p
   split
   .rename_i j
    rw [<- T.Dn id' g e h0 p j];refine (yc T.sp.lay e r (fun b t=>qk ?_ fun h0=>?_) j).symm
    .rintro rfl;exact t (.inr (.inl ⟨by rw [T.ok.id];exact T.sp.lay.tA T.hN,T.ok.id⟩))
    .rintro rfl;exact t (.inr (.inr (.inl (T.sp.lay.vR T.hN h0))))
   .rfl
end
section
variable {σ α:Type} {n id k K:Nat} {own:Nat->Own} {N N0:Nat->Option Hd} {h:Hd} {a a0:Aw} {V0:Nat->List UInt8} {I:σ->Prop} {ask:cL σ} {E:Int->Prop} {A:Nat->Option AF} {f:AF}
def aK.oo (T:bB n a0 N0 id K a own N h) (hn:n<=3840) (j:h.Fin):aK n V0 I (dR h) a (fun _ a'=>a'={ a with V:=lh a.V h }) E:=by
 have e:=T.ok;exact aK.save (by rw [e.id];exact (T.sp.lay.ok _ _ T.hN).1) (by rw [e.id];exact (T.sp.lay.ok _ _ T.hN).2.1) e.AE e.yK (e.ok hn j) (e.row hn).1 e.fit.2
def lx (kd:Int):AF:=⟨kd,1,0,fun _=>0,fun _=>H⟩
def fW (id:Nat) (kd:Int) (i:Nat):(du id kd).aN i=0:=by
 unfold du Hd.aN
 split
 .show (D8 16 (0:Int)).getD i 0=0
  simp only [A2,D2];split <;> rfl
 .show (D8 240 (0:Int)).getD (i-16) 0=0
  simp only [A2,D2];split <;> rfl
def KT {kd:Int} (e:kd=1\/kd=2) (h0:0<n):(du id kd).Ok n id:=
 ⟨⟨rfl,rfl⟩,rfl,e,(by decide:(0:Int)<=1),(by decide:(1:Int)<=65535),(by decide:(0:Int)<=0),(by decide:(0:Int)<=122880),(by decide:(0:Int)<=0),show (0:Int)<n by omega,fun i _=>by rw [fW];exact ⟨U,U⟩,fun _ i _ _=>fW _ _ _⟩
def oW (id:Nat) (kd:Int):(du id kd).Fin:=⟨fun i _ _=>fW _ _ _,fun h=>absurd rfl h⟩
def oJ (V:Nat->List UInt8) (id:Nat) (kd:Int) (p:Nat):jx V (du id kd) p=0:=by unfold jx;rw [if_pos (fW _ _ _)]
def yp (id:Nat) (kd:Int):(du id kd).l9=1:=by
 unfold Hd.l9
 have e:j9 (dV (du id kd))=0:=by
  unfold j9;rw [J7];intro i _ h;exact (fo.1 h).2 (fW _ _ _)
 rw [e,if_pos (show (du id kd).n.rw=0 from rfl)]
def wG:bE (fun _=>H)=1:=by
 unfold bE;have e:j9 (fun _=>H)=0:=by unfold j9;rw [J7];intro i _ h;cases h
 rw [e,if_neg];intro o;obtain ⟨i,_,_,j⟩:=gN.1 o;cases j
def bB.made (S:tS n a own N 0) (hn:n<=3840) (e:own k=nA) (j:k<n) {kd:Int} (r:kd=1\/kd=2) :
  bB n a N k (xn own n) { a with B:=dZ a.B k Q } (df own k Q3) (df N k (X (du k kd))) (du k kd):=by
 have t:=S.lay.jJ e;refine ⟨(S.gZ k).step (S.lay.new e j (KT r U) (fun i _=>fW _ _ _) rfl) (S.bm.set hn j _ _ Si0) fun id' o=>aI _ _ o,bA _ _ _,fun id' o=>aI _ _ o,fun _ _ _ _ _ _=>rfl,?_⟩;have:=me (own:=own) (x:=Q3) j;rw [if_pos e,if_neg Si0] at this;rw [yp];omega
def aK.new (hr:qm ask n V0 I) (h0:0<n) (hn:n<=3840) (C:Has n a A k) {kd:Int} (t:kd=1\/kd=2) :
  aK n V0 I (xO ask n kd) a (fun x a'=>A x=R/\0<x/\x<n/\0<k/\Has n a' (df A x (X (lx kd))) (k-1)) (fun c=>c=7/\k=0):=by
 obtain ⟨own,N,S,r,o⟩:=C;refine aK.congr (m':=WM.bind (iN ask n) (FE kd)) ?_ fun st=>if_pos t;refine (aK.take hr h0 fun z=>⟨rfl,by rw [<- r,S.bm.ie z]⟩).bind fun x a' e=>?_;obtain ⟨v,rfl⟩:=e;obtain ⟨u,j⟩:=S.bm.sY v;have L:=S.lay.jJ j;have T:=bB.made S hn j u t
 have F:0<k:=by
  have y:=T.cons;rw [yp] at y;omega
 refine (aK.oo T hn (oW _ _)).bind fun _ a' e=>?_;subst e;refine aK.pure ⟨by rw [o,S.lay.ie j];rfl,U,u,F,?_⟩;have:=T.done hn (oW _ _) (fun p _ _=>oJ _ _ _ _) o (lx kd) rfl rfl rfl (fun p _=>oJ _ _ _ _) (fun _ _=>rfl) (fun i hi=>(gW hi).2 (fW _ _ _)) fun _ _=>rfl;have w:bE (lx kd).pr=1:=wG;rw [w,r] at this;exact this
def aK.UF (hr:qm ask n V0 I) (hn:n<=3840) (L:Has n a A k) (F:A id=X f) (d:Int) :
  aK n V0 I (lq ask n (id:Int) d) a (fun _ a'=>(0<=wrap64 (f.lk+d)/\wrap64 (f.lk+d)<=65535)/\Has n a' (df A id (X { f with lk:=wrap64 (f.lk+d) })) k) (fun c=>c=1/\¬ (0<=wrap64 (f.lk+d)/\wrap64 (f.lk+d)<=65535)):=by
 obtain ⟨own,N,S,hk,u⟩:=L;obtain ⟨h,hN,rfl⟩:=Has.at u F;obtain ⟨i0,i1,j⟩:=S.lay.ok _ _ hN;obtain ⟨r,hs,ht⟩:=S.rest id h U hN;refine (aK.load hr hn S hN).bind fun x a' e=>?_;obtain ⟨rfl,rfl⟩:=e;show aK n V0 I (uz x (wrap64 (x.n.lk+d))) a' (fun _ t=>(0<=wrap64 (x.n.lk+d)/\wrap64 (x.n.lk+d)<=65535)/\Has n t (df A id (X { gI a'.V x with lk:=wrap64 (x.n.lk+d) })) k) (fun c=>c=1/\¬ (0<=wrap64 (x.n.lk+d)/\wrap64 (x.n.lk+d)<=65535))
 generalize wrap64 (x.n.lk+d)=z
 by_cases o:0<=z/\z<=65535
 .refine aK.congr (m':=dR (x.pM z)) ?_ fun st=>if_pos o
  have b0:(x.pM z).Ok n id:=⟨j.fit,j.id,j.kd,o.1,o.2,j.Kg,j.OM,j.yK,j.AE,j.pg,j.rz⟩
  have T:=(bB.start S hN).set b0 rfl fun _ _=>rfl;have v:(x.pM z).Fin:=⟨r.hi,r.VH⟩
  refine (aK.oo T hn v).mono (fun _ t e=>?_) fun _ h=>h;subst e;refine ⟨o,?_⟩;have z0:=j.Kg
  have:=T.done hn v (fun p y C=>ht p y C) u { gI a'.V x with lk:=z } rfl rfl (show x.n.sz=(x.n.sz.toNat:Int) by omega) (fun p w=>by show jx a'.V x p=if p<122880 then jx a'.V x p else 0;rw [if_pos w])
   (fun p w=>if_neg U) (fun i _=>rfl) (fun i hi=>by show dV x i=H;unfold dV;simp;omega)
  have e:bE ({ gI a'.V x with lk:=z }:AF).pr=x.l9:=(j.l9 r).symm;rw [e,Nat.add_sub_cancel,hk] at this;exact this
 .exact (aK.bad ⟨rfl,o⟩).congr fun st=>if_neg o
def aK.format (hr:qm ask n V0 I) (h0:4<=n) (hn:n<=3840) (b0:∀ b,0<b->b<n->(a.V b).length=480) :
  aK n V0 I (ji ask) a (fun _ a'=>Has n a' (fun id=>if id=1 then X (lx 2) else R) (n-2)) E:=by
 have hz:∀ b,dY (zs 480) b=H:=by
  intro b;unfold dY
  have e:(zs 480).getD (b/8) 0=0:=by
   show (D8 480 (0:UInt8)).getD (b/8) 0=0
   simp only [A2,D2];split <;> rfl
  rw [e];show decide ((0:UInt8).toNat/2 ^ (b%8)%2=1)=H
  have:(0:UInt8).toNat=0:=rfl;rw [this,Nat.zero_div];decide
 obtain ⟨j,r⟩:∃ o:Nat->Own,o=fun b=>if b=0 then MV else nA:=⟨_,rfl⟩
 have w:jr n j (fun _=>R):=by
  subst r;refine ⟨fun b=>?_,fun b F=>if_neg U,fun id h t=>(by cases t),fun b=>?_,fun b id=>?_,fun b id i=>?_⟩
  .show (if b=0 then MV else nA)=MV↔b=0
   split
   .rename_i e;exact ⟨fun _=>e,fun _=>rfl⟩
   .rename_i e;exact ⟨fun h=>(by cases h),fun h=>absurd h e⟩
  .show (if b=0 then MV else nA)=Q3↔_
   split <;> simp
  .show (if b=0 then MV else nA)=Kj id↔_
   unfold eB
   split <;> simp
  .show (if b=0 then MV else nA)=FI id i↔_
   unfold ez
   split <;> simp
 have v:Bm n j (dZ (zs 480) 0 Q):=by
  subst r;refine ⟨by rw [fu];exact bg 480,fun b F=>?_⟩;rw [yr (by rw [bg];omega),hz]
  by_cases e:b=0
  .subst e;simp
  .rw [if_neg e,if_neg e];simp
 have L:xn j n=n-1:=by
  subst r
  have:∀ m,0<m->xn (fun b=>if b=0 then MV else nA) m=m-1:=by
   intro m
   induction m with
   | zero=>intro h;omega
   | succ m ih=>
    intro _;rw [rK]
    by_cases e:m=0
    .subst e;rfl
    .rw [ih U,if_neg e,if_pos rfl];omega
  exact this n U
 have x:tS n ⟨a.V,dZ (zs 480) 0 Q⟩ j (fun _=>R) 0:=⟨w,v,b0,fun id' h _ t=>(by cases t)⟩
 have S:j 1=nA:=by subst r;rfl
 have T:=bB.made x hn S U (.inr rfl)
 have C:aK n V0 I (WM.bind (cI ask 1 Q) fun _=>dR (du 1 2)) ⟨a.V,dZ (zs 480) 0 Q⟩ (fun _ a'=>Has n a' (fun id=>if id=1 then X (lx 2) else R) (n-2)) E:=by
  refine (aK.mark hr U).bind fun _ a' e=>?_;subst e;refine (aK.oo T hn (oW _ _)).mono (fun _ a' e=>?_) fun _ h=>h;subst e;have:=T.done hn (oW _ _) (fun p _ _=>oJ _ _ _ _) (A:=fun _=>R) (fun _=>rfl) (lx 2) rfl rfl rfl (fun p _=>oJ _ _ _ _) (fun _ _=>rfl) (fun i hi=>(gW hi).2 (fW _ _ _)) fun _ _=>rfl;have y:bE (lx 2).pr=1:=wG;rw [y,L] at this;exact this
 intro st u;have z:cI ask 0 Q { st with bits:=X (zs 480) }=(.ok (),{ st with bits:=X (dZ (zs 480) 0 Q),dt:=Q }):=rfl;have e:ji ask st=(WM.bind (cI ask 1 Q) fun _=>dR (du 1 2)) { st with bits:=X (dZ (zs 480) 0 Q),dt:=Q }:=WM.aW z;rw [e];exact C _ ⟨u.gC,u.view,.inl rfl,fun h=>by simp at h,by rw [fu];exact bg 480⟩
end
def cW (off m i:Nat):Bool:=decide (0<m) && (decide (480*i<off+m) && decide (off<480*i+480))
def cJ {off m i:Nat}:cW off m i=Q↔0<m/\480*i<off+m/\off<480*i+480:=by
 unfold cW;simp only [D7,decide_eq_true_eq]
def AF.wr (f:AF) (off:Nat) (d:List UInt8):AF:=
 { f with sz:=if d.length=0 then f.sz else max f.sz (off+d.length),uq:=fun p=>if off<=p/\p<off+d.length then d.getD (p-off) 0 else f.uq p,pr:=fun i=>f.pr i || cW off d.length i }
def yC (h h':Hd):Prop:=h.n.kd=h'.n.kd/\h.n.lk=h'.n.lk/\h.n.sz=h'.n.sz
section
variable {n id k q K:Nat} {own:Nat->Own} {N N0:Nat->Option Hd} {h h' h0:Hd} {a a0:Aw}
def yV (h:Hd) (i:Nat) (b:Int):yC (h.put i b) h:=by unfold Hd.put yC;split <;> exact ⟨rfl,rfl,rfl⟩
def BH {V:Nat->List UInt8} {p:Nat} (e:h.aN (p/480)=h'.aN (p/480)):jx V h p=jx V h' p:=by unfold jx;rw [e]
def bB.xT (T:bB n a0 N0 id K a own N h) (u:q<256) {b:Nat} (o:h.aN q=(b:Int)) (v:0<b) {l:List UInt8} (t:l.length=480) :
  bB n a0 N0 id K { a with V:=AB a.V b l } own N h/\∀ p,p<122880->jx (AB a.V b l) h p=if p/480=q then l.getD (p%480) 0 else jx a.V h p:=by
 have j:=T.sp.lay.Bd T.hN u (show h.aN q≠0 by omega);rw [o,B2] at j;refine ⟨T.write (.inr (.inr (.inr ⟨q,j⟩))) t,fun p w=>?_⟩
 by_cases e:p/480=q
 .rw [if_pos e]
  unfold jx;rw [e,if_neg U,o,B2,kC]
 .rw [if_neg e]
  unfold jx
  split
  .rfl
  .rename_i h0
   rw [fH];intro r;have:=T.sp.lay.Bd T.hN (show p/480<256 by omega) h0;rw [r,j] at this;simp only [Prod.mk.injEq] at this;exact e this.2.2.symm
end
section
variable {σ α:Type} {n id k q K:Nat} {own:Nat->Own} {N N0:Nat->Option Hd} {h h0:Hd} {a a0:Aw} {V0:Nat->List UInt8} {I:σ->Prop} {ask:cL σ} {E:Int->Prop} {A:Nat->Option AF} {f:AF}
def FK (n:Nat) (a0:Aw) (N0:Nat->Option Hd) (id K:Nat) (a:Aw) (h:Hd) (q:Nat) (e:Bool) (p:Hd × Int × List UInt8) (a':Aw):Prop:=
 ∃ own N,bB n a0 N0 id K a' own N p.1/\a'.V=a.V/\(∃ b:Nat,p.2.1=(b:Int)/\p.1.aN q=(b:Int)/\0<b)/\(∀ i,i≠q->p.1.aN i=h.aN i)/\yC p.1 h/\(p.1.n.rw≠0->h.n.rw≠0\/16<=q) /\
  p.2.2.length=480/\(e=H->∀ r,r<480->p.2.2.getD r 0=jx a.V h (480*q+r))
def GA (K:Nat) (h:Hd) (q:Nat) (c:Int):Prop:=c=7/\∃ e:Hd,e.l9=K/\(∀ i,e.aN i=h.aN i)/\h.aN q=0/\(e.n.rw≠0->h.n.rw≠0\/16<=q)
def Gk (m r:Nat):(zs m).getD r 0=0:=by
 show (D8 m (0:UInt8)).getD r 0=0
 simp only [A2,D2];split <;> rfl
def aK.QX (hr:qm ask n V0 I) (hn:n<=3840) (T:bB n a0 N0 id K a own N h) (u:q<256) (t:h.aN q=0) (S:16<=q->h.n.rw≠0) {h1:Hd} {V1:Nat->List UInt8} (z:a.V=V1) (j:∀ i,h.aN i=h1.aN i) (o:yC h h1) (v:h.n.rw≠0->h1.n.rw≠0\/16<=q) (wh:Bool) :
  aK n V0 I (qi ask n h q) a (fun p a'=>FK n a0 N0 id K ⟨V1,[]⟩ h1 q wh p a') (GA K h1 q):=by
 have h0:0<n:=by have:=(T.sp.lay.ok _ _ T.hN);omega
 have y:fw a.B n=R->GA K h1 q 7:=fun L=>⟨rfl,h,by have:=T.cons;have:=T.sp.bm.ie L;omega,j,by rw [<- j];exact t,v⟩
 refine (aK.take hr h0 y).bind fun b a' e=>?_
 .obtain ⟨C,rfl⟩:=e
  obtain ⟨F,w⟩:=T.sp.bm.sY C;have b0:=T.sp.lay.jJ w;have x:=T.Le hn w F u t S;refine aK.pure ⟨_,_,x,z,⟨b,rfl,?_,U⟩,fun i hi=>?_,?_,?_,bg 480,fun _ r c0=>?_⟩
  .show (h.put q (b:Int)).aN q=b
   rw [Hd.jk T.ok.fit u,if_pos rfl]
  .show (h.put q (b:Int)).aN i=_
   rw [Hd.jk T.ok.fit u,if_neg hi];exact j i
  .obtain ⟨s1,s2,s3⟩:=yV h q (b:Int)
   exact ⟨s1.trans o.1,s2.trans o.2.1,s3.trans o.2.2⟩
  .show (h.put q (b:Int)).n.rw≠0->_
   rw [Hd.gV];exact v
  .show (zs 480).getD r 0=_
   rw [Gk];unfold jx;rw [show (480*q+r)/480=q by omega,if_pos (by rw [<- j];exact t)]
def aK.open (hr:qm ask n V0 I) (hn:n<=3840) (T:bB n a0 N0 id K a own N h) (w:q<256) (u:Bool) :
  aK n V0 I (nj ask n h q u) a (FK n a0 N0 id K a h q u) (GA K h q):=by
 have h0:0<n:=by have:=(T.sp.lay.ok _ _ T.hN);omega
 have x:∀ p a',FK n a0 N0 id K ⟨a.V,[]⟩ h q u p a'->FK n a0 N0 id K a h q u p a':=fun p a' h=>h
 by_cases t:h.aN q=0
 .by_cases v:16<=q/\h.n.rw=0
  .refine aK.congr (m':=WM.bind (iN ask n) fun r=>qi ask n (h.dF (r:Int)) q) ?_ fun st=>(if_pos t).trans (if_pos v)
   have S:fw a.B n=R->GA K h q 7:=fun hf=>⟨rfl,h,by have:=T.cons;have:=T.sp.bm.ie hf;omega,fun _=>rfl,t,fun j=>absurd v.2 j⟩
   refine (aK.take hr h0 S).bind fun b a' e=>?_
   .obtain ⟨o,rfl⟩:=e
    obtain ⟨b0,y⟩:=T.sp.bm.sY o;have c0:=T.sp.lay.jJ y;have z:=T.PT hn y b0 v.2;exact (aK.QX hr hn z w t (fun _=>show (b:Int)≠0 by omega) (h1:=h) (V1:=a.V) rfl (fun _=>rfl) ⟨rfl,rfl,rfl⟩ (fun _=>.inr v.1) u).mono x fun _ h=>h
  .refine aK.congr (m':=qi ask n h q) ?_ fun st=>(if_pos t).trans (if_neg v)
   exact (aK.QX hr hn T w t (fun j F=>v ⟨j,F⟩) (h1:=h) (V1:=a.V) rfl (fun _=>rfl) ⟨rfl,rfl,rfl⟩ (fun j=>.inl j) u).mono x fun _ h=>h
 .have d0:=T.ok.pg q w
  obtain ⟨b,o⟩:∃ b:Nat,h.aN q=(b:Int):=⟨(h.aN q).toNat,U⟩
  cases u with
  | true=>
   refine aK.congr (m':=WM.pure (h,h.aN q,zs 480)) (aK.pure ?_) fun st=>(if_neg t).trans (if_pos rfl);exact ⟨own,N,T,rfl,⟨b,o,o,U⟩,fun _ _=>rfl,⟨rfl,rfl,rfl⟩,fun j=>.inl j,bg 480,fun j=>by cases j⟩
  | false=>
   refine aK.congr (m':=WM.bind (cZ ask (b:Int)) fun L=>WM.pure (h,h.aN q,L)) ?_ fun st=>by
    refine ((if_neg t).trans (if_neg De0)).trans ?_;rw [o]
   refine (aK.read hr U U).bind fun L a' e=>?_;obtain ⟨rfl,hL,C⟩:=e;rw [C];refine aK.pure ⟨own,N,T,rfl,⟨b,o,o,U⟩,fun _ _=>rfl,⟨rfl,rfl,rfl⟩,fun j=>.inl j,hL,fun _ r e0=>?_⟩;unfold jx;rw [show (480*q+r)/480=q by omega,if_neg t,o,show (480*q+r)%480=r by omega,B2]
structure Wq (n:Nat) (a0:Aw) (N0:Nat->Option Hd) (id K:Nat) (h0:Hd) (off:Nat) (d:List UInt8) (done:Nat) (a:Aw) (h:Hd):Prop where
 st:∃ own N,bB n a0 N0 id K a own N h
 same:yC h h0
 Dn:∀ p,p<122880->jx a.V h p=if off<=p/\p<off+done then d.getD (p-off) 0 else jx a0.V h0 p
 Rf:∀ i,i<256->dV h i=(dV h0 i || cW off done i)
 rw:h.n.rw≠0->h0.n.rw≠0\/∃ i,16<=i/\i<256/\cW off done i=true
def aK.wr (hr:qm ask n V0 I) (hn:n<=3840) (m0:h0.Fin) (off:Nat) (d:List UInt8) (hm:off+d.length<=122880):∀ (f done:Nat) (a:Aw) (h:Hd),done<=d.length->d.length-done<=f->Wq n a0 N0 id K h0 off d done a h->(done<d.length->done=0\/(off+done)%480=0) ->
  aK n V0 I (yH ask n off d f done h) a (fun h' a'=>Wq n a0 N0 id K h0 off d d.length a' h') (fun c=>c=7/\K<bE fun i=>dV h0 i || cW off d.length i):=by
 intro f
 induction f with
 | zero=>
  intro done a h hd hf T _;obtain rfl:done=d.length:=U
  exact aK.pure T
 | succ f ih=>
  intro done a h hd hf T r0
  by_cases f0:done<d.length
  .obtain ⟨k,hk⟩:=Nm (iJ (d.length-done) (off+done))
   have n0:k=min (d.length-done) (480-(off+done)%480):=by rw [<- hk];rfl
   obtain ⟨q,hq⟩:=Nm ((off+done)/480)
   obtain ⟨r,j0⟩:=Nm ((off+done)%480)
   have u0:off+done=480*q+r:=U
   have x0:r<480:=U
   have u:q<256:=U
   rw [j0] at n0
   refine aK.congr (m':=WM.bind (nj ask n h q (k == 480)) (Aq (yH ask n off d f) done off k d)) ?_ fun st=>by
    rw [<- hq,<- hk];exact if_pos f0
   obtain ⟨own,N,T0⟩:=T.st;have k0:cW off d.length q=Q:=cJ.2 ⟨U,U,U⟩
   have g0:∀ i,cW off done i=Q->cW off d.length i=Q:=fun i hi=>by
    obtain ⟨x,o,t⟩:=cJ.1 hi;exact cJ.2 ⟨U,U,t⟩
   refine ((aK.open hr hn T0 u (k == 480)).mono (fun _ _ h=>h) fun c hE=>?_).bind fun p a' hP=>?_
   .obtain ⟨rfl,hx,x1,x2,x3,x4⟩:=hE
    refine ⟨rfl,?_⟩;rw [<- x1];unfold Hd.l9 bE
    have s0:j9 (dV hx)+1<=j9 fun i=>dV h0 i || cW off d.length i:=by
     refine Qg u (fun i hi x=>?_) ((gW u).2 (by rw [x2];exact x3)) (by simp only [k0,K5])
     have o:dV h i=Q:=by
      obtain ⟨t,h4⟩:=fo.1 x;rw [x2] at h4;exact fo.2 ⟨t,h4⟩
     rw [T.Rf i hi,D4] at o;rw [D4];rcases o with o|o
     .exact .inl o
     .exact .inr (g0 i o)
    by_cases e0:hx.n.rw=0
    .rw [if_pos e0];omega
    .rw [if_neg e0,if_pos]
     .omega
     .rw [gN]
      rcases x4 e0 with j|j
      .rcases T.rw j with j|⟨i,z,v,C⟩
       .obtain ⟨i,z,v,C⟩:=m0.VH j
        exact ⟨i,z,v,by rw [D4];exact .inl (fo.2 ⟨v,C⟩)⟩
       .exact ⟨i,z,v,by rw [D4];exact .inr (g0 i C)⟩
      .exact ⟨q,j,u,by rw [D4];exact .inr k0⟩
   .obtain ⟨h',bI,b0⟩:=p
    obtain ⟨p0,N',T1,hV,⟨b,p1,p2,p3⟩,p4,F,p6,L,p8⟩:=hP;dsimp only at T1 p1 p2 p4 F p6 L p8;subst p1;obtain ⟨S,c0⟩:=Nm ((d.drop done).take k)
    have d0:S.length=k:=by rw [<- c0,E5,J4];omega
    have i0:(putAt b0 r S).length=480:=by rw [gv (by rw [d0,L];omega)];exact L
    refine aK.congr (m':=WM.bind (cS (b:Int) (putAt b0 r S)) fun _=>yH ask n off d f (done+k) h') ?_ fun st=>by
     unfold Aq;dsimp only;rw [j0,c0]
    refine (aK.write p3 (by have j:=(T1.ok.pg q U).2;rw [p2] at j;omega) i0).bind fun _ q0 e=>?_;rw [e];obtain ⟨T2,hb⟩:=T1.xT u p2 p3 i0;refine ih (done+k) _ h' U U ⟨⟨p0,N',T2⟩,⟨F.1.trans T.same.1,F.2.1.trans T.same.2.1,F.2.2.trans T.same.2.2⟩,fun p hp=>?_,fun i hi=>?_,fun j=>?_⟩ (fun _=>by right;omega)
    .show jx (AB a'.V b (putAt b0 r S)) h' p=_
     rw [hb p hp]
     by_cases e:p/480=q
     .rw [if_pos e,pT (by rw [d0,L];omega),d0]
      by_cases e2:r<=p%480/\p%480<r+k
      .rw [if_pos e2,if_pos U,<- c0]
       simp only [A2];rw [H6,if_pos U,H5,show done+(p%480-r)=p-off by omega]
      .have hw:(k == 480)=H:=by
        cases o0:(k == 480) with
        | false=>rfl
        | true=>
         have:k=480:=by simpa using o0
         omega
       rw [if_neg e2,p8 hw _ U,show 480*q+p%480=p by omega,T.Dn p hp]
       by_cases w:off<=p/\p<off+done
       .rw [if_pos w,if_pos U]
       .rw [if_neg w,if_neg U]
     .rw [if_neg e,BH (p4 _ e),hV,T.Dn p hp]
      by_cases w:off<=p/\p<off+done
      .rw [if_pos w,if_pos U]
      .rw [if_neg w,if_neg U]
    .by_cases e:i=q
     .subst e
      rw [fo.2 ⟨hi,U⟩];have:cW off (done+k) i=Q:=cJ.2 ⟨U,U,U⟩;rw [this,K5]
     .have e1:dV h' i=dV h i:=by unfold dV;rw [p4 i e]
      rw [e1,T.Rf i hi];congr 1
      cases j:cW off done i with
      | true=>
       obtain ⟨x,o,t⟩:=cJ.1 j;exact (cJ.2 ⟨U,U,t⟩).symm
      | false=>
       cases y:cW off (done+k) i with
       | false=>rfl
       | true=>
        obtain ⟨x,o,t⟩:=cJ.1 y;have:cW off done i=Q:=cJ.2 ⟨U,U,t⟩;rw [this] at j;cases j
    .rcases p6 j with y|y
     .rcases T.rw y with l0|⟨i,z,v,C⟩
      .exact .inl l0
      .obtain ⟨x,o,t⟩:=cJ.1 C
       exact .inr ⟨i,z,v,cJ.2 ⟨U,U,t⟩⟩
     .exact .inr ⟨q,y,u,cJ.2 ⟨U,U,U⟩⟩
  .obtain rfl:done=d.length:=U
   refine aK.congr (m':=WM.pure h) (aK.pure T) fun st=>if_neg f0
def MN {A:Nat->Option AF} (j:A id=X f):df A id (X f)=A:=by
 funext b
 by_cases e:b=id
 .subst e;rw [bA,j]
 .exact aI _ _ e
def AF.TH (f:AF) (off:Nat) {d:List UInt8} (e:d.length=0):f.wr off d=f:=by
 obtain ⟨kd,lk,sz,uq,pr⟩:=f;unfold AF.wr;rw [if_pos e,e];congr 1
 .funext p;rw [if_neg U]
 .funext i
  have:cW off 0 i=H:=by unfold cW;simp
  rw [this,Bool.or_false]
def aK.P5 (hr:qm ask n V0 I) (hn:n<=3840) (hh:Has n a A k) (hf:A id=X f) (off:Nat) (d:List UInt8) (hd:d.length<=4096) (hm:off+d.length<=122880) :
  aK n V0 I (gF ask n (id:Int) (off:Int) d) a (fun _ a'=>Has n a' (df A id (X (f.wr off d))) (k+bE f.pr-bE (f.wr off d).pr)/\bE (f.wr off d).pr<=k+bE f.pr) (fun c=>c=7/\k+bE f.pr<bE (f.wr off d).pr):=by
 have j0:=hh;obtain ⟨own,N,S,hk,hA⟩:=hh;obtain ⟨h,hN,rfl⟩:=Has.at hA hf;obtain ⟨i0,C,ho⟩:=S.lay.ok _ _ hN;obtain ⟨y,hs,ht⟩:=S.rest id h U hN;have z0:=ho.Kg;have z1:=ho.OM;refine (aK.load hr hn S hN).bind fun x a' e=>?_;obtain ⟨rfl,rfl⟩:=e
 by_cases v:d.length=0
 .rw [AF.TH _ _ v]
  refine aK.congr (m':=WM.pure ()) (aK.pure ⟨?_,U⟩) fun st=>(if_pos ⟨U,hd,U⟩).trans (if_pos v);rw [MN hf,Nat.add_sub_cancel];exact j0
 .refine aK.congr (m':=WM.bind (yH ask n off d d.length 0 x) (IX off d)) ?_ fun st=>by
   refine ((if_pos ⟨U,hd,U⟩).trans (if_neg v)).trans ?_;rw [B2]
  have f0:bE (gI a'.V x).pr=x.l9:=(ho.l9 y).symm
  have W0:Wq n a' N id (xn own n+x.l9) x off d 0 a' x:=⟨⟨own,N,bB.start S hN⟩,⟨rfl,rfl,rfl⟩,fun p _=>by rw [if_neg U],fun i _=>by
   have:cW off 0 i=H:=by unfold cW;simp
   rw [this,Bool.or_false],fun o=>.inl o⟩
  refine ((aK.wr hr hn y off d hm d.length 0 a' x (Nat.zero_le _) U W0 (fun _=>.inl rfl)).mono (fun _ _ h=>h) fun c hc=>⟨hc.1,by rw [f0,<- hk];exact hc.2⟩).bind fun h' L j=>?_
  .obtain ⟨m0,N',c0⟩:=j.st
   obtain ⟨s1,s2,s3⟩:=j.same;obtain ⟨z,hz⟩:=Nm (max h'.n.sz ((off+d.length:Nat):Int))
   show aK n V0 I (dR (h'.cP (max h'.n.sz ((off+d.length:Nat):Int)))) L _ _
   rw [hz];have l0:z=max x.n.sz ((off+d.length:Nat):Int):=by rw [<- hz,s3]
   have r:=c0.ok;have g0:(h'.cP z).Ok n id:=⟨r.fit,r.id,r.kd,r.I0,r.Kf,show 0<=z by omega,show z<=122880 by omega,r.yK,r.AE,r.pg,r.rz⟩
   have F:=c0.set g0 rfl fun _ _=>rfl
   have b0:(h'.cP z).Fin:=by
    refine ⟨fun i hi hb=>?_,fun o=>?_⟩
    .have d0:aX z<=i:=hb
     show h'.aN i=0
     rw [<- gW hi,j.Rf i hi];have T:dV x i=H:=(gW hi).2 (y.hi i hi (by unfold aX at d0 ⊢;omega))
     have e2:cW off d.length i=H:=by
      cases o:cW off d.length i with
      | false=>rfl
      | true=>
       obtain ⟨t,w,h3⟩:=cJ.1 o;unfold aX at d0;omega
     rw [T,e2];rfl
    .rcases j.rw o with o|⟨i,C,u,i3⟩
     .obtain ⟨i,C,u,i3⟩:=y.VH o
      refine ⟨i,C,u,?_⟩;have:dV h' i=Q:=by rw [j.Rf i u,fo.2 ⟨u,i3⟩];rfl
      exact (fo.1 this).2
     .refine ⟨i,C,u,?_⟩
      have:dV h' i=Q:=by rw [j.Rf i u,i3,K5]
      exact (fo.1 this).2
   have e0:∀ p,p<122880->jx L.V (h'.cP z) p=((gI a'.V x).wr off d).uq p:=fun p hp=>by
    show jx L.V h' p=if off<=p/\p<off+d.length then d.getD (p-off) 0 else if p<122880 then jx a'.V x p else 0
    rw [j.Dn p hp,if_pos hp]
   refine (aK.oo F hn b0).mono (fun _ b e=>?_) fun _ h=>h;subst e;have:=F.done hn b0 (fun p t w=>?_) hA ((gI a'.V x).wr off d) s1 s2 ?_ e0 (fun p hp=>?_) (fun i hi=>j.Rf i hi) fun i hi=>?_
   .rw [<- hk,f0]
    refine ⟨this,?_⟩;have t:=F.cons;have w:=g0.l9 b0;have h3:bE ((gI a'.V x).wr off d).pr=bE (dV (h'.cP z)):=tu fun i hi=>(j.Rf i hi).symm;omega
   .have k0:z<=p:=w
    rw [e0 p t];show (if off<=p/\p<off+d.length then d.getD (p-off) 0 else if p<122880 then jx a'.V x p else 0)=0
    rw [if_neg U,if_pos t];exact ht p t U
   .show z=(((if d.length=0 then x.n.sz.toNat else max x.n.sz.toNat (off+d.length)):Nat):Int)
    rw [if_neg v];omega
   .show (if off<=p/\p<off+d.length then d.getD (p-off) 0 else if p<122880 then jx a'.V x p else 0)=0
    rw [if_neg U,if_neg U]
   .show (dV x i || cW off d.length i)=H
    have T:dV x i=H:=by unfold dV;simp;omega
    have e2:cW off d.length i=H:=by
     cases o:cW off d.length i with
     | false=>rfl
     | true=>
      obtain ⟨t,w,h3⟩:=cJ.1 o;omega
    rw [T,e2];rfl
end
def AF.cut (f:AF) (e:Nat):AF:={ f with sz:=e,uq:=fun p=>if p<e then f.uq p else 0,pr:=fun i=>f.pr i && decide (480*i<e) }
section
variable {σ α:Type} {n id k q K:Nat} {own:Nat->Own} {N N0:Nat->Option Hd} {h h0:Hd} {a a0:Aw} {V0:Nat->List UInt8} {I:σ->Prop} {ask:cL σ} {E:Int->Prop} {A:Nat->Option AF} {f:AF}
def CO (o:h.fit):h.row=D8 240 0↔∀ i,16<=i->i<256->h.aN i=0:=by
 constructor
 .intro e i v w
  unfold Hd.aN;rw [if_neg U,e];simp only [A2,D2];split <;> rfl
 .intro t
  rw [K4];refine ⟨o.2,fun x r=>?_⟩;obtain ⟨i,hi,rfl⟩:=H8 r;have u:=o.2;have j:=t (16+i) U U;unfold Hd.aN at j;rw [if_neg U,show 16+i-16=i by omega,A2,D3 hi] at j;exact j
def aK.Wu (hr:qm ask n V0 I) (T:bB n a0 N0 id K a own N h) {j:Nat} (S:h.n.sz=(j:Int)) (e0:j<=122880) (hp:∀ i,i<256->j<=480*i->h.aN i=0) :
  aK n V0 I (xI ask h) a (fun _ a'=>bB n a0 N0 id K a' own N h/\∀ p,p<122880->jx a'.V h p=if p<j then jx a.V h p else 0) E:=by
 have u:(h.n.sz/480).toNat=j/480:=by rw [S];omega
 have e2:(h.n.sz%480).toNat=j%480:=by rw [S];omega
 have x:∀ p,p<122880->¬ p<j->p/480≠j/480\/j%480=0->h.aN (p/480)=0:=fun p t o r=>hp _ U U
 by_cases t:h.n.sz%480=0
 .refine aK.congr (m':=WM.pure ()) (aK.pure ⟨T,fun p o=>?_⟩) fun st=>if_pos t
  split
  .rfl
  .rename_i r
   unfold jx;rw [if_pos (x p o r (.inr U))]
 .by_cases o:h.aN (h.n.sz/480).toNat=0
  .refine aK.congr (m':=WM.pure ()) (aK.pure ⟨T,fun p r=>?_⟩) fun st=>(if_neg t).trans (if_pos o)
   split
   .rfl
   .rename_i h4
    unfold jx;rw [if_pos]
    by_cases h5:p/480=j/480
    .rw [h5,<- u];exact o
    .exact x p r h4 (.inl h5)
  .have z:=o
   rw [u] at z;have F:j/480<256:=U
   have d0:=T.ok.pg _ F;obtain ⟨b,w⟩:∃ b:Nat,h.aN (j/480)=(b:Int):=⟨(h.aN (j/480)).toNat,U⟩
   refine aK.congr (m':=WM.bind (cZ ask (b:Int)) fun L=>cS (b:Int) (putAt L (j%480) (zs (480-j%480)))) ?_ fun st=>by
    refine ((if_neg t).trans (if_neg o)).trans ?_;rw [u,e2,w];rfl
   refine (aK.read hr U U).bind fun L a' e=>?_;obtain ⟨rfl,v,e3⟩:=e;rw [e3];have y:(zs (480-j%480)).length=480-j%480:=bg _;have C:(putAt (a.V b) (j%480) (zs (480-j%480))).length=480:=by rw [gv (by rw [y,v];omega)];exact v
   obtain ⟨T2,b0⟩:=T.xT F w U C;refine (aK.write U U C).mono (fun _ c0 e=>?_) fun _ h=>h;subst e;refine ⟨T2,fun p r=>?_⟩;show jx (AB a.V b _) h p=_
   rw [b0 p r]
   by_cases h4:p/480=j/480
   .rw [if_pos h4,pT (by rw [y,v];omega),y]
    by_cases h5:p<j
    .rw [if_neg U,if_pos h5]
     unfold jx;rw [h4,if_neg z,w,B2]
    .rw [if_pos U,if_neg h5,Gk]
   .rw [if_neg h4]
    split
    .rfl
    .rename_i h5
     unfold jx;rw [if_pos (x p r h5 (.inl h4))]
structure Xp (n:Nat) (a0:Aw) (N0:Nat->Option Hd) (id K:Nat) (h0:Hd) (bl k:Nat) (a:Aw) (h:Hd):Prop where
 st:∃ own N,bB n a0 N0 id K a own N h
 V:a.V=a0.V
 same:yC h h0
 rw:h.n.rw=h0.n.rw
 pg:∀ i,i<256->h.aN i=if bl<=i/\i<k then 0 else h0.aN i
def R5 (n:Nat) (id K:Nat) (A:Nat->Option AF) (f:AF) (e:Nat) (a':Aw):Prop:=Has n a' (df A id (X (f.cut e))) (K-bE (f.cut e).pr)
def aK.WO (hr:qm ask n V0 I) (hn:n<=3840) {j:Nat} (L:j<=122880) (z:∀ id,A id=(N0 id).map (gI a0.V)) (T:bB n a0 N0 id K a own N h) (C:a.V=a0.V) (r:h.n.kd=h0.n.kd/\h.n.lk=h0.n.lk/\h.n.sz=(j:Int))
  (v:∀ i,i<256->h.aN i=if (aX j).toNat<=i/\i<256 then 0 else h0.aN i) (F:h.n.rw≠0->∃ i,16<=i/\i<256/\h.aN i≠0) :
  aK n V0 I (AQ ask h) a (fun _ a'=>R5 n id K A (gI a0.V h0) j a') E:=by
 have b0:(aX j).toNat=(j+479)/480:=by unfold aX;omega
 have y:∀ i,i<256->j<=480*i->h.aN i=0:=fun i o t=>by rw [v i o,if_pos ⟨U,o⟩]
 have x:h.Fin:=⟨fun i hi u=>y i hi (by rw [r.2.2] at u;unfold aX at u;omega),F⟩
 refine (aK.Wu hr T r.2.2 L y).bind fun _ S e=>?_;obtain ⟨w,u⟩:=e;refine (aK.oo w hn x).mono (fun _ a2 e=>?_) fun _ h=>h;subst e;have c0:(gI a0.V h0).sz=h0.n.sz.toNat:=rfl;refine w.done hn x (fun p o t=>?_) z ((gI a0.V h0).cut j) r.1 r.2.1 r.2.2 (fun p o=>?_) (fun p o=>?_) (fun i hi=>?_) fun i hi=>?_
 .rw [u p o,if_neg (by rw [r.2.2] at t;omega)]
 .rw [u p o]
  show _=if p<j then (if p<122880 then jx a0.V h0 p else 0) else 0
  rw [if_pos o]
  split
  .rename_i t
   rw [C];refine BH ?_;rw [v _ U,if_neg U]
  .rfl
 .show (if p<j then (if p<122880 then jx a0.V h0 p else 0) else 0)=0
  rw [if_neg U]
 .show dV h i=(dV h0 i && decide (480*i<j))
  unfold dV;rw [v i hi]
  by_cases t:(aX j).toNat<=i
  .rw [if_pos ⟨t,hi⟩,decide_eq_false (show ¬ 480*i<j by omega)];simp
  .rw [if_neg U,decide_eq_true (show 480*i<j by omega),Bool.and_true]
 .show (dV h0 i && decide (480*i<j))=H
  unfold dV;simp;omega
def aK.Xr (hr:qm ask n V0 I) (hn:n<=3840) (d0:0<n) {o:Nat} (hs:o<=122880) (hA:∀ id,A id=(N0 id).map (gI a0.V)) (k0:h0.Fin):∀ (j:Nat) (a:Aw) (h:Hd),j<=256-(aX o).toNat->Xp n a0 N0 id K h0 (aX o).toNat (256-j) a h ->
  aK n V0 I (p9 ask o j h) a (fun _ a'=>R5 n id K A (gI a0.V h0) o a') E:=by
 have j0:(aX o).toNat=(o+479)/480:=by unfold aX;omega
 intro j
 induction j with
 | zero=>
  intro a h _ T;obtain ⟨own,N,w⟩:=T.st;have r:=w.ok;obtain ⟨z,C,s3⟩:=T.same
  by_cases S:h.n.rw≠0/\h.row=D8 240 0
  .obtain ⟨v,t⟩:=S
   have hz:=(CO r.fit).1 t;have x:=w.FR hn v hz;refine aK.congr (m':=WM.bind (cI ask h.n.rw.toNat H) fun _=>AQ ask ((h.dF 0).cP o)) ?_ fun st=>if_pos ⟨v,t⟩;refine (aK.mark hr d0).bind fun _ a' e=>?_;subst e;have u:=x.ok;have F:=x.set (h':=(h.dF 0).cP o) ⟨u.fit,u.id,u.kd,u.I0,u.Kf,show (0:Int)<=(o:Int) by omega,show (o:Int)<=122880 by omega,u.yK,u.AE,u.pg,u.rz⟩ rfl fun _ _=>rfl;exact aK.WO hr hn hs hA F T.V ⟨z,C,rfl⟩ T.pg fun L=>absurd rfl L
  .refine aK.congr (m':=AQ ask (h.cP o)) ?_ fun st=>if_neg S
   have F:=w.set (h':=h.cP o) ⟨r.fit,r.id,r.kd,r.I0,r.Kf,show (0:Int)<=(o:Int) by omega,show (o:Int)<=122880 by omega,r.yK,r.AE,r.pg,r.rz⟩ rfl fun _ _=>rfl;refine aK.WO hr hn hs hA F T.V ⟨z,C,rfl⟩ T.pg fun L=>?_;have e0:h.n.rw≠0:=L;have f0:¬ ∀ i,16<=i->i<256->h.aN i=0:=fun hz=>S ⟨e0,(CO r.fit).2 hz⟩;refine Classical.byContradiction fun g0=>f0 fun i i1 i2=>Classical.byContradiction fun i0=>g0 ⟨i,i1,i2,i0⟩
 | succ j ih=>
  intro a h hj T;obtain ⟨own,N,w⟩:=T.st;obtain ⟨k,y⟩:=Nm (256-(j+1))
  have b0:k<256:=U
  have c0:(aX o).toNat<=k:=U
  rw [y] at T
  by_cases v:h.aN k=0
  .refine aK.congr (m':=p9 ask o j h) ?_ fun st=>if_pos (by rw [y];exact v)
   refine ih a h U ⟨T.st,T.V,T.same,T.rw,fun i hi=>?_⟩;rw [T.pg i hi,show 256-j=k+1 by omega]
   by_cases e:i=k
   .subst e
    have:=T.pg i hi;rw [if_neg U,v] at this;rw [if_neg U,if_pos ⟨c0,U⟩];exact this.symm
   .by_cases t:(aX o).toNat<=i/\i<k
    .rw [if_pos t,if_pos ⟨t.1,U⟩]
    .rw [if_neg t,if_neg U]
  .refine aK.congr (m':=WM.bind (cI ask (h.aN k).toNat H) fun _=>p9 ask o j (h.put k 0)) ?_ fun st=>by
    refine (if_neg (by rw [y];exact v)).trans ?_;rw [y]
   refine (aK.mark hr d0).bind fun _ a' e=>?_;subst e;have x:=w.B7 hn b0 v;obtain ⟨z,C,s3⟩:=yV h k 0;obtain ⟨t1,t2,t3⟩:=T.same;refine ih _ (h.put k 0) U ⟨⟨_,_,x⟩,T.V,⟨z.trans t1,C.trans t2,s3.trans t3⟩,by rw [Hd.gV];exact T.rw,fun i hi=>?_⟩;rw [Hd.jk w.ok.fit b0,show 256-j=k+1 by omega]
   by_cases e:i=k
   .subst e;rw [if_pos rfl,if_pos ⟨c0,U⟩]
   .rw [if_neg e,T.pg i hi]
    by_cases t:(aX o).toNat<=i/\i<k
    .rw [if_pos t,if_pos ⟨t.1,U⟩]
    .rw [if_neg t,if_neg U]
def aK.Uz (hr:qm ask n V0 I) (hn:n<=3840) (u:Has n a A k) (t:A id=X f) (j:Nat) (z:j<=122880) :
  aK n V0 I (mQ ask n (id:Int) (j:Int)) a (fun _ a'=>R5 n id (k+bE f.pr) A f j a') E:=by
 obtain ⟨own,N,S,v,o⟩:=u;obtain ⟨h,hN,rfl⟩:=Has.at o t;obtain ⟨T,i1,y⟩:=S.lay.ok _ _ hN;obtain ⟨r,F,L⟩:=S.rest id h U hN;refine (aK.load hr hn S hN).bind fun x a' e=>?_;obtain ⟨rfl,rfl⟩:=e;have w:bE (gI a'.V x).pr=x.l9:=(y.l9 r).symm;have C:(aX j).toNat=(j+479)/480:=by unfold aX;omega
 refine aK.congr (m':=p9 ask j (256-(aX j).toNat) x) ?_ fun st=>if_pos ⟨U,U⟩;rw [w,<- v];refine aK.Xr hr hn U z o r (256-(aX j).toNat) a' x U ⟨⟨own,N,bB.start S hN⟩,rfl,⟨rfl,rfl,rfl⟩,rfl,fun i hi=>?_⟩;rw [if_neg U]
def aK.VG (hr:qm ask n V0 I) (hn:n<=3840) (S:0<n) {P:Unit->Aw->Prop} (z:h0.fit) (F:∀ a own N h,bB n a0 N0 id K a own N h->a.V=a0.V->h.n.rw=h0.n.rw->(∀ i,i<256->h.aN i=0)->P () a) :
  ∀ (j:Nat) (a:Aw) (own:Nat->Own) (N:Nat->Option Hd) (h:Hd),j<=256->bB n a0 N0 id K a own N h->a.V=a0.V->h.n.rw=h0.n.rw->(∀ i,i<256->h.aN i=if i<256-j then 0 else h0.aN i)->aK n V0 I (iw ask (h0.ik.drop (256-j))) a P E:=by
 intro j
 induction j with
 | zero=>
  intro a own N h _ T u w o;rw [List.drop_of_length_le (by rw [Hd.jM z];omega)];exact aK.pure (F a own N h T u w fun i hi=>by rw [o i hi,if_pos U])
 | succ j C=>
  intro a own N h hj T u w o;obtain ⟨k,L⟩:=Nm (256-(j+1))
  have v:k<256:=U
  rw [L] at o ⊢;rw [Hd.mF z v];have x:=o k v;rw [if_neg U] at x;have y:k+1=256-j:=U
  by_cases t:h0.aN k=0
  .refine aK.congr (m':=iw ask (h0.ik.drop (k+1))) ?_ fun st=>if_pos t
   rw [y];refine C a own N h U T u w fun i hi=>?_;rw [o i hi]
   by_cases e:i=k
   .subst e;rw [if_neg U,if_pos U,t]
   .by_cases r:i<k
    .rw [if_pos r,if_pos U]
    .rw [if_neg r,if_neg U]
  .refine aK.congr (m':=WM.bind (cI ask (h0.aN k).toNat H) fun _=>iw ask (h0.ik.drop (k+1))) ?_ fun st=>if_neg t
   refine (aK.mark hr S).bind fun _ a' e=>?_;subst e;rw [<- x,y];refine C _ _ _ (h.put k 0) U (T.B7 hn v (by rw [x];exact t)) u (by rw [Hd.gV];exact w) fun i hi=>?_;rw [Hd.jk T.ok.fit v]
   by_cases e:i=k
   .subst e;rw [if_pos rfl,if_pos U]
   .rw [if_neg e,o i hi]
    by_cases r:i<k
    .rw [if_pos r,if_pos U]
    .rw [if_neg r,if_neg U]
def Kw (o:∀ i,i<256->h.aN i=0) (hr:h.n.rw=0):h.l9=1:=by
 unfold Hd.l9
 have e:j9 (dV h)=0:=by
  unfold j9;rw [J7];intro i hi j;exact (fo.1 j).2 (o i (List.mem_range.1 hi))
 rw [e,if_pos hr]
def bB.gone (T:bB n a0 N0 id K a own N h) (hn:n<=3840) (w:a.V=a0.V) (v:∀ id,A id=(N0 id).map (gI a0.V)) (r:h.n.rw=0) (o:∀ i,i<256->h.aN i=0):Has n { a with B:=dZ a.B id H } (df A id R) K:=by
 obtain ⟨z,t,y⟩:=T.sp.lay.ok _ _ T.hN;refine ⟨df own id nA,df N id R,(T.sp.step (T.sp.lay.gone T.hN r o) (T.sp.bm.set hn t _ _ Si0) fun id' x=>aI _ _ x).shut fun g j=>(by rw [bA] at j;cases j),?_,fun id'=>?_⟩
 .have:=me (own:=own) (x:=nA) t
  rw [T.sp.lay.tA T.hN,if_pos rfl,if_neg Si0] at this;have u:=T.cons;rw [Kw o r] at u;omega
 .by_cases e:id'=id
  .subst e;rw [bA,bA];rfl
  .rw [aI _ _ e,aI _ _ e,v id',<- T.T8 id' e]
   show _=(N id').map (gI a.V)
   rw [w]
def aK.free (hr:qm ask n V0 I) (hn:n<=3840) (hh:Has n a A k) (F:A id=X f) :
  aK n V0 I (rh ask n (id:Int)) a (fun _ a'=>Has n a' (df A id R) (k+bE f.pr)) E:=by
 obtain ⟨own,N,S,hk,w⟩:=hh;obtain ⟨h,hN,rfl⟩:=Has.at w F;obtain ⟨i0,i1,y⟩:=S.lay.ok _ _ hN;obtain ⟨L,c0,ht⟩:=S.rest id h U hN;refine (aK.load hr hn S hN).bind fun x a' e=>?_;obtain ⟨rfl,rfl⟩:=e;have b0:bE (gI a'.V x).pr=x.l9:=(y.l9 L).symm;rw [b0,<- hk];refine aK.bind (P:=fun _ j=>∃ v t h',bB n a' N id (xn own n+x.l9) j v t h'/\j.V=a'.V/\h'.n.rw=x.n.rw/\∀ i,i<256->h'.aN i=0) ?_ fun _ j e=>?_
 .have:=aK.VG (E:=E) hr hn U (P:=fun _ j=>∃ v t h',bB n a' N id (xn own n+x.l9) j v t h'/\j.V=a'.V/\h'.n.rw=x.n.rw/\∀ i,i<256->h'.aN i=0) y.fit
   (fun a own N h T u r o=>⟨own,N,h,T,u,r,o⟩) 256 a' own N x (A3 _) (bB.start S hN) rfl rfl fun i hi=>by rw [if_neg U]
  rw [Nat.sub_self,List.drop_zero] at this;exact this
 .obtain ⟨v,t,h',T,u,r,o⟩:=e
  have C:=y.id
  by_cases h0:x.n.rw=0
  .refine aK.congr (m':=cI ask x.id H) ?_ fun st=>if_pos h0
   rw [C];refine (aK.mark hr U).mono (fun _ a3 e=>?_) fun _ h=>h;subst e;exact T.gone hn u w (by rw [r];exact h0) o
  .refine aK.congr (m':=WM.bind (cI ask x.n.rw.toNat H) fun _=>cI ask x.id H) ?_ fun st=>if_neg h0
   rw [C];refine (aK.mark hr U).bind fun _ a3 e=>?_;subst e;refine (aK.mark hr U).mono (fun _ a4 e=>?_) fun _ h=>h;subst e;have z:=T.FR hn (by rw [r];exact h0) fun i _ hi=>o i hi;rw [r] at z;exact z.gone hn u w rfl o
end
section
variable {σ α:Type} {n id k:Nat} {own:Nat->Own} {N:Nat->Option Hd} {a a':Aw} {V0:Nat->List UInt8} {I:σ->Prop} {ask:cL σ} {E:Int->Prop} {P:α->Aw->Prop} {A:Nat->Option AF} {f:AF} {M:gD σ} {m:WM σ α}
def Has.congr (h:Has n a A k) (u:∀ i,0<i->i<n->a'.V i=a.V i) (C:a'.B=a.B):Has n a' A k:=by
 obtain ⟨own,N,S,F,z⟩:=h
 have v:∀ id g,N id=X g->(∀ b,b=id\/own b=Kj id->a'.V b=a.V b)/\∀ b i,own b=FI id i->a'.V b=a.V b:=by
  intro id g o;obtain ⟨i0,i1,ho⟩:=S.lay.ok _ _ o
  have w:∀ b,own b≠nA->own b≠MV->a'.V b=a.V b:=fun b r t=>by
   refine u b ?_ ?_
   .rcases Nat.eq_zero_or_pos b with e|e
    .subst e;exact absurd S.lay.zero t
    .exact e
   .refine Nat.lt_of_not_le fun y=>r (S.lay.out b y)
  refine ⟨fun b j=>?_,fun b i j=>w b (by rw [j];simp) (by rw [j];simp)⟩;rcases j with rfl|j
  .exact u b i0 i1
  .exact w b (by rw [j];simp) (by rw [j];simp)
 refine ⟨own,N,⟨S.lay,by rw [C];exact S.bm,fun b h0 j=>by rw [u b h0 j];exact S.len b h0 j,fun id g L o=>?_⟩,F,fun id=>?_⟩
 .obtain ⟨r,t,x⟩:=S.rest id g L o
  exact ⟨r,t.frame S.lay o (v id g o).1,x.frame S.lay o (v id g o).2⟩
 .rw [z id]
  cases o:N id with
  | none=>rfl
  | some g=>
   show X (gI a.V g)=X (gI a'.V g)
   congr 1;unfold gI;congr 1;funext p
   split
   .rename_i T;exact (oE S.lay o (v id g o).2 T).symm
   .rfl
structure oV (n:Nat) (V0:Nat->List UInt8) (I:σ->Prop) (M:gD σ) (A:Nat->Option AF) (k:Nat):Prop where
 gC:Good n V0 I M
 has:Has n (OE V0 M) A k
def oV.reader (h:oV n V0 I M A k) {s:σ} (e:I s):oV n V0 I { M with s:=s } A k:=⟨⟨h.gC.err,e,h.gC.wr,h.gC.rd,h.gC.keys⟩,h.has⟩
def oV.run (hr:qm ask n V0 I) (h0:0<n) (h:oV n V0 I M A k) (w:aK n V0 I m (OE V0 M) P E) :
  (∃ x e a',dM m M=(.ok x,e)/\P x a'/\∀ o v,Has n a' o v->oV n V0 I e o v)\/∃ c j,dM m M=(.bad c,{ M with s:=j })/\E c/\oV n V0 I { M with s:=j } A k:=by
 rcases aK.run hr h0 h.gC w with ⟨x,e,a',r,t,u,h4,h5⟩|⟨c,j,r,t,u⟩
 .exact .inl ⟨x,e,a',r,u,fun o v y=>⟨t,y.congr h5 h4⟩⟩
 .exact .inr ⟨c,j,r,u,h.reader t⟩
variable (hr:qm ask n V0 I) (h0:0<n) (hn:n<=3840)
include hr h0
def Ep (h4:4<=n) (hn:n<=3840) (t:Good n V0 I M):∃ e,dM (ji ask) M=(.ok (),e)/\oV n V0 I e (fun id=>if id=1 then X (lx 2) else R) (n-2):=by
 rcases aK.run hr h0 t (aK.format (E:=fun _=>False) hr h4 hn fun b _ u=>t.PJ hr u) with ⟨x,e,a',o,r,j,h4,h5⟩|⟨c,v,o,r,j⟩
 .exact ⟨e,o,r,j.congr h5 h4⟩
 .exact j.elim
include hn
def MB (h:oV n V0 I M A k) (u:A id=X f):∃ x e,dM (rA ask n (id:Int)) M=(.ok x,e)/\x.kd=f.kd/\x.lk=f.lk/\x.sz=f.sz/\oV n V0 I e A k:=by
 rcases h.run hr h0 (aK.node (E:=fun _=>False) hr hn h.has u) with ⟨x,e,a',o,⟨j,r,h4,h5⟩,t⟩|⟨c,v,o,j,r⟩
 .exact ⟨x,e,o,j,r,h4,t _ _ (by rw [h5];exact h.has)⟩
 .exact j.elim
def DJ (h:oV n V0 I M A k) (u:A id=X f) (off j:Nat):∃ e,dM (jI ask n (id:Int) (off:Int) (j:Int)) M=(.ok (f.sub off j),e)/\oV n V0 I e A k:=by
 rcases h.run hr h0 (aK.TQ (E:=fun _=>False) hr hn h.has u off j) with ⟨x,e,a',r,⟨o,h5⟩,t⟩|⟨c,w,r,o,v⟩
 .exact ⟨e,by rw [r,o],t _ _ (by rw [h5];exact h.has)⟩
 .exact o.elim
def Fz (h:oV n V0 I M A k) {kd:Int} (w:kd=1\/kd=2) :
  (∃ id e,dM (xO ask n kd) M=(.ok id,e)/\A id=R/\0<id/\id<n/\0<k/\oV n V0 I e (df A id (X (lx kd))) (k-1))\/(∃ j,dM (xO ask n kd) M=(.bad 7,{ M with s:=j })/\k=0/\oV n V0 I { M with s:=j } A k):=by
 rcases h.run hr h0 (aK.new hr h0 hn h.has w) with ⟨x,e,a',o,⟨r,t,h4,h5,u⟩,v⟩|⟨c,j,o,⟨rfl,r⟩,t⟩
 .exact .inl ⟨x,e,o,r,t,h4,h5,v _ _ u⟩
 .exact .inr ⟨j,o,r,t⟩
def JI (h:oV n V0 I M A k) (v:A id=X f) (d:Int) :
  (∃ e,dM (lq ask n (id:Int) d) M=(.ok (),e)/\(0<=wrap64 (f.lk+d)/\wrap64 (f.lk+d)<=65535)/\oV n V0 I e (df A id (X { f with lk:=wrap64 (f.lk+d) })) k) \/
  (∃ j,dM (lq ask n (id:Int) d) M=(.bad 1,{ M with s:=j })/\¬ (0<=wrap64 (f.lk+d)/\wrap64 (f.lk+d)<=65535)/\oV n V0 I { M with s:=j } A k):=by
 rcases h.run hr h0 (aK.UF hr hn h.has v d) with ⟨x,e,a',o,⟨r,t⟩,u⟩|⟨c,j,o,⟨rfl,r⟩,t⟩
 .exact .inl ⟨e,o,r,u _ _ t⟩
 .exact .inr ⟨j,o,r,t⟩
def GO (h:oV n V0 I M A k) (u:A id=X f) (e:Nat) (v:e<=122880) :
  ∃ j,dM (mQ ask n (id:Int) (e:Int)) M=(.ok (),j)/\oV n V0 I j (df A id (X (f.cut e))) (k+bE f.pr-bE (f.cut e).pr):=by
 rcases h.run hr h0 (aK.Uz (E:=fun _=>False) hr hn h.has u e v) with ⟨x,j,a',r,o,t⟩|⟨c,y,r,o,w⟩
 .exact ⟨j,r,t _ _ o⟩
 .exact o.elim
def M7 (h:oV n V0 I M A k) (t:A id=X f):∃ e,dM (rh ask n (id:Int)) M=(.ok (),e)/\oV n V0 I e (df A id R) (k+bE f.pr):=by
 rcases h.run hr h0 (aK.free (E:=fun _=>False) hr hn h.has t) with ⟨x,e,a',o,j,r⟩|⟨c,v,o,j,u⟩
 .exact ⟨e,o,r _ _ j⟩
 .exact j.elim
def tF (h:oV n V0 I M A k) (w:A id=X f) (off:Nat) (d:List UInt8) (v:d.length<=4096) (y:off+d.length<=122880) :
  (∃ e,dM (gF ask n (id:Int) (off:Int) d) M=(.ok (),e)/\bE (f.wr off d).pr<=k+bE f.pr/\oV n V0 I e (df A id (X (f.wr off d))) (k+bE f.pr-bE (f.wr off d).pr)) \/
  (∃ j,dM (gF ask n (id:Int) (off:Int) d) M=(.bad 7,{ M with s:=j })/\k+bE f.pr<bE (f.wr off d).pr/\oV n V0 I { M with s:=j } A k):=by
 rcases h.run hr h0 (aK.P5 hr hn h.has w off d v y) with ⟨x,e,a',o,⟨r,t⟩,u⟩|⟨c,j,o,⟨rfl,r⟩,t⟩
 .exact .inl ⟨e,o,t,u _ _ r⟩
 .exact .inr ⟨j,o,r,t⟩
omit hn in
def Lf (h:oV n V0 I M A k):∃ e,dM (pO ask n) M=(.ok k,e)/\oV n V0 I e A k:=by
 rcases h.run hr h0 (aK.left (E:=fun _=>False) hr h0 h.has) with ⟨x,e,a',o,⟨j,h5⟩,r⟩|⟨c,u,o,j,t⟩
 .exact ⟨e,by rw [o,j],r _ _ (by rw [h5];exact h.has)⟩
 .exact j.elim
end
variable {σ α β:Type} {m:WM σ α} {k:α->WM σ β} {ask:cL σ} {c d n:Nat}
def bM (m:WM σ α) (c:Nat):Prop:=∀ st a e,m st=(.ok a,e)->e.b.W.length<=st.b.W.length+c
def bM.bind (h:bM m c) (o:∀ a,bM (k a) d):bM (WM.bind m k) (c+d):=by
 intro st a w e;unfold WM.bind at e
 cases j:m st with
 | mk r v=>
  rw [j] at e
  cases r with
  | ok x=>have t:=h _ _ _ j;have u:=o x _ _ _ e;omega
  | bad c=>cases e
def bM.fE (h:bM m 0) (e:∀ a,bM (k a) d):bM (WM.bind m k) d:=by
 have:=h.bind e;rwa [K7] at this
def bM.mono (h:bM m c) (j:c<=d):bM m d:=fun st a o e=>by have:=h _ _ _ e;omega
def bM.pure (a:α):bM (WM.pure a:WM σ α) 0:=fun st b j e=>by cases e;exact A3 _
def bM.ite {p:Prop} [Decidable p] {j:WM σ α} (h:bM m c) (h':bM j c):bM (fun st=>if p then m st else j st) c:=fun st a o e=>by
 simp only at e;split at e;exact h _ _ _ e;exact h' _ _ _ e
def bM.stop (z:Int):bM (fun st=>(.bad z,st):WM σ α) 0:=fun st a j e=>by cases e
def bM.skip (a:α):bM (fun st=>(.ok a,st):WM σ α) 0:=fun st b j e=>by cases e;exact A3 _
def DK (b:gD σ) (id:Int):(fY ask b id).2.W=b.W:=by
 unfold fY
 split
 .rfl
 .split
  .rfl
  .split
   .rfl
   .unfold su;split <;> rfl
def j5 (id:Int):bM (cZ ask id) 0:=fun st a j e=>by
 unfold cZ at e
 split at e
 .cases e
 .split at e
  .cases e
  .cases e;show (fY ask st.b id).2.W.length<=_;rw [DK];omega
def kG (id:Int) (l:List UInt8):bM (cS id l:WM σ Unit) 1:=fun st a j e=>by
 unfold cS at e
 split at e
 .cases e
  show (SL.fC st.b.W id l).length<=_
  rw [vZ];split <;> omega
 .cases e
def sT:bM (jq ask) 0:=fun st a j e=>by
 unfold jq at e
 split at e
 .cases e;exact A3 _
 .split at e
  .rename_i h;cases e;have:=j5 0 _ _ _ h;exact this
  .cases e
def ig (id:Nat) (t:Bool):bM (cI ask id t) 0:=sT.fE fun l st a j e=>by cases e;exact A3 _
def oX:bM (iN ask n) 0:=sT.fE fun l st a o e=>by
 unfold s5 at e
 cases j:fw l n with
 | none=>rw [j] at e;cases e
 | some k=>rw [j] at e;cases e;exact A3 _
def nV (l:List Int):bM (eP n l:WM σ Unit) 0:=fun st a j e=>by
 unfold eP at e;split at e <;> cases e;exact A3 _
def uV (id:Nat) (nd:Nd) (row:List Int):bM (iT n id nd row:WM σ Hd) 0:=(nV _).fE fun _=>(nV _).fE fun _=>bM.pure _
def oH (id:Int):bM (fZ ask n id) 0:=by
 refine bM.ite ((j5 _).fE fun L=>bM.ite (bM.ite (uV _ _ _) ((nV _).fE fun _=>(j5 _).fE fun L=>bM.ite (uV _ _ _) (bM.stop _))) (bM.stop _)) (bM.stop _)
def lK (h:Hd):bM (dR h:WM σ Unit) 2:=by
 refine bM.ite ((kG _ _).bind (d:=1) fun _=>bM.ite ((bM.skip _).mono U) (bM.ite (kG _ _) ((bM.stop _).mono U))) ((bM.stop _).mono U)
def Still (m:WM σ α):Prop:=∀ st a e,m st=(.ok a,e)->e.b.W.length<=st.b.W.length/\e.dt=st.dt
def Still.bind (h:Still m) (u:∀ a,Still (k a)):Still (WM.bind m k):=by
 intro st a w e;unfold WM.bind at e
 cases t:m st with
 | mk r v=>
  rw [t] at e
  cases r with
  | ok x=>have j:=h _ _ _ t;have o:=u x _ _ _ e;exact ⟨Nat.le_trans o.1 j.1,o.2.trans j.2⟩
  | bad c=>cases e
def Still.pure (a:α):Still (WM.pure a:WM σ α):=fun st b j e=>by cases e;exact ⟨A3 _,rfl⟩
def Still.ite {p:Prop} [Decidable p] {j:WM σ α} (h:Still m) (h':Still j):Still (fun st=>if p then m st else j st):=fun st a o e=>by
 simp only at e;split at e;exact h _ _ _ e;exact h' _ _ _ e
def Still.stop (z:Int):Still (fun st=>(.bad z,st):WM σ α):=fun st a j e=>by cases e
def Still.skip (a:α):Still (fun st=>(.ok a,st):WM σ α):=fun st b j e=>by cases e;exact ⟨A3 _,rfl⟩
def mi (id:Int):Still (cZ ask id):=fun st a j e=>by
 refine ⟨j5 id _ _ _ e,?_⟩;unfold cZ at e
 split at e
 .cases e
 .split at e <;> cases e
  rfl
def DI:Still (jq ask):=fun st a j e=>by
 refine ⟨sT _ _ _ e,?_⟩;unfold jq at e
 split at e
 .cases e;rfl
 .split at e
  .rename_i h;cases e;exact (mi 0 _ _ _ h).2
  .cases e
def mG (l:List Int):Still (eP n l:WM σ Unit):=fun st a j e=>by
 unfold eP at e;split at e <;> cases e;exact ⟨A3 _,rfl⟩
def tJ (id:Nat) (nd:Nd) (row:List Int):Still (iT n id nd row:WM σ Hd):=(mG _).bind fun _=>(mG _).bind fun _=>Still.pure _
def uU (id:Int):Still (fZ ask n id):=
 Still.ite ((mi _).bind fun L=>Still.ite (Still.ite (tJ _ _ _) ((mG _).bind fun _=>(mi _).bind fun L=>Still.ite (tJ _ _ _) (Still.stop _))) (Still.stop _)) (Still.stop _)
def EG (node:Int):Still (rA ask n node):=(uU _).bind fun _=>Still.pure _
def xb (h:Hd) (off:Nat):∀ (f done:Nat) (L:List UInt8),Still (C8 ask h off f done L)
 | 0,_,L=>Still.pure L
 | f+1,done,L=>Still.ite (Still.ite (xb h off f _ L) ((mi _).bind fun _=>xb h off f _ _)) (Still.skip _)
def Ad (node off e:Int):Still (jI ask n node off e):=(uU _).bind fun h=>Still.ite (Still.ite (Still.skip _) (xb _ _ _ _ _)) (Still.stop _)
def Fq:Still (pO ask n):=DI.bind fun _=>Still.pure _
def Still.run (h:Still m) {M o:gD σ} {x:α} (e:dM m M=(.ok x,o)):o.W.length<=M.W.length:=by
 cases j:m ⟨M,R,H⟩ with
 | mk r st=>
  cases r with
  | ok y=>
   have t:=h _ _ _ j;rw [zw j t.2] at e;cases e;exact t.1
  | bad z=>rw [wU j] at e;cases e
def bM.run (h:bM m c) {M j:gD σ} {x:α} (e:dM m M=(.ok x,j)):j.W.length<=M.W.length+(c+1):=by
 unfold dM at e
 have u:bM (oq:WM σ Unit) 1:=fun st a v e=>by
  unfold oq at e
  split at e
  .exact kG _ _ st a v e
  .cases e;omega
 have t:bM (WM.bind m fun a=>WM.bind oq fun _=>WM.pure a) (c+1):=h.bind fun a=>u.bind (d:=0) fun _=>bM.pure a
 cases o:(WM.bind m fun a=>WM.bind oq fun _=>WM.pure a) ⟨M,R,H⟩ with
 | mk r st=>
  rw [o] at e
  cases r with
  | ok y=>cases e;exact t _ _ _ o
  | bad z=>cases e
def L7 (kd:Int):bM (xO ask n kd) 2:=bM.ite (oX.fE fun id=>(lK _).bind (d:=0) fun _=>bM.pure _) ((bM.stop _).mono U)
def E3 (node e:Int):bM (lq ask n node e) 2:=(oH _).fE fun h=>bM.ite (lK _) ((bM.stop _).mono U)
def qa:∀ e:List Int,bM (iw ask e) 0
 | []=>bM.pure _
 | p :: e=>bM.ite (qa e) ((ig _ _).fE fun _=>qa e)
def Io (node:Int):bM (rh ask n node) 0:=(oH _).fE fun h=>(qa _).fE fun _=>bM.ite (ig _ _) ((ig _ _).fE fun _=>ig _ _)
def NC (h:Hd):bM (xI ask h) 1:=bM.ite ((bM.skip _).mono U) (bM.ite ((bM.skip _).mono U) ((j5 _).fE fun L=>kG _ _))
def BP (h:Hd):bM (AQ ask h) 3:=(NC h).bind (d:=2) fun _=>lK h
def Oo (e:Int) (h:Hd):bM (RL ask e h) 3:=bM.ite ((ig _ _).fE fun _=>BP _) (BP _)
def xj (e:Int):∀ (j:Nat) (h:Hd),bM (p9 ask e j h) 3
 | 0,h=>Oo e h
 | j+1,h=>bM.ite (xj e j h) ((ig _ _).fE fun _=>xj e j _)
def Da (node e:Int):bM (mQ ask n node e) 3:=(oH _).fE fun h=>bM.ite (xj _ _ _) ((bM.stop _).mono U)
def Jv (h:Hd) (i:Nat) (e:Bool):bM (nj ask n h i e) 0:=
 bM.ite (bM.ite (oX.fE fun r=>oX.fE fun _=>bM.pure _) (oX.fE fun _=>bM.pure _)) (bM.ite (bM.skip _) ((j5 _).fE fun _=>bM.pure _))
def Be (off l done:Nat):Nat:=if done<l then (off+l-1)/480-(off+done)/480+1 else 0
def II {off l done:Nat} (h:done<l):1+Be off l (done+iJ (l-done) (off+done))<=Be off l done:=by
 have o:Be off l done=(off+l-1)/480-(off+done)/480+1:=if_pos h;rw [o]
 by_cases e:done+iJ (l-done) (off+done)<l
 .have j:Be off l (done+iJ (l-done) (off+done))=(off+l-1)/480-(off+(done+iJ (l-done) (off+done)))/480+1:=if_pos e
  rw [j];have r:iJ (l-done) (off+done)=480-(off+done)%480:=by unfold iJ at e ⊢;omega
  rw [r] at e ⊢;omega
 .have j:Be off l (done+iJ (l-done) (off+done))=0:=if_neg e
  rw [j];omega
def Gc (off:Nat) (dt:List UInt8):∀ (f done:Nat) (h:Hd),bM (yH ask n off dt f done h) (Be off dt.length done)
 | 0,_,h=>(bM.pure h).mono U
 | f+1,done,h=>by
  by_cases o:done<dt.length
  .have r:bM (WM.bind (nj ask n h ((off+done)/480) (iJ (dt.length-done) (off+done) == 480)) (Aq (yH ask n off dt f) done off (iJ (dt.length-done) (off+done)) dt)) (1+Be off dt.length (done+iJ (dt.length-done) (off+done))):=
    (Jv _ _ _).fE fun p=>(kG _ _).bind fun _=>Gc off dt f _ _
   intro st a t e;have j:yH ask n off dt (f+1) done h st=(WM.bind (nj ask n h ((off+done)/480) (iJ (dt.length-done) (off+done) == 480)) (Aq (yH ask n off dt f) done off (iJ (dt.length-done) (off+done)) dt)) st:=if_pos o;rw [j] at e;have u:=r _ _ _ e;have h4:=II (off:=off) o;omega
  .intro st a t e
   have j:yH ask n off dt (f+1) done h st=(.ok h,st):=if_neg o;rw [j] at e;cases e
   omega
def Ag (node off:Int) (dt:List UInt8):bM (gF ask n node off dt) (dt.length/480+4):=by
 refine (oH _).fE fun h=>bM.ite (bM.ite ((bM.skip _).mono U) (((Gc _ _ _ _ _).mono (d:=dt.length/480+2) ?_).bind fun _=>lK _)) ((bM.stop _).mono U);unfold Be
 split <;> omega
def BF:bM (ji ask) 2:=fun st a j e=>((ig 0 Q).fE fun _=>(ig 1 Q).fE fun _=>lK _) { st with bits:=X (zs 480) } a j e
end Go.SL

/- Steps. -/
import Derived.Test.YtiomanbgcfjblaaGreatDoorLP33
import Derived.DataElems
import Derived.Deep.RegionLaw
set_option linter.all false
set_option maxRecDepth 99999
set_option maxHeartbeats 0
open Go.SL
open Go.Value renaming int->Z,slice->G,pointer->H
open Go.IntKind renaming i64->Y
open Go.Obj renaming cells->W
open Go.Ending renaming returned->Z'
open Go renaming World->y
open Go.Proofs.Tryz renaming prog->U
open Option renaming some->X,none->J
open Bool renaming true->Q,false->u
open Go.SL renaming Om0->O
open Go.Proofs.Tryz
open Nat renaming le_refl->B3,le_trans->E4,zero_add->K6,add_le_add_right->K3
open List renaming getD->D8,range->D7,replicate->D2,length_take->E3,length_map->E2,drop_left'->H9,countP_append->H8,all_eq_true->H7,getElem?_eq_getElem->H6,getElem?_replicate->H5,getElem?_take->H3,getElem?_drop->H2,append_assoc->J7,drop_drop->J5,getElem_of_mem->J4,length_drop->J3,range_succ->J2,countP_cons->K9,countP_congr->K8,countP_eq_zero->K7,getElem?_append_left->K5,getElem?_append_right->K2
open Bool renaming and_eq_true->D6,or_eq_true->E5,or_true->K4
open Int renaming toNat_natCast->D3
open Go.World renaming size_alloc->G3
namespace Go.SL
open RowKit
section
variable {σ:Type}
def qg (ask:dO σ) (n:Nat) (h:Hd) (i:Nat):WM σ (Hd × Int × List UInt8):=WM.bind (jc ask n) fun b=>WM.pure (h.put i (b:Int),(b:Int),zs 480)
def nj (ask:dO σ) (n:Nat) (h:Hd) (i:Nat) (j:Bool):WM σ (Hd × Int × List UInt8):=fun st=>
 if h.bA i=0 then (if 16<=i/\h.n.rw=0 then (WM.bind (jc ask n) fun r=>qg ask n (h.jM (r:Int)) i) st else qg ask n h i st)
 else if j=Q then (.ok (h,h.bA i,zs 480),st) else (WM.bind (cZ ask (h.bA i)) fun L=>WM.pure (h,h.bA i,L)) st
end
end Go.SL
namespace Go.Proofs.Fs
open RowKit SL Proofs.Ba
section
variable {σ α:Type}
def tL (x:Wk σ) (o:Nat) (S:Hp) (F:ai) (w:y):Rs (Hd × Int × List UInt8) × fB σ->Ending->y->Prop
 | (.ok p,j),e,w'=>∃ S' v,Ext S S'/\ak w w'/\p.2.2.length=480/\e = Z' (.tuple #[Z Y p.2.1,v])/\ah w' (bs 5 v p.2.2*(aZ o p.1*(aN x S' j*(al S'*F))))
 | (.bad c,j),e,w'=>∃ S' h',Ext S S'/\ak w w'/\e = .panicked (Kf c)/\ah w' (aZ o h'*(aN x S' j*(al S'*F)))
def kE (x:Wk σ) (hc:x.c.Ok) (hn:x.n<=3840) (w:y) (S:Hp) (st:fB σ) (j:Nat) (h:Hd) (i:Nat) (wh:Bool) (F:ai) (hi:i<256) (hs:ah w (aZ j h*(aN x S st*(al S*F)))) :
  Calls U 142 #[H (X ⟨x.k,0,J⟩),H (X ⟨j,0,J⟩),Z Y (i:Int),.bool wh] w (tL x j S F w (nj x.c.ask x.n h i wh st)):=by
 refine aK fun s0 HQ=>?_;have e0:=B1 w j h _ hs i hi;unfold Uy at e0;have D0:(i:Int)<256:=O
 obtain ⟨o0,T⟩:=Nm (nj x.c.ask x.n h i wh st)
 rw [T] at HQ;have F0:∀ w,(Instr.makeSlice 23 (Z Y 480) (Z Y 480)).run U w = .ok (G (X ⟨w.heap.size,0,J⟩) 480 480) (w.alloc (W (dP (zs 480)) 5 (0,0))):=fm 480 O;have hf:=(ah.held.1 hs).1;have i0:w.cell? ⟨j,20,J⟩=X (Z Y h.n.rw):=Aa hf (ah.held.1 hs).2;have Hs:=ae hs;have Hf:=ae hf;clear hs hf
 by_cases h0:h.bA i=0
 .rw [h0] at e0
  by_cases hr:16<=i/\h.n.rw=0
  .have L:(WM.bind (jc x.c.ask x.n) fun f0=>qg x.c.ask x.n (h.jM (f0:Int)) i) st=o0:=((if_pos h0).trans (if_pos hr)).symm.trans T
   have p0:16<=(i:Int):=O
   have ht:=oW x hc hn w S st _ (Hs.o.t00 (aN x S st*(al S*(aZ j h*F))));obtain ⟨⟨r1,bS⟩,hp⟩:∃ p,jc x.c.ask x.n st=p:=⟨_,rfl⟩
   rw [hp] at ht;rw [hr.2] at i0
   cases r1 with
   | bad cN=>
    have t:=ae ((WM.bN hp).symm.trans L);clear T L h0 hr hp
    go_in
    go_wp2_with fail
    (with_reducible apply e0.mono)
    rintro e w2 ⟨rfl,rfl⟩
    go_wp2_with fail
    (with_reducible apply ht.mono)
    rintro e w2 ⟨S',hS,d2,rfl,h2⟩
    go_wp2_with fail
    exact ⟨rfl,HQ.o _ _ (by rw [<- t.o];exact ⟨S',h,hS,d2,rfl,h2.u00⟩)⟩
   | ok f0=>
    have t:=ae ((WM.bp hp).symm.trans L);clear T L h0 hr hp
    go_in
    go_wp2_with fail
    (with_reducible apply e0.mono)
    rintro e w2 ⟨rfl,rfl⟩
    go_wp2_with fail
    (with_reducible apply ht.mono)
    rintro e w2 ⟨S',v,hS,d2,rfl,h2⟩;obtain ⟨rfl,h3⟩:=ah.ao.1 h2;have h4:=h3.t00 (aZ j h*(aN x S' bS*(al S'*F)));have u0:=(iB h4 (j:=20) De0).1;have x0:=(iB h4 (j:=20) De0).2;generalize h.l.getD 20 0=H0 at *;have h5:=xl (h':=h.jM (f0:Int)) h4 (j:=20) (z:=(f0:Int)) Hf.o (Hd.Rn Hf.o _);have d5:=d2.setCell ⟨j,20,J⟩ (Z Y (f0:Int));have g0:=oW x hc hn _ S' bS _ (h5.t00 (aN x S' bS*(al S'*(aZ j (h.jM (f0:Int))*F))));have d0:=ae g0;clear h2 h3 h4 ht g0 i0
    go_wp2_with fail
    generalize w2.setCell ⟨j,20,J⟩ (Z Y (f0:Int))=w3 at *;clear h5;apply d0.o.mono;generalize h.jM (f0:Int)=hk at *;obtain ⟨⟨r6,l0⟩,r⟩:∃ p,jc x.c.ask x.n bS=p:=⟨_,rfl⟩
    rw [r]
    cases r6 with
    | bad cN=>
     have b0:=ae ((WM.bN r).symm.trans t.o);rintro e w6 ⟨o,c0,d6,rfl,z⟩;clear d0 r
     go_wp2_with fail
     exact ⟨rfl,HQ.o _ _ (by rw [<- b0.o];exact ⟨o,hk,hS.trans c0,d5.trans d6,rfl,z.u00⟩)⟩
    | ok b=>
     have b0:=ae ((WM.bp r).symm.trans t.o);rintro e w6 ⟨o,v6,c0,d6,rfl,z⟩;obtain ⟨rfl,h7⟩:=ah.ao.1 z;have k0:=vt w6 j hk _ (h7.t00 (aZ j hk*(aN x o l0*(al o*F)))) i hi (b:Int);clear d0 r z h7
     go_wp2_with fail
     (with_reducible apply k0.mono)
     rintro e w7 ⟨rfl,h8,d8⟩
     go_wp2_with fail
     have hB:=ov 480 De0 h8.drew;have D9:=ae ((((d5.trans d6).trans d8).drew).alloc (W (dP (zs 480)) 5 (0,0)));have HB:=ae hB;clear h8 hB
     go_region_held3 (fun _=>True) (trivial) (fail)
     all_goals
      go_wp2_with fail
      exact HQ.o _ _ (by rw [<- b0.o];exact ⟨o,_,hS.trans c0,D9.o,aX 480,rfl,HB.o⟩)
  .have L:qg x.c.ask x.n h i st=o0:=((if_pos h0).trans (if_neg hr)).symm.trans T
   have t:=ae L;have g0:=oW x hc hn w S st _ (Hs.o.t00 (aN x S st*(al S*(aZ j h*F))));have d0:=ae g0;obtain ⟨bb,m0⟩:=Mn0 (decide (16<=(i:Int)))
   cases bb with
   | false=>
    have p0:¬ 16<=(i:Int):=by simpa using m0
    clear T L h0 hr g0 m0
    go_in
    go_wp2_with fail
    (with_reducible apply e0.mono)
    rintro e w2 ⟨rfl,rfl⟩
    go_wp2_with fail
    apply d0.o.mono;obtain ⟨⟨r6,l0⟩,r⟩:∃ p,jc x.c.ask x.n st=p:=⟨_,rfl⟩
    rw [r]
    cases r6 with
    | bad cN=>
     have b0:=ae ((WM.bN r).symm.trans t.o);rintro e w6 ⟨o,c0,d6,rfl,z⟩;clear d0 r
     go_wp2_with fail
     exact ⟨rfl,HQ.o _ _ (by rw [<- b0.o];exact ⟨o,h,c0,d6,rfl,z.u00⟩)⟩
    | ok b=>
     have b0:=ae ((WM.bp r).symm.trans t.o);rintro e w6 ⟨o,v6,c0,d6,rfl,z⟩;obtain ⟨rfl,h7⟩:=ah.ao.1 z;have k0:=vt w6 j h _ (h7.t00 (aZ j h*(aN x o l0*(al o*F)))) i hi (b:Int);clear d0 r z h7
     go_wp2_with fail
     (with_reducible apply k0.mono)
     rintro e w7 ⟨rfl,h8,d8⟩
     go_wp2_with fail
     have hB:=ov 480 De0 h8.drew;have D9:=ae (((d6.trans d8).drew).alloc (W (dP (zs 480)) 5 (0,0)));have HB:=ae hB;clear h8 hB
     go_region_held3 (fun _=>True) (trivial) (fail)
     all_goals
      go_wp2_with fail
      exact HQ.o _ _ (by rw [<- b0.o];exact ⟨o,_,c0,D9.o,aX 480,rfl,HB.o⟩)
   | true=>
    have p0:16<=(i:Int):=by simpa using m0
    have G0:(h.n.rw == 0)=u:=by simp only [beq_eq_false_iff_ne];intro h9;exact hr ⟨O,h9⟩
    clear T L h0 hr g0 m0;generalize h.n.rw=Ss at *
    go_in
    go_wp2_with fail
    (with_reducible apply e0.mono)
    rintro e w2 ⟨rfl,rfl⟩
    go_wp2_with fail
    apply d0.o.mono;obtain ⟨⟨r6,l0⟩,r⟩:∃ p,jc x.c.ask x.n st=p:=⟨_,rfl⟩
    rw [r]
    cases r6 with
    | bad cN=>
     have b0:=ae ((WM.bN r).symm.trans t.o);rintro e w6 ⟨o,c0,d6,rfl,z⟩;clear d0 r
     go_wp2_with fail
     exact ⟨rfl,HQ.o _ _ (by rw [<- b0.o];exact ⟨o,h,c0,d6,rfl,z.u00⟩)⟩
    | ok b=>
     have b0:=ae ((WM.bp r).symm.trans t.o);rintro e w6 ⟨o,v6,c0,d6,rfl,z⟩;obtain ⟨rfl,h7⟩:=ah.ao.1 z;have k0:=vt w6 j h _ (h7.t00 (aZ j h*(aN x o l0*(al o*F)))) i hi (b:Int);clear d0 r z h7
     go_wp2_with fail
     (with_reducible apply k0.mono)
     rintro e w7 ⟨rfl,h8,d8⟩
     go_wp2_with fail
     have hB:=ov 480 De0 h8.drew;have D9:=ae (((d6.trans d8).drew).alloc (W (dP (zs 480)) 5 (0,0)));have HB:=ae hB;clear h8 hB
     go_region_held3 (fun _=>True) (trivial) (fail)
     all_goals
      go_wp2_with fail
      exact HQ.o _ _ (by rw [<- b0.o];exact ⟨o,_,c0,D9.o,aX 480,rfl,HB.o⟩)
 .have h1:(h.bA i != 0)=Q:=by simpa using h0
  cases wh with
  | true=>
   have t:=ae (((if_neg h0).trans (if_pos rfl)).symm.trans T);have hB:=ov 480 De0 Hs.o.drew;have D9:=ae (((ak.refl w).drew).alloc (W (dP (zs 480)) 5 (0,0)));have HB:=ae hB;clear T h0 hB i0;generalize h.bA i=q0 at *
   go_in
   go_wp2_with fail
   (with_reducible apply e0.mono)
   rintro e w2 ⟨rfl,rfl⟩
   go_wp2_with fail
   go_region_held3 (fun _=>True) (trivial) (fail)
   all_goals
    go_wp2_with fail
    exact HQ.o _ _ (by rw [<- t.o];exact ⟨S,_,Ext.refl S,D9.o,aX 480,rfl,HB.o⟩)
  | false=>
   have L:=((if_neg h0).trans (if_neg De0)).symm.trans T;have n0:=oX x hc w S st (h.bA i) _ (Hs.o.t00 (aN x S st*(al S*(aZ j h*F))));obtain ⟨⟨r1,bS⟩,hp⟩:∃ p,cZ x.c.ask (h.bA i) st=p:=⟨_,rfl⟩
   rw [hp] at n0
   cases r1 with
   | bad cN=>
    have t:=ae ((WM.bN hp).symm.trans L);clear T L h0 hp i0;generalize h.bA i=q0 at *
    go_in
    go_wp2_with fail
    (with_reducible apply e0.mono)
    rintro e w2 ⟨rfl,rfl⟩
    go_wp2_with fail
    (with_reducible apply n0.mono)
    rintro e w2 ⟨S',hS,d2,rfl,h2⟩
    go_wp2_with fail
    exact ⟨rfl,HQ.o _ _ (by rw [<- t.o];exact ⟨S',h,hS,d2,rfl,h2.u00⟩)⟩
   | ok r0=>
    have t:=ae ((WM.bp hp).symm.trans L);have HL:=ae (j3 hp);clear T L h0 hp i0;generalize h.bA i=q0 at *
    go_in
    go_wp2_with fail
    (with_reducible apply e0.mono)
    rintro e w2 ⟨rfl,rfl⟩
    go_wp2_with fail
    (with_reducible apply n0.mono)
    rintro e w2 ⟨S',v,hS,d2,rfl,h2⟩;unfold iv at h2;have h3:=ae (h2.t00 (bs 5 v r0*(aZ j h*(aN x S' bS*(al S'*F)))));obtain ⟨va,vc,rfl⟩:=az h2;clear h2 n0
    go_wp2_with fail
    exact HQ.o _ _ (by rw [<- t.o];exact ⟨S',_,hS,d2,HL.o,rfl,h3.o⟩)
end
end Go.Proofs.Fs
namespace Go.SL
open RowKit
section
variable {σ:Type}
def zL (f:Nat->Hd->WM σ Hd) (done off l:Nat) (d:List UInt8) (p:Hd × Int × List UInt8):WM σ Hd:=
 WM.bind (cM p.2.1 (putAt p.2.2 ((off+done)%480) ((d.drop done).take l))) fun _=>f (done+l) p.1
def zy (ask:dO σ) (n off:Nat) (d:List UInt8):Nat->Nat->Hd->WM σ Hd
 | 0,_,h=>WM.pure h
 | f+1,done,h=>fun st=>
  if done<d.length then (WM.bind (nj ask n h ((off+done)/480) (iY (d.length-done) (off+done) == 480)) (zL (zy ask n off d f) done off (iY (d.length-done) (off+done)) d)) st else (.ok h,st)
def LC (off:Nat) (d:List UInt8) (h:Hd):WM σ Unit:=ew (h.nK (max h.n.sz ((off+d.length:Nat):Int)))
def GD (ask:dO σ) (n:Nat) (off:Int) (d:List UInt8) (h:Hd):WM σ Unit:=fun st=>
 if 0<=off/\d.length<=4096/\off<=122880-d.length then (if d.length=0 then (.ok (),st) else (WM.bind (zy ask n off.toNat d d.length 0 h) (LC off.toNat d)) st) else (.bad 1,st)
def gV (ask:dO σ) (n:Nat) (node off:Int) (d:List UInt8):WM σ Unit:=WM.bind (iP ask n node) (GD ask n off d)
def pO {α β:Type} {m j:WM σ α} {k:α->WM σ β} {st o:fB σ} (h:m st=j o):(WM.bind m k) st=(WM.bind j k) o:=by unfold WM.bind;rw [h]
def Qy {ask:dO σ} {h:Hd} {n off f done:Nat} {d:List UInt8} (j:d.length<=done) (st:fB σ):zy ask n off d f done h st=(.ok h,st):=by
 cases f with
 | zero=>rfl
 | succ f=>exact if_neg O
def WU {ask:dO σ} {h:Hd} {n off f done:Nat} {d:List UInt8} (o:done<d.length) {st j:fB σ} {c:Int}
  (hr:nj ask n h ((off+done)/480) (iY (d.length-done) (off+done) == 480) st=(.bad c,j)):zy ask n off d (f+1) done h st=(.bad c,j):=(if_pos o).trans (WM.bN hr)
def Xb {ask:dO σ} {h:Hd} {n off f done:Nat} {d:List UInt8} (o:done<d.length) {st j:fB σ} {p:Hd × Int × List UInt8}
  (hr:nj ask n h ((off+done)/480) (iY (d.length-done) (off+done) == 480) st=(.ok p,j)):zy ask n off d (f+1) done h st=zL (zy ask n off d f) done off (iY (d.length-done) (off+done)) d p j:=(if_pos o).trans (WM.bp hr)
end
end Go.SL
namespace Go.Proofs.Fs
open RowKit SL Proofs.Ba
section
variable {σ α:Type}
def Qk (b:Nat) (v:Value):ai:=pt b (W #[v] 23 (0,0))
def VK (x:Wk σ) (r off:Nat) (d:List UInt8) (S:Hp) (F:ai) (w:y) (T:Rs Unit × fB σ) (t:Value) (wr:y):Prop:=
 ∃ (done f:Nat) (h:Hd) (o:fB σ) (j:Hp),done<=d.length/\d.length-done<=f/\t = Z Y (done:Int)/\(WM.bind (zy x.c.ask x.n off d f done h) (LC off d)) o=T/\Ext S j/\ak w wr /\
  ah wr (aZ r h*(aN x j o*(al j*F)))
def Bq {c:Cx σ} (hc:c.Ok) {n:Nat} (hn:n<=3840) (node off:Int) (l:List UInt8) (va:Option Addr) (cap:Nat) (D:ai) (hD:∀ z P,ah z (D*P)->Rd z (G va l.length cap) l) (t1:l.length<=cap) (s1:l.length<=1000000000000) (nb ob db:Nat) :
  GL c n 139 #[H (X ⟨nb,0,J⟩),H (X ⟨ob,0,J⟩),H (X ⟨db,0,J⟩)] ni (bM nb node*(bM ob off*(Qk db (G va l.length cap)*D))) (gV c.ask n node off l):=by
 intro x w S st F A1 D1 h;subst A1 D1;have cn:w.cell? ⟨nb,0,J⟩=X (Z Y node):=(h.t00 (bM nb node*((bM ob off*(Qk db (G va l.length cap)*D))*(aN x S st*(al S*F))))).cell 0;show Calls U 139 #[H (X ⟨x.k,0,J⟩),H (X ⟨nb,0,J⟩),H (X ⟨ob,0,J⟩),H (X ⟨db,0,J⟩)] w _
 refine aK fun M1 HQ=>?_;have hl:=oP x hc w S st node _ h;obtain ⟨⟨r,bS⟩,hp⟩:∃ p,iP x.c.ask x.n node st=p:=⟨_,rfl⟩
 rw [hp] at hl;clear h;obtain ⟨b0,hG⟩:=Mn0 (bM nb node*(bM ob off*(Qk db (G va l.length cap)*D))*F)
 rw [<- hG] at hl HQ;have HG:=ae hG
 cases r with
 | bad cN=>
  have HE:=ae (show gV x.c.ask x.n node off l st=(.bad cN,bS) from WM.bN hp);clear hp hG
  go_in
  go_wp2_with fail
  (with_reducible apply hl.mono)
  rintro e w2 ⟨S',hS,d2,rfl,h2⟩
  go_wp2_with fail
  exact ⟨rfl,HQ.o _ _ (by rw [HE.o];exact ⟨S',hS,d2,rfl,h2⟩)⟩
 | ok hh=>
  obtain ⟨f0,hT⟩:=Nm (GD x.c.ask x.n off l hh bS)
  have HE:=ae (show gV x.c.ask x.n node off l st=f0 from (WM.bp hp).trans hT);have HT:=ae hT;clear hp hG hT
  have sO:∀ z P,ah z (P*b0)->z.cell? ⟨ob,0,J⟩=X (Z Y off):=fun z P hW=>by
   rw [HG.o] at hW;exact (hW.t00 (bM ob off*(bM nb node*(Qk db (G va l.length cap)*(D*(F*P)))))).cell 0
  have sB:∀ z P,ah z (P*b0)->z.cell? ⟨db,0,J⟩=X (G va l.length cap):=fun z P hW=>by
   rw [HG.o] at hW;exact (hW.t00 (Qk db (G va l.length cap)*(bM nb node*(bM ob off*(D*(F*P)))))).cell 0
  have sR:∀ z P,ah z (P*b0)->Rd z (G va l.length cap) l:=fun z P hW=>by
   rw [HG.o] at hW;exact hD z _ (hW.t00 (D*(Qk db (G va l.length cap)*(bM nb node*(bM ob off*(F*P))))))
  have SO:=ae sO;have SB:=ae sB;have SR:=ae sR;clear sO sB sR;have g1:Hid (∃ m,l.length=m):=⟨_,rfl⟩
  obtain ⟨m,hm⟩:=g1.o;rw [hm] at SB SR t1 s1;have T:=ae hm;clear hm g1 hD
  go_in
  go_wp2_with fail
  (with_reducible apply hl.mono)
  rintro e w2 ⟨S',v,hS,d2,rfl,h2⟩;obtain ⟨j,rfl,h3⟩:=ah.uj h2;have h4:ah w2 (aZ j hh*(aN x S' bS*(al S'*b0))):=h3.u00;have co:=SO.o w2 (aZ j hh*(aN x S' bS*al S')) (h4.u00);have cb:=SB.o w2 (aZ j hh*(aN x S' bS*al S')) (h4.u00);have H4:=ae h4;clear h2 h3 hl cn h4;have N1:(m:Int)<=1000000000000:=O
  by_cases hz:0<=off/\l.length<=4096/\off<=122880-(l.length:Int)
  .obtain ⟨z0,z1,z2⟩:=hz
   obtain ⟨o,rfl⟩:∃ o:Nat,off=(o:Int):=⟨off.toNat,O⟩
   by_cases h0:m=0
   .subst h0
    have e0:Hid (f0=(.ok (),bS)):=by rw [<- HT.o];exact (if_pos ⟨z0,z1,z2⟩).trans (if_pos T.o)
    rw [T.o] at z2;have z3:(o:Int)<=122880:=O
    clear z1 z2 HT
    go_wp2_with fail
    (with_reducible apply (iT w2).mono)
    rintro e w3 ⟨rfl,rfl⟩
    go_wp2_with fail
    go_end0
    exact HQ.o _ _ (by rw [HE.o,e0.o];exact ⟨S',_,hS,d2,rfl,ah.ao.2 ⟨rfl,(H4.o).right⟩⟩)
   .have k1:(WM.bind (zy x.c.ask x.n o l l.length 0 hh) (LC o l)) bS=f0:=by
     rw [<- HT.o];exact ((if_pos ⟨z0,z1,z2⟩).trans (if_neg (by rw [T.o];exact h0))).symm
    have e0:=ae k1;rw [T.o] at z1 z2;have f2:(m:Int)<=4096:=O
    have g2:(o:Int)+(m:Int)<=122880:=O
    have z3:(o:Int)<=122880-(m:Int):=O
    have T1:((m:Int) == 0)=u:=by simpa using h0
    clear k1 HT z2
    go_wp2_with fail
    (with_reducible apply (iT w2).mono)
    rintro e w3 ⟨rfl,rfl⟩;have V1:(m:Int)≠0:=O
    clear co cb;have cb:w2.cell? ⟨db,0,J⟩=X (G va m cap):=SB.o w2 (aZ j hh*(aN x S' bS*al S')) (H4.o.u00)
    go_wp2_with fail
    clear cb
    go_loopw [6] (fun H0 wr=>VK x j o l S b0 w f0 H0 wr) (fun H0 _=>m-(intOf H0).toNat)
    case atStart=>exact ⟨0,l.length,hh,bS,S',Nat.zero_le _,B3 _,rfl,e0.o,hS,d2,H4.o⟩
    case round=>
     obtain ⟨done,f,h,c0,Sk,u1,hf,rfl,l1,j1,dk,g0⟩:=hrel;have K0:=ae l1;have p0:=ae j1;clear H4 e0 l1 j1;rw [T.o] at u1 hf;have co:=SO.o wr (aZ j h*(aN x Sk c0*al Sk)) (g0.u00);have cb:=SB.o wr (aZ j h*(aN x Sk c0*al Sk)) (g0.u00)
     by_cases w1:done<m
     .have x1:(done:Int)<(m:Int):=O
      obtain ⟨f',rfl⟩:∃ f',f=f'+1:=⟨f-1,O⟩
      have hA:done<l.length:=by rw [T.o];exact w1
      obtain ⟨k,hk⟩:=Nm (iY (l.length-done) (o+done))
      have T0:k=min (m-done) (480-(o+done)%480):=by rw [<- hk,T.o];rfl
      obtain ⟨q,hq⟩:=Nm ((o+done)/480)
      obtain ⟨r,hr⟩:=Nm ((o+done)%480)
      have y1:q<256:=O
      have Y1:r<480:=O
      rw [hr] at T0;have O1:1<=k:=O
      have R1:done+k<=m:=O
      have S1:r+k<=480:=O
      have X1:((o:Int)+(done:Int)).tdiv 480=(q:Int):=by rw [Int.tdiv_eq_ediv_of_nonneg O];omega
      have Z1:((o:Int)+(done:Int)).tmod 480=(r:Int):=by rw [Int.tmod_eq_emod_of_nonneg O];omega
      have W1:(if (480:Int)-(r:Int)<((m-done:Nat):Int) then (480:Int)-(r:Int) else ((m-done:Nat):Int))=(k:Int):=by split <;> omega
      have b2:(m:Int)-(done:Int)=((m-done:Nat):Int):=O
      have u0:=kE x hc hn wr Sk c0 j h q (k == 480) b0 y1 g0;obtain ⟨⟨r2,l0⟩,D0⟩:∃ p,nj x.c.ask x.n h q (k == 480) c0=p:=⟨_,rfl⟩
      rw [D0] at u0;have i0:nj x.c.ask x.n h ((o+done)/480) (iY (l.length-done) (o+done) == 480) c0=(r2,l0):=by rw [hq,hk];exact D0
      have Z0:((k:Int) == 480)=(k == 480):=by
       by_cases h9:k=480
       .subst h9;rfl
       .rw [beq_eq_false_iff_ne.2 h9,beq_eq_false_iff_ne.2 O]
      have x0:=u0;rw [<- Z0] at x0
      cases r2 with
      | bad cN=>
       have HN:=ae ((WM.bN (WU hA i0)).symm.trans K0.o);clear D0 i0 T0 hq hr hk u0 Z0
       go_wp2_with fail
       (with_reducible apply x0.mono)
       rintro e w4 ⟨S2,h',r0,d4,rfl,h6⟩
       go_wp2_with fail
       exact ⟨rfl,HQ.o _ _ (by rw [HE.o,<- HN.o];exact ⟨S2,p0.o.trans r0,dk.trans d4,rfl,h6.right⟩)⟩
      | ok p=>
       obtain ⟨h',b,L⟩:=p
       have o0:=ae (show (WM.bind (zL (zy x.c.ask x.n o l f') done o k l (h',b,L)) (LC o l)) l0=f0 from by
        rw [<- hk];exact (pO (Xb hA i0)).symm.trans K0.o)
       clear D0 i0 T0 hq hk u0 Z0
       go_wp2_with fail
       (with_reducible apply x0.mono)
       rintro e w4 ⟨S2,v4,r0,d4,hL,rfl,h6⟩;dsimp only at hL h6 ⊢;have HL:=ae hL;obtain ⟨ga,ca,L0,rfl,a1,a2,a3,a4,a5,a6⟩:=sI h6 (by rw [hL];decide);have rd:=(SR.o w4 (bs 5 (G (X ⟨ga,0,J⟩) L.length ca) L*(aZ j h'*(aN x S2 l0*al S2))) (h6.u00))
       obtain ⟨-,(⟨-,h9⟩|⟨H1,c',e,ha⟩)⟩:=rd
       .exact absurd h9 (by rw [T.o];omega)
       simp only [Value.slice.injEq] at e;obtain ⟨rfl,-,rfl⟩:=e;obtain ⟨part,F0⟩:=Nm ((l.drop done).take k)
       have k0:part.length=k:=by rw [<- F0,E3,J3,T.o];omega
       have h7:=(a6 r part (by rw [k0,hL];omega)).1
       have s0:=fun ty=>run_copy_row (P:=U) w4 23 23 ty 5 ga r (480-r) (ca-r) (H1.add done) k (cap-done) L0 5 (part.map SL.u8) underlying23 De a4
        (by rw [E2,k0];exact (Nat.min_eq_left O).symm)
        (fun o1 v hv=>by
         have hj:o1<k:=by rw [<- k0];simpa using (List.getElem?_eq_some_iff.1 hv).1
         rw [Addr.add_add];refine ha (done+o1) v ?_;rw [<- hv,<- F0,List.getElem?_map,List.getElem?_map,H3,if_pos hj,H2])
        (by rw [E2,k0,a3];omega) (s5 _)
       rw [E2,k0] at s0;obtain ⟨RW,q0⟩:=Mn0 ((L0.toList.take r++part.map SL.u8++L0.toList.drop (r+(part.map SL.u8).length)).toArray)
       rw [<- q0] at h7;rw [E2,k0] at q0;rw [<- q0] at s0;have f1:=ae s0;have m1:=h7.ny;have n0:=p9 x _ S2 l0 b _ (putAt L r part) _ (h7.t00 (aN x S2 l0*(al S2*(bs 5 (G (X ⟨ga,0,J⟩) L.length ca) (putAt L r part)*(aZ j h'*b0))))) m1;obtain ⟨⟨r3,c1⟩,i0⟩:∃ p,cM b (putAt L r part) l0=p:=⟨_,rfl⟩
       have hK:∀ p,cM b (putAt L r part) l0=p->zL (zy x.c.ask x.n o l f') done o k l (h',b,L) l0=match p with|(.ok _,b1)=>zy x.c.ask x.n o l f' (done+k) h' b1|(.bad c,b1)=>(.bad c,b1):=by
        intro p hp;unfold zL WM.bind;dsimp only;rw [hr,F0,hp]
        cases p with
        | mk a c=>cases a <;> rfl
       have i1:=hK _ i0;rw [i0] at n0;have v1:(putAt L r part).length=480:=by rw [iK (by rw [k0,HL.o];omega)];exact HL.o
       rw [HL.o] at n0 a1 ⊢;have p1:=ae n0;have D5:=ae ((dk.trans d4).setRow ga RW);clear x0 h6 h7 s0 q0 m1 n0 ha a2 a3 a4 a5 a6 hK i0 hL k0 F0 hr v1 cb
       go_wp2_with (refine fI (f1.o _) _ _ rfl rfl rfl rfl rfl ?_)
       generalize w4.setRow ga RW=w5 at *;clear f1;apply p1.o.mono
       cases r3 with
       | bad cN=>
        have HN:=ae ((WM.bN i1).symm.trans o0.o);rintro e w6 ⟨t,m0,d6,rfl,h8⟩
        go_wp2_with fail
        exact ⟨rfl,HQ.o _ _ (by rw [HE.o,<- HN.o];exact ⟨t,(p0.o.trans r0).trans m0,D5.o.trans d6,rfl,(h8.t00 ((bs 5 (G (X ⟨ga,0,J⟩) 480 ca) (putAt L r part)*aZ j h')*(aN x t c1*(al t*b0)))).right⟩)⟩
       | ok H0=>
        have HN:=ae ((pO i1).symm.trans o0.o);rintro e w6 ⟨t,v6,m0,d6,rfl,h8⟩;obtain ⟨rfl,h9⟩:=ah.ao.1 h8;clear h8
        go_wp2_with fail
        go_roundw
        case rel=>exact ⟨done+k,f',h',c1,t,by rw [T.o];omega,by rw [T.o];omega,by go_num,HN.o,(p0.o.trans r0).trans m0,D5.o.trans d6,(h9.t00 (bs 5 (G (X ⟨ga,0,J⟩) 480 ca) (putAt L r part)*(aZ j h'*(aN x t c1*(al t*b0))))).right⟩
        case measure=>simp [intOf];omega
     .obtain rfl:done=m:=O
      have o0:=ae (show LC o l h c0=f0 from (WM.bp (Qy (by rw [T.o];exact B3 _) c0)).symm.trans K0.o);have hf:=ah.A5 g0;have c3:=(iB g0 (j:=3) De0).1;have f3:=(iB g0 (j:=3) De0).2;rw [show h.l.getD 3 0=h.n.sz from rfl] at c3;obtain ⟨d0,hz⟩:=Nm (max h.n.sz ((o+l.length:Nat):Int))
      have R0:=(xl (h':=h.nK d0) g0 (j:=3) (z:=d0) hf rfl).drew;have e1:=ae (dk.setCell ⟨j,3,J⟩ (Z Y d0)).drew;have Y0:=s6 x _ Sk c0 j (h.nK d0) _ R0;obtain ⟨⟨r6,d1⟩,W0⟩:∃ p,ew (h.nK d0) c0=p:=⟨_,rfl⟩
      rw [W0] at Y0;have HN:=ae (show (r6,d1)=f0 by rw [<- o0.o,<- W0,<- hz];rfl);have n0:IntKind.i64.wrap ((o:Int)+(done:Int))=(o:Int)+(done:Int):=by rw [IntKind.wrap_i64];omega
      have G0:(if h.n.sz<IntKind.i64.wrap ((o:Int)+(done:Int)) then IntKind.i64.wrap ((o:Int)+(done:Int)) else h.n.sz)=d0:=by rw [n0,<- hz,T.o];split <;> omega
      have q1:=ae G0;have h1:=ae Y0;have L1:=ae R0;have x1:¬ (done:Int)<(done:Int):=O
      clear hf R0 Y0 W0 hz g0 o0 n0 G0;generalize h.n.sz=sz at *
      go_wp2_with fail
      go_region_law (fail)
      all_goals
       rw [q1.o];generalize (wr.setCell ⟨j,3,J⟩ (Z Y d0)).drew=e2 at *
       cases r6 with
       | bad cN=>
        go_wp2_with fail
        apply h1.o.mono;rintro e K1 ⟨t,m0,d6,rfl,S0⟩
        go_wp2_with fail
        exact ⟨rfl,HQ.o _ _ (by rw [HE.o,<- HN.o];exact ⟨t,p0.o.trans m0,e1.o.trans d6,rfl,(S0.t00 (aZ j (h.nK d0)*(aN x t d1*(al t*b0)))).right⟩)⟩
       | ok u6=>
        go_wp2_with fail
        apply h1.o.mono;rintro e K1 ⟨t,v6,m0,d6,rfl,S0⟩;obtain ⟨rfl,r1⟩:=ah.ao.1 S0
        go_wp2_with fail
        go_end0
        exact HQ.o _ _ (by rw [HE.o,<- HN.o];exact ⟨t,_,p0.o.trans m0,e1.o.trans d6,rfl,ah.ao.2 ⟨rfl,(r1.t00 (aZ j (h.nK d0)*(aN x t d1*(al t*b0)))).right⟩⟩)
  .have hT:f0=(.bad 1,bS):=by rw [<- HT.o];exact if_neg hz
   have e0:=ae hT;rw [T.o] at hz;clear hT HT
   by_cases E1:0<=off
   .by_cases G0:(m:Int)<=4096
    .have n1:¬ off<=122880-(m:Int):=fun h9=>hz ⟨E1,O,h9⟩
     have c2:decide (off<=122880-(m:Int))=u:=decide_eq_false n1;clear hz n1
     go_wp2_with fail
     (with_reducible apply (jv w2).mono)
     rintro e w4 ⟨rfl,rfl⟩
     go_wp2_with fail
     exact ⟨rfl,HQ.o _ _ (by rw [HE.o,e0.o];exact ⟨S',hS,d2,rfl,H4.o.right⟩)⟩
    .clear hz
     go_wp2_with fail
     (with_reducible apply (jv w2).mono)
     rintro e w4 ⟨rfl,rfl⟩
     go_wp2_with fail
     exact ⟨rfl,HQ.o _ _ (by rw [HE.o,e0.o];exact ⟨S',hS,d2,rfl,H4.o.right⟩)⟩
   .have G0:off<0:=O
    clear hz
    go_wp2_with fail
    (with_reducible apply (jv w2).mono)
    rintro e w4 ⟨rfl,rfl⟩
    go_wp2_with fail
    exact ⟨rfl,HQ.o _ _ (by rw [HE.o,e0.o];exact ⟨S',hS,d2,rfl,H4.o.right⟩)⟩
end
section
variable {σ α:Type}
abbrev dx (j n:Nat):Obj:=W #[H (X ⟨j,0,J⟩),Z Y (n:Int)] 85 (0,0)
def R6:Value:=.agg #[Z Y 0,Z Y 0,Z Y 0,Z Y 0,Z Y 0,Z Y 0,Z Y 0,Z Y 0,Z Y 0,Z Y 0,Z Y 0,Z Y 0,Z Y 0,Z Y 0,Z Y 0,Z Y 0,Z Y 0,Z Y 0,Z Y 0,Z Y 0]
def XG:Rs Nat->Value
 | .ok a=>Z Y (a:Int)
 | .bad _=>Z Y 0
def Yz (c:Cx σ) (j:Nat) (S:Hp) (F:ai) (w:y) (p:Rs Nat × iM σ) (e:Ending) (w':y):Prop:=
 ∃ S',Ext S S'/\ak w w'/\e = Z' (.tuple #[XG p.1,Z Y p.1.code])/\ah w' (eu c S' j p.2*(al S'*F))
def Lf (c:Cx σ) (hc:c.Ok) (n:Nat) (d0:4<=n) (e0:n<=3840) (j:Nat) (M:iM σ) (w:y) (S:Hp)  (F:ai) (h:ah w (eu c S j M*(al S*(F)))) :
  Calls U 84 #[iH j n] w (Qq c j S F w (eA (jq c.ask) M)):=by
 refine aK fun f0 v=>?_;obtain ⟨p,hp⟩:=Nm (eA (jq c.ask) M)
 rw [hp] at v;have g0:=oq U;have r:=fun  w F h=>EM c hc n d0 e0 159 #[] (emp) (jq c.ask) (fun c0 w=>enters func159 Kr0 rfl c0 w) (Gm hc) j M w S F h;rw [hp] at r;have z:=ae r;have T:=(h.alloc (dx j n))
 have dA:=((ak.refl w).alloc (dx j n))
 have hB:ah (w.alloc (dx j n)) (eu c S j M*(al S*((emp)*(pt w.heap.size (dx j n)*F)))):=(ah.kp T).to (by unfold dx;ac_rfl);have t:=ae hB;clear T hB r h;unfold iH
 go_in
 go_wp2_with fail
 refine z.o _ _ t.o _ ?_;clear z t;generalize i0:(w.alloc (dx j n))=w1 at *;generalize w.heap.size=b0 at *;rintro e w2 ⟨o,hS,d2,rfl,L⟩;have h3:=ae (L.t00 (((emp*pt b0 (dx j n)))*(eu c o j p.2*(al o*F)))).right;clear L
 go_wp2_with fail
 try go_ret
 exact v.o _ _ ⟨o,hS,dA.trans d2,rfl,h3.o⟩
def UF (c:Cx σ) (hc:c.Ok) (n:Nat) (i0:4<=n) (f0:n<=3840) (j:Nat) (M:iM σ) (w:y) (S:Hp) (kd:Int) (F:ai) (h:ah w (eu c S j M*(al S*(F)))) :
  Calls U 111 #[iH j n,Z Y kd] w (Yz c j S F w (eA (xP c.ask n kd) M)):=by
 refine aK fun l0 t=>?_;obtain ⟨p,hp⟩:=Nm (eA (xP c.ask n kd) M)
 rw [hp] at t;have m0:=oq U;have c0:=fun d0 w F h=>MH c hc n i0 f0 187 #[H (X ⟨d0,0,J⟩)] (bM d0 kd) (xP c.ask n kd) (fun g0 w=>enters func187 Kr0 rfl g0 w) (RA hc f0 kd d0) j M w S F h;rw [hp] at c0;have e0:=ae c0;have T:=((h.alloc (dx j n)).alloc (W #[Z Y kd] 3 (0,0)))
 have dA:=(((ak.refl w).alloc (dx j n)).alloc (W #[Z Y kd] 3 (0,0)))
 simp only [G3] at T;have hB:ah ((w.alloc (dx j n)).alloc (W #[Z Y kd] 3 (0,0))) (eu c S j M*(al S*((bM (w.heap.size+1) kd)*(pt w.heap.size (dx j n)*F)))):=T.to (by unfold bM;ac_rfl);have HB:=ae hB;clear T hB c0 h;unfold iH
 go_in
 go_wp2_with fail
 refine e0.o (w.heap.size+1) _ _ HB.o _ ?_;clear e0 HB;generalize n0:((w.alloc (dx j n)).alloc (W #[Z Y kd] 3 (0,0)))=w1 at *;generalize w.heap.size+1=b1 at *;generalize w.heap.size=b0 at *;obtain ⟨k0,M2⟩:=p
 cases k0 with
 | bad cN=>
  rintro e w2 ⟨o,hS,z,rfl,r⟩;have L:=ae (r.t00 ((pt b0 (dx j n)*bM b1 kd)*(eu c o j M2*(al o*F)))).right;clear r
  go_wp2_with fail
  try go_ret
  exact t.o _ _ ⟨o,hS,dA.trans z,rfl,L.o⟩
 | ok a=>
  rintro e w2 ⟨o,v,hS,z,rfl,r⟩;have L:=ae (r.t00 ((pt b0 (dx j n)*bM b1 kd)*(Jl a v*(eu c o j M2*(al o*F))))).right;clear r;obtain ⟨rfl,h4⟩:=ah.ao.1 L.o
  go_wp2_with fail
  try go_ret
  exact t.o _ _ ⟨o,hS,dA.trans z,rfl,h4⟩
def Nv (c:Cx σ) (hc:c.Ok) (n:Nat) (e0:4<=n) (f0:n<=3840) (j:Nat) (M:iM σ) (w:y) (S:Hp) (node:Int) (d:Int) (F:ai) (h:ah w (eu c S j M*(al S*(F)))) :
  Calls U 72 #[iH j n,Z Y node,Z Y d] w (Qq c j S F w (eA (lS c.ask n node d) M)):=by
 refine aK fun g0 T=>?_;obtain ⟨p,hp⟩:=Nm (eA (lS c.ask n node d) M)
 rw [hp] at T;have i0:=oq U;have v:=fun z r w F h=>EM c hc n e0 f0 148 #[H (X ⟨z,0,J⟩),H (X ⟨r,0,J⟩)] (bM z node*(bM r d)) (lS c.ask n node d) (fun d0 w=>enters func148 Kr0 rfl d0 w) (KX hc node d z r) j M w S F h;rw [hp] at v;have c0:=ae v;have t:=(((h.alloc (dx j n)).alloc (W #[Z Y node] 3 (0,0))).alloc (W #[Z Y d] 3 (0,0)))
 have dA:=((((ak.refl w).alloc (dx j n)).alloc (W #[Z Y node] 3 (0,0))).alloc (W #[Z Y d] 3 (0,0)))
 simp only [G3] at t;have hB:ah (((w.alloc (dx j n)).alloc (W #[Z Y node] 3 (0,0))).alloc (W #[Z Y d] 3 (0,0))) (eu c S j M*(al S*((bM (w.heap.size+1) node*(bM (w.heap.size+1+1) d))*(pt w.heap.size (dx j n)*F)))):=t.to (by unfold bM;ac_rfl);have L:=ae hB;clear t hB v h;unfold iH
 go_in
 go_wp2_with fail
 refine c0.o (w.heap.size+1) (w.heap.size+1+1) _ _ L.o _ ?_;clear c0 L;generalize k0:(((w.alloc (dx j n)).alloc (W #[Z Y node] 3 (0,0))).alloc (W #[Z Y d] 3 (0,0)))=w1 at *;generalize w.heap.size+1+1=b2 at *;generalize w.heap.size+1=b1 at *;generalize w.heap.size=b0 at *;rintro e w2 ⟨o,hS,d2,rfl,h2⟩;have h3:=ae (h2.t00 ((pt b0 (dx j n)*bM b1 node*bM b2 d)*(eu c o j p.2*(al o*F)))).right;clear h2
 go_wp2_with fail
 try go_ret
 exact T.o _ _ ⟨o,hS,dA.trans d2,rfl,h3.o⟩
def Ju (c:Cx σ) (hc:c.Ok) (n:Nat) (k0:4<=n) (g0:n<=3840) (j:Nat) (M:iM σ) (w:y) (S:Hp) (node:Int) (off:Int) (o:Int) (F:ai) (h:ah w (eu c S j M*(al S*(F)))) :
  Calls U 104 #[iH j n,Z Y node,Z Y off,Z Y o] w (Ap c j (G J 0 0) iv S F w (eA (jN c.ask n node off o) M)):=by
 refine aK fun m0 z=>?_;obtain ⟨p,hp⟩:=Nm (eA (jN c.ask n node off o) M)
 rw [hp] at z;have n0:=oq U;have c0:=fun d0 e0 L w F h=>xf c hc n k0 g0 181 #[H (X ⟨d0,0,J⟩),H (X ⟨e0,0,J⟩),H (X ⟨L,0,J⟩)] (bM d0 node*(bM e0 off*(bM L o))) (jN c.ask n node off o) (fun i0 w=>enters func181 Kr0 rfl i0 w) (Fp hc g0 node off o d0 e0 L) j M w S F h;rw [hp] at c0;have f0:=ae c0;have hA:=((((h.alloc (dx j n)).alloc (W #[Z Y node] 3 (0,0))).alloc (W #[Z Y off] 3 (0,0))).alloc (W #[Z Y o] 3 (0,0)))
 have dA:=(((((ak.refl w).alloc (dx j n)).alloc (W #[Z Y node] 3 (0,0))).alloc (W #[Z Y off] 3 (0,0))).alloc (W #[Z Y o] 3 (0,0)))
 simp only [G3] at hA;have hB:ah ((((w.alloc (dx j n)).alloc (W #[Z Y node] 3 (0,0))).alloc (W #[Z Y off] 3 (0,0))).alloc (W #[Z Y o] 3 (0,0))) (eu c S j M*(al S*((bM (w.heap.size+1) node*(bM (w.heap.size+1+1) off*(bM (w.heap.size+1+1+1) o)))*(pt w.heap.size (dx j n)*F)))):=hA.to (by unfold bM;ac_rfl);have HB:=ae hB;clear hA hB c0 h;unfold iH
 go_in
 go_wp2_with fail
 refine f0.o (w.heap.size+1) (w.heap.size+1+1) (w.heap.size+1+1+1) _ _ HB.o _ ?_;clear f0 HB;generalize o0:((((w.alloc (dx j n)).alloc (W #[Z Y node] 3 (0,0))).alloc (W #[Z Y off] 3 (0,0))).alloc (W #[Z Y o] 3 (0,0)))=w1 at *;generalize w.heap.size+1+1+1=b3 at *;generalize w.heap.size+1+1=b2 at *;generalize w.heap.size+1=b1 at *;generalize w.heap.size=b0 at *;obtain ⟨l0,M2⟩:=p
 cases l0 with
 | bad cN=>
  rintro e w2 ⟨r,hS,T,rfl,t⟩;have h3:=ae (t.t00 ((pt b0 (dx j n)*bM b1 node*bM b2 off*bM b3 o)*(eu c r j M2*(al r*F)))).right;clear t
  go_wp2_with fail
  try go_ret
  exact z.o _ _ ⟨r,hS,dA.trans T,rfl,h3.o⟩
 | ok a=>
  rintro e w2 ⟨r,v,hS,T,rfl,t⟩;have h3:=ae (t.t00 ((pt b0 (dx j n)*bM b1 node*bM b2 off*bM b3 o)*(iv a v*(eu c r j M2*(al r*F))))).right;clear t
  go_wp2_with fail
  try go_ret
  exact z.o _ _ ⟨r,v,hS,dA.trans T,rfl,h3.o⟩
def wN (c:Cx σ) (hc:c.Ok) (n:Nat) (k0:4<=n) (e0:n<=3840) (j:Nat) (M:iM σ) (w:y) (S:Hp) (node:Int) (off:Int) (l:List UInt8) (va:Option Addr) (cap:Nat) (D:ai) (hD:∀ d0 P,ah d0 (D*P)->Rd d0 (G va l.length cap) l) (i0:l.length<=cap) (g0:l.length<=1000000000000) (F:ai) (h:ah w (eu c S j M*(al S*(D*F)))) :
  Calls U 68 #[iH j n,Z Y node,Z Y off,G va l.length cap] w (Qq c j S (D*F) w (eA (gV c.ask n node off l) M)):=by
 refine aK fun l0 HQ=>?_;obtain ⟨p,hp⟩:=Nm (eA (gV c.ask n node off l) M)
 rw [hp] at HQ;have m0:=oq U;have t:=fun v z L w F h=>EM c hc n k0 e0 139 #[H (X ⟨v,0,J⟩),H (X ⟨z,0,J⟩),H (X ⟨L,0,J⟩)] (bM v node*(bM z off*((Qk L (G va l.length cap)*D)))) (gV c.ask n node off l) (fun f0 w=>enters func139 Kr0 rfl f0 w) (Bq hc e0 node off l va cap D hD i0 g0 v z L) j M w S F h;rw [hp] at t;have c0:=ae t;have r:=((((h.alloc (dx j n)).alloc (W #[Z Y node] 3 (0,0))).alloc (W #[Z Y off] 3 (0,0))).alloc (W #[G va l.length cap] 23 (0,0)))
 have dA:=(((((ak.refl w).alloc (dx j n)).alloc (W #[Z Y node] 3 (0,0))).alloc (W #[Z Y off] 3 (0,0))).alloc (W #[G va l.length cap] 23 (0,0)))
 simp only [G3] at r;have hB:ah ((((w.alloc (dx j n)).alloc (W #[Z Y node] 3 (0,0))).alloc (W #[Z Y off] 3 (0,0))).alloc (W #[G va l.length cap] 23 (0,0))) (eu c S j M*(al S*((bM (w.heap.size+1) node*(bM (w.heap.size+1+1) off*((Qk (w.heap.size+1+1+1) (G va l.length cap)*D))))*(pt w.heap.size (dx j n)*F)))):=r.to (by unfold bM Qk;ac_rfl);have T:=ae hB;clear r hB t h;unfold iH
 go_in
 go_wp2_with fail
 refine c0.o (w.heap.size+1) (w.heap.size+1+1) (w.heap.size+1+1+1) _ _ T.o _ ?_;clear c0 T;generalize n0:((((w.alloc (dx j n)).alloc (W #[Z Y node] 3 (0,0))).alloc (W #[Z Y off] 3 (0,0))).alloc (W #[G va l.length cap] 23 (0,0)))=w1 at *;generalize w.heap.size+1+1+1=b3 at *;generalize w.heap.size+1+1=b2 at *;generalize w.heap.size+1=b1 at *;generalize w.heap.size=b0 at *;rintro e w2 ⟨o,hS,d2,rfl,h2⟩;have h3:=ae (h2.t00 ((pt b0 (dx j n)*bM b1 node*bM b2 off*Qk b3 (G va l.length cap))*(eu c o j p.2*(al o*(D*F))))).right;clear h2
 go_wp2_with fail
 try go_ret
 exact HQ.o _ _ ⟨o,hS,dA.trans d2,rfl,h3.o⟩
def rZ {w:y} {j:Array Value} {a:Nat} {e:Value} {o:Array Value} {F:ai} (h4:j[4]?=X (ax a)) (h5:j[5]?=X e) (t:ah w (pt a (W o 75 (0,0))*F)) (r:o.size=20) :
  (results Tryz.f95 j).run U w = .ok (.tuple #[.agg o,e]) w:=by
 have v:=run_loadVar_row (P:=U) w a 75 75 o (0,0) _ t.heap underlying75 rfl (by rw [r];exact bd);have z:j.getD 4 undef = H (X ⟨a,0,J⟩):=by simp [h4]
 have L:j.getD 5 undef=e:=by simp [h5]
 simp [results,Tryz.results95,h4,h5,asAddr,v]
def Sm (c:Cx σ) (hc:c.Ok) (n:Nat) (q0:4<=n) (r0:n<=3840) (j:Nat) (M:iM σ) (w:y) (S:Hp) (node:Int) (F:ai) (h:ah w (eu c S j M*(al S*F))) :
  Calls U 95 #[iH j n,Z Y node] w (Ap c j R6 CT S F w (eA (qX c.ask n node) M)):=by
 refine aK fun u0 HQ=>?_;obtain ⟨p,hp⟩:=Nm (eA (qX c.ask n node) M)
 rw [hp] at HQ;have x0:=oq U;have g0:=fun i0 w F h=>NW c hc n q0 r0 174 #[H (X ⟨i0,0,J⟩)] (bM i0 node) (qX c.ask n node) (fun o0 w=>enters func174 Kr0 rfl o0 w) (Mh hc node i0) j M w S F h;rw [hp] at g0;have k0:=ae g0;have hA:=(((h.alloc (dx j n)).alloc (W #[Z Y node] 3 (0,0))).alloc (W #[Z Y 0,Z Y 0,Z Y 0,Z Y 0,Z Y 0,Z Y 0,Z Y 0,Z Y 0,Z Y 0,Z Y 0,Z Y 0,Z Y 0,Z Y 0,Z Y 0,Z Y 0,Z Y 0,Z Y 0,Z Y 0,Z Y 0,Z Y 0] 75 (0,0)))
 have dA:=((((ak.refl w).alloc (dx j n)).alloc (W #[Z Y node] 3 (0,0))).alloc (W #[Z Y 0,Z Y 0,Z Y 0,Z Y 0,Z Y 0,Z Y 0,Z Y 0,Z Y 0,Z Y 0,Z Y 0,Z Y 0,Z Y 0,Z Y 0,Z Y 0,Z Y 0,Z Y 0,Z Y 0,Z Y 0,Z Y 0,Z Y 0] 75 (0,0)))
 simp only [G3] at hA;have hB:ah (((w.alloc (dx j n)).alloc (W #[Z Y node] 3 (0,0))).alloc (W #[Z Y 0,Z Y 0,Z Y 0,Z Y 0,Z Y 0,Z Y 0,Z Y 0,Z Y 0,Z Y 0,Z Y 0,Z Y 0,Z Y 0,Z Y 0,Z Y 0,Z Y 0,Z Y 0,Z Y 0,Z Y 0,Z Y 0,Z Y 0] 75 (0,0))) (eu c S j M*(al S*(bM (w.heap.size+1) node*(pt (w.heap.size+1+1) (W #[Z Y 0,Z Y 0,Z Y 0,Z Y 0,Z Y 0,Z Y 0,Z Y 0,Z Y 0,Z Y 0,Z Y 0,Z Y 0,Z Y 0,Z Y 0,Z Y 0,Z Y 0,Z Y 0,Z Y 0,Z Y 0,Z Y 0,Z Y 0] 75 (0,0))*(pt w.heap.size (dx j n)*F))))):=hA.to (by unfold bM;ac_rfl);have HB:=ae hB;clear hA hB g0 h;unfold iH
 go_in
 go_wp2_with fail
 refine k0.o (w.heap.size+1) _ _ HB.o _ ?_;clear k0 HB;generalize D0:(((w.alloc (dx j n)).alloc (W #[Z Y node] 3 (0,0))).alloc (W #[Z Y 0,Z Y 0,Z Y 0,Z Y 0,Z Y 0,Z Y 0,Z Y 0,Z Y 0,Z Y 0,Z Y 0,Z Y 0,Z Y 0,Z Y 0,Z Y 0,Z Y 0,Z Y 0,Z Y 0,Z Y 0,Z Y 0,Z Y 0] 75 (0,0)))=w1 at *;generalize w.heap.size+1+1=o at *;generalize w.heap.size+1=b1 at *;generalize w.heap.size=b0 at *;obtain ⟨s0,M2⟩:=p;have p0:(prog.info? 75).map (·.size)=X 20:=bd;have d0:∀ (c0:Array Value) (w2:y) (P:ai),c0.size=20->ah w2 (pt o (W #[Z Y 0,Z Y 0,Z Y 0,Z Y 0,Z Y 0,Z Y 0,Z Y 0,Z Y 0,Z Y 0,Z Y 0,Z Y 0,Z Y 0,Z Y 0,Z Y 0,Z Y 0,Z Y 0,Z Y 0,Z Y 0,Z Y 0,Z Y 0] 75 (0,0))*P)->ah (w2.setRow o c0) (pt o (W c0 75 (0,0))*P):=fun c0 w2 P T L=>L.setRow
 cases s0 with
 | bad cN=>
  rintro e w2 ⟨r,L,d2,rfl,z⟩;have t:=z.t00 (pt o (W #[Z Y 0,Z Y 0,Z Y 0,Z Y 0,Z Y 0,Z Y 0,Z Y 0,Z Y 0,Z Y 0,Z Y 0,Z Y 0,Z Y 0,Z Y 0,Z Y 0,Z Y 0,Z Y 0,Z Y 0,Z Y 0,Z Y 0,Z Y 0] 75 (0,0))*((bM b1 node*pt b0 (dx j n))*(eu c r j M2*(al r*F))));have Hz:=ae t.heap;have h4:=ae (d0 #[Z Y 0,Z Y 0,Z Y 0,Z Y 0,Z Y 0,Z Y 0,Z Y 0,Z Y 0,Z Y 0,Z Y 0,Z Y 0,Z Y 0,Z Y 0,Z Y 0,Z Y 0,Z Y 0,Z Y 0,Z Y 0,Z Y 0,Z Y 0] _ _ rfl t);have e0:Hid ((#[Z Y 0,Z Y 0,Z Y 0,Z Y 0,Z Y 0,Z Y 0,Z Y 0,Z Y 0,Z Y 0,Z Y 0,Z Y 0,Z Y 0,Z Y 0,Z Y 0,Z Y 0,Z Y 0,Z Y 0,Z Y 0,Z Y 0,Z Y 0]:Array Value).all (·.oneCell')=Q):=IA;have D4:=ae ((dA.trans d2).setRow o #[Z Y 0,Z Y 0,Z Y 0,Z Y 0,Z Y 0,Z Y 0,Z Y 0,Z Y 0,Z Y 0,Z Y 0,Z Y 0,Z Y 0,Z Y 0,Z Y 0,Z Y 0,Z Y 0,Z Y 0,Z Y 0,Z Y 0,Z Y 0]);clear z t d0
  go_wp2_with (refine wpList_store_row (by exact rfl) 75 (.tmp 4) (.tmp 9) (by exact rfl) o #[Z Y 0,Z Y 0,Z Y 0,Z Y 0,Z Y 0,Z Y 0,Z Y 0,Z Y 0,Z Y 0,Z Y 0,Z Y 0,Z Y 0,Z Y 0,Z Y 0,Z Y 0,Z Y 0,Z Y 0,Z Y 0,Z Y 0,Z Y 0] (by exact rfl) (by exact rfl) 75 _ (by with_reducible exact Hz.o) p0 Rf0 e0.o ?_)
  exact bodyPost_ret (rZ rfl rfl h4.o rfl) rfl (HQ.o _ _ ⟨r,L,D4.o,rfl,h4.o.right.right⟩)
 | ok a=>
  rintro e w2 ⟨r,v,L,d2,rfl,z⟩;obtain ⟨⟨rfl,f0⟩,l0⟩:=ah.ao.1 z;have t:=l0.t00 (pt o (W #[Z Y 0,Z Y 0,Z Y 0,Z Y 0,Z Y 0,Z Y 0,Z Y 0,Z Y 0,Z Y 0,Z Y 0,Z Y 0,Z Y 0,Z Y 0,Z Y 0,Z Y 0,Z Y 0,Z Y 0,Z Y 0,Z Y 0,Z Y 0] 75 (0,0))*((bM b1 node*pt b0 (dx j n))*(eu c r j M2*(al r*F))));have T:(ints a.l).size=20:=by rw [ed,Nd.cells f0]
  have Hz:=ae t.heap;have h4:=ae (d0 (ints a.l) _ _ T t);have e0:Hid ((ints a.l).all (·.oneCell')=Q):=by simp [RowKit.Hid,ints,Value.oneCell']
  have n0:Hid ((prog.info? 75).map (·.size)=X (ints a.l).size):=by show _=_;rw [T];exact bd
  have D4:=ae ((dA.trans d2).setRow o (ints a.l));have HX:=ae T;have m0:=ae f0;clear z l0 t d0 T f0;unfold Nd.v
  go_wp2_with (refine wpList_store_row (by exact rfl) 75 (.tmp 4) (.tmp 9) (by exact rfl) o (ints a.l) (by exact rfl) (by exact rfl) 75 _ (by with_reducible exact Hz.o) n0.o (by rw [HX.o];rfl) e0.o ?_)
  exact bodyPost_ret (rZ rfl rfl h4.o HX.o) rfl (HQ.o _ _ ⟨r,_,L,D4.o,rfl,ah.ao.2 ⟨⟨rfl,m0.o⟩,h4.o.right.right⟩⟩)
end
end Go.Proofs.Fs
namespace Go.SL
open RowKit
section
variable {σ α β:Type}
structure uM (ask:dO σ) (n:Nat) (V:Nat->List UInt8) (I:σ->Prop):Prop where
 len:∀ i,i<n->(V i).length=480
 Yv:∀ (s:σ) (i:Nat),I s->i<n->(ask s (i:Int)).1=(0,V i)/\I (ask s (i:Int)).2
structure Good (n:Nat) (V:Nat->List UInt8) (I:σ->Prop) (b:iM σ):Prop where
 err:b.err=0
 inv:I b.s
 wr:∀ (i:Nat) l,i<n->aA b.W (i:Int)=some l->l.length=480
 rd:∀ (i:Nat) l,i<n->aA b.D (i:Int)=some l->l=V i
 keys:∀ p ∈ b.W,0<=p.1/\p.1<(n:Int)
def vw (V:Nat->List UInt8) (j:List (Int × List UInt8)) (i:Nat):List UInt8:=(aA j (i:Int)).getD (V i)
structure Aw where
 V:Nat->List UInt8
 B:List UInt8
structure Rel (n:Nat) (V0:Nat->List UInt8) (I:σ->Prop) (st:fB σ) (a:Aw):Prop where
 gL:Good n V0 I st.b
 view:∀ i,0<i->i<n->vw V0 st.b.W i=a.V i
 bits:st.bits=some a.B\/(st.bits=none/\st.dt=false/\vw V0 st.b.W 0=a.B)
 dt:st.dt=false->vw V0 st.b.W 0=a.B
 len:a.B.length=480
def Cv (V:Nat->List UInt8) (i:Nat) (l:List UInt8):Nat->List UInt8:=fun k=>if k=i then l else V k
def vX (V:Nat->List UInt8) (j:List (Int × List UInt8)) (i:Nat) (l:List UInt8) (k:Nat):vw V (SL.dM j (i:Int) l) k=if k=i then l else vw V j k:=by
 unfold vw;rw [eM]
 by_cases h:k=i
 .subst h;rw [if_pos rfl,if_pos rfl];rfl
 .rw [if_neg h,if_neg O]
def Good.St {n:Nat} {V:Nat->List UInt8} {I:σ->Prop} {b:iM σ} {ask:dO σ} (hr:uM ask n V I) (h:Good n V I b) {i:Nat} (hi:i<n):(vw V b.W i).length=480:=by
 unfold vw
 cases j:aA b.W (i:Int) with
 | some l=>exact h.wr i l hi j
 | none=>exact hr.len i hi
def aP (n:Nat) (V0:Nat->List UInt8) (I:σ->Prop) (m:WM σ α) (a:Aw) (P:α->Aw->Prop) (E:Int->Prop):Prop:=
 ∀ st,Rel n V0 I st a->match m st with
  | (.ok x,j)=>∃ a',Rel n V0 I j a'/\P x a'
  | (.bad c,j)=>I j.b.s/\E c
variable {n:Nat} {V0:Nat->List UInt8} {I:σ->Prop} {ask:dO σ} {m:WM σ α} {a:Aw} {P:α->Aw->Prop} {E:Int->Prop}
def aP.bind {k:α->WM σ β} {R:β->Aw->Prop} (h:aP n V0 I m a P E) (t:∀ x a',P x a'->aP n V0 I (k x) a' R E):aP n V0 I (WM.bind m k) a R E:=by
 intro st v;have:=h st v;unfold WM.bind
 match z:m st,this with
 | (.ok x,o),⟨a',j,r⟩=>exact t x a' r o j
 | (.bad c,o),j=>exact j
def aP.mono {r:α->Aw->Prop} {o:Int->Prop} (h:aP n V0 I m a P E) (z:∀ x a',P x a'->r x a') (v:∀ c,E c->o c):aP n V0 I m a r o:=by
 intro st L;have:=h st L
 match hm:m st,this with
 | (.ok x,T),⟨a',j,t⟩=>exact ⟨a',j,z _ _ t⟩
 | (.bad c,T),j=>exact ⟨j.1,v _ j.2⟩
def aP.pure {x:α} (h:P x a):aP n V0 I (WM.pure x) a P E:=fun st j=>⟨a,j,h⟩
def aP.bad {c:Int} (h:E c):aP n V0 I (fun st=>((.bad c,st):Rs α × fB σ)) a P E:=fun st j=>⟨j.gL.inv,h⟩
def aP.congr {m':WM σ α} (h:aP n V0 I m' a P E) (e:∀ st,m st=m' st):aP n V0 I m a P E:=fun st j=>by
 have:=h st j;rw [<- e st] at this;exact this
def Ga (hr:uM ask n V0 I) {b:iM σ} (h:Good n V0 I b) {i:Nat} (hi:i<n) :
  ∃ o,gh ask b (i:Int)=((0,vw V0 b.W i),o)/\o.W=b.W/\Good n V0 I o:=by
 unfold gh vw;rw [if_neg (by rw [h.err];simp)]
 cases L:aA b.W (i:Int) with
 | some l=>exact ⟨b,rfl,rfl,h⟩
 | none=>
  cases v:aA b.D (i:Int) with
  | some l=>exact ⟨b,by rw [h.rd i l hi v];rfl,rfl,h⟩
  | none=>
   obtain ⟨r,t⟩:=hr.Yv b.s i h.inv hi;refine ⟨{ b with D:=SL.dM b.D (i:Int) (V0 i),s:=(ask b.s (i:Int)).2 },?_,rfl,h.err,t,h.wr,fun k l z j=>?_,h.keys⟩
   .show sZ ask b (i:Int)=_
    unfold sZ;rw [r];rfl
   .rw [eM] at j
    split at j
    .rename_i e;cases j;congr 1;omega
    .exact h.rd k l z j
def zg (hr:uM ask n V0 I) {st:fB σ} (h:Good n V0 I st.b) {i:Nat} (hi:i<n) :
  ∃ j,cZ ask (i:Int) st=(.ok (vw V0 st.b.W i),{ st with b:=j })/\j.W=st.b.W/\Good n V0 I j:=by
 obtain ⟨j,o,r,t⟩:=Ga hr h hi;refine ⟨j,?_,r,t⟩;unfold cZ;rw [o];rw [if_neg Si0,if_neg (by simp [h.St hr hi])]
def aP.read (hr:uM ask n V0 I) {i:Nat} (h0:0<i) (hi:i<n):aP n V0 I (cZ ask (i:Int)) a (fun l a'=>l=a.V i/\l.length=480/\a'=a) E:=by
 intro st j;obtain ⟨o,t,r,v⟩:=zg hr j.gL hi;rw [t];refine ⟨a,⟨v,fun k L T=>?_,?_,fun z=>?_,j.len⟩,j.view i h0 hi,j.gL.St hr hi,rfl⟩
 .show vw V0 o.W k=_;rw [r];exact j.view k L T
 .show st.bits=_\/(st.bits=J/\st.dt=u/\vw V0 o.W 0=_);rw [r];exact j.bits
 .show vw V0 o.W 0=_;rw [r];exact j.dt z
def aP.write {i:Nat} {l:List UInt8} (h0:0<i) (c0:i<n) (hl:l.length=480):aP n V0 I (cM (i:Int) l) a (fun _ a'=>a'={ a with V:=Cv a.V i l }) E:=by
 intro st j
 have e:kh st.b.err (i:Int) l=0:=by
  unfold kh;rw [j.gL.err,if_neg Si0,if_neg O]
 have v:cM (i:Int) l st=(.ok (),{ st with b:={ st.b with W:=SL.dM st.b.W (i:Int) l } }):=if_pos e;rw [v];refine ⟨{ a with V:=Cv a.V i l },⟨⟨j.gL.err,j.gL.inv,fun k t r h'=>?_,j.gL.rd,fun p hp=>(ri hp).elim (fun e=>by rw [e];exact ⟨O,O⟩) (j.gL.keys p)⟩,fun k r b0=>?_,?_,fun T=>?_,j.len⟩,rfl⟩
 .have o:aA (SL.dM st.b.W (i:Int) l) (k:Int)=X t:=h'
  rw [eM] at o
  split at o
  .cases o;exact hl
  .exact j.gL.wr k t r o
 .show vw V0 (SL.dM st.b.W (i:Int) l) k=Cv a.V i l k
  rw [vX];unfold Cv
  split
  .rfl
  .exact j.view k r b0
 .rcases j.bits with h|⟨h,z,L⟩
  .exact .inl h
  .refine .inr ⟨h,z,?_⟩
   show vw V0 (SL.dM st.b.W (i:Int) l) 0=a.B
   rw [vX,if_neg O];exact L
 .show vw V0 (SL.dM st.b.W (i:Int) l) 0=a.B
  rw [vX,if_neg O];exact j.dt T
def aP.bits (hr:uM ask n V0 I) (h0:0<n):∀ st,Rel n V0 I st a->∃ st',mn ask st=(.ok a.B,st')/\Rel n V0 I st' a/\st'.bits=X a.B:=by
 intro st j;unfold mn;rcases j.bits with h|⟨h,h1,t⟩
 .rw [h];exact ⟨st,rfl,j,h⟩
 .rw [h]
  obtain ⟨o,v,r,L⟩:=zg hr j.gL h0;have z:cZ ask 0 st=(.ok (vw V0 st.b.W 0),{ st with b:=o }):=v;dsimp only;rw [z,t];refine ⟨_,rfl,⟨L,fun k T b0=>?_,.inl rfl,fun hd=>?_,j.len⟩,rfl⟩
  .show vw V0 o.W k=_;rw [r];exact j.view k T b0
  .show vw V0 o.W 0=_;rw [r];exact t
def aP.mark (hr:uM ask n V0 I) (h0:0<n) {id:Nat} {t:Bool}:aP n V0 I (fP ask id t) a (fun _ a'=>a'={ a with B:=ez a.B id t }) E:=by
 intro st v;obtain ⟨z,o,j,L⟩:=aP.bits hr h0 st v;have e:fP ask id t st=Av id t a.B z:=WM.bp o;rw [e];unfold Av;exact ⟨{ a with B:=ez a.B id t },⟨j.gL,j.view,.inl rfl,fun r=>by simp at r,by rw [fy];exact j.len⟩,rfl⟩
def aP.take (hr:uM ask n V0 I) (h0:0<n) (r:fp a.B n=J->E 7):aP n V0 I (jc ask n) a (fun k a'=>fp a.B n=X k/\a'={ a with B:=ez a.B k Q }) E:=by
 intro st z;obtain ⟨L,o,j,T⟩:=aP.bits hr h0 st z;have e:jc ask n st=sH n a.B L:=WM.bp o;rw [e];unfold sH
 cases v:fp a.B n with
 | none=>exact ⟨j.gL.inv,r v⟩
 | some k=>exact ⟨{ a with B:=ez a.B k Q },⟨j.gL,j.view,.inl rfl,fun t=>by simp at t,by rw [fy];exact j.len⟩,rfl,rfl⟩
def Ns (V0:Nat->List UInt8) (M:iM σ):Aw:=⟨vw V0 M.W,vw V0 M.W 0⟩
def Rel.start (hr:uM ask n V0 I) (h0:0<n) {M:iM σ} (h:Good n V0 I M):Rel n V0 I ⟨M,J,u⟩ (Ns V0 M):=
 ⟨h,fun _ _ _=>rfl,.inr ⟨rfl,rfl,rfl⟩,fun _=>rfl,h.St hr h0⟩
def aP.run (hr:uM ask n V0 I) (h0:0<n) {M:iM σ} (hM:Good n V0 I M) (h:aP n V0 I m (Ns V0 M) P E) :
  (∃ x M' a',eA m M=(.ok x,M')/\Good n V0 I M'/\P x a'/\vw V0 M'.W 0=a'.B/\∀ i,0<i->i<n->vw V0 M'.W i=a'.V i) \/
  (∃ c s',eA m M=(.bad c,{ M with s:=s' })/\I s'/\E c):=by
 have h1:=h _ (Rel.start hr h0 hM)
 match L:m ⟨M,J,u⟩,h1 with
 | (.ok x,j),⟨a',o,T⟩=>
  cases v:j.dt with
  | false=>exact .inl ⟨x,j.b,a',Az L v,o.gL,T,o.dt v,o.view⟩
  | true=>
   have r:j.bits=X a'.B:=by
    rcases o.bits with r|⟨_,r,_⟩
    .exact r
    .rw [v] at r;cases r
   have e:kh j.b.err 0 (j.bits.getD [])=0:=by
    unfold kh;rw [o.gL.err,if_neg Si0,r];simp [o.len]
   have e2:cM 0 (j.bits.getD []) j=(.ok (),{ j with b:={ j.b with W:=SL.dM j.b.W 0 (j.bits.getD []) } }):=if_pos e;refine .inl ⟨x,_,a',Io L v e2,⟨o.gL.err,o.gL.inv,fun k l' z h'=>?_,o.gL.rd,fun p hp=>(ri hp).elim (fun e=>by rw [e];exact ⟨O,O⟩) (o.gL.keys p)⟩,T,?_,fun k z b0=>?_⟩
   .have t:aA (SL.dM j.b.W ((0:Nat):Int) (j.bits.getD [])) (k:Int)=X l':=h'
    rw [eM] at t
    split at t
    .cases t;rw [r];exact o.len
    .exact o.gL.wr k l' z t
   .have:=vX V0 j.b.W 0 (j.bits.getD []) 0
    rw [if_pos rfl,r] at this;rw [r];exact this
   .have:=vX V0 j.b.W 0 (j.bits.getD []) k
    rw [if_neg O] at this;exact this.trans (o.view k z b0)
 | (.bad c,j),o=>exact .inr ⟨c,j.b.s,xI L,o.1,o.2⟩
end
def O5 (x:Int) (j:List Int):jW (x :: j)=cO x 2++jW j:=rfl
def Cy (l:List UInt8) (o m:Nat):bJ l o (m+1)=gE (l.drop o) 2 :: bJ l (o+2) m:=by
 simp only [bJ,List.range_succ_eq_map,List.map_cons,List.map_map];congr 1;apply List.map_congr_left;intro i _;simp only [Function.comp,Nat.mul_succ];congr 2;omega
def vC (j:List Int):∀ (o rest:List UInt8),j.all cT=Q->bJ (o++(jW j++rest)) o.length j.length=j:=by
 induction j with
 | nil=>intro o rest _;rfl
 | cons x j r=>
  intro o rest h;simp only [List.all_cons,D6] at h;rw [List.length_cons,Cy,List.drop_left,O5,J7,jR x 2 _ 2 (B3 _)];have t:=jC h.1;have e:x%(256:Int) ^ 2=x:=by rw [show (256:Int) ^ 2=65536 by decide];omega
  rw [e];congr 1;have:=r (o++cO x 2) rest h.2;rw [List.length_append,aT,J7] at this;exact this
def Nt {n:Nd} (j:n.dr.length=16):je n=cO n.kd 1++(cO n.lk 2++(cO n.sz 4++(jW n.dr++(cO n.rw 2++zs 439)))):=by
 unfold je Ts bB;have o:(jW [n.rw])=cO n.rw 2:=by simp [jW]
 rw [o];have r:(cO n.kd 1++cO n.lk 2++cO n.sz 4++jW n.dr++cO n.rw 2).length=41:=by simp [aT,jj,j]
 rw [List.take_append,r,List.take_of_length_le O];have t:(zs 480).take (480-41)=zs 439:=by unfold zs;rw [List.take_replicate];exact congrArg (fun m=>D2 m 0) De0
 rw [t];simp only [J7]
def Oc {n:Nd} (o:n.dr.length=16) (z:n.ok=Q):kU (je n)=(n,0):=by
 have hf:=Nd.rF z;obtain ⟨hk,l0,l1,s0,s1,hd,hr,-,-⟩:=hf;have c0:=jC hr;rw [Nt o];obtain ⟨kd,lk,sz,dr,j⟩:=n;dsimp only at *
 have e1:gE (cO kd 1++(cO lk 2++(cO sz 4++(jW dr++(cO j 2++zs 439))))) 1=kd:=by
  rw [jR kd 1 _ 1 (B3 _),show (256:Int) ^ 1=256 by decide];omega
 have r:(cO kd 1++(cO lk 2++(cO sz 4++(jW dr++(cO j 2++zs 439))))).drop 1=cO lk 2++(cO sz 4++(jW dr++(cO j 2++zs 439))):=H9 (aT _ _)
 have t:(cO kd 1++(cO lk 2++(cO sz 4++(jW dr++(cO j 2++zs 439))))).drop 3=cO sz 4++(jW dr++(cO j 2++zs 439)):=by
  rw [show 3=1+2 from rfl,<- J5,r];exact H9 (aT _ _)
 have d7:(cO kd 1++(cO lk 2++(cO sz 4++(jW dr++(cO j 2++zs 439))))).drop 7=jW dr++(cO j 2++zs 439):=by
  rw [show 7=3+4 from rfl,<- J5,t];exact H9 (aT _ _)
 have v:(cO kd 1++(cO lk 2++(cO sz 4++(jW dr++(cO j 2++zs 439))))).drop 39=cO j 2++zs 439:=by
  rw [show 39=7+32 from rfl,<- J5,d7];exact H9 (by rw [jj,o])
 have b0:(cO kd 1++(cO lk 2++(cO sz 4++(jW dr++(cO j 2++zs 439))))).drop 41=zs 439:=by
  rw [show 41=39+2 from rfl,<- J5,v];exact H9 (aT _ _)
 have hp:bJ (cO kd 1++(cO lk 2++(cO sz 4++(jW dr++(cO j 2++zs 439))))) 7 16=dr:=by
  have:=vC dr (cO kd 1++(cO lk 2++cO sz 4)) (cO j 2++zs 439) hd;rw [o] at this;have e:(cO kd 1++(cO lk 2++cO sz 4)).length=7:=by simp [aT]
  rw [e] at this;simpa only [J7] using this
 have hn:iL (cO kd 1++(cO lk 2++(cO sz 4++(jW dr++(cO j 2++zs 439)))))=⟨kd,lk,sz,dr,j⟩:=by
  unfold iL;rw [e1,r,t,v,hp,jR lk 2 _ 2 (B3 _),jR sz 4 _ 4 (B3 _),jR j 2 _ 2 (B3 _)];have L:lk%(256:Int) ^ 2=lk:=by rw [show (256:Int) ^ 2=65536 by decide];omega
  have T:sz%(256:Int) ^ 4=sz:=by rw [show (256:Int) ^ 4=4294967296 by decide];omega
  have a3:j%(256:Int) ^ 2=j:=by rw [show (256:Int) ^ 2=65536 by decide];omega
  rw [L,T,a3]
 unfold kU;rw [hn,b0,z];have hz:(zs 439).all (· == 0)=Q:=List.all_eq_true.2 fun x hx=>by rw [List.eq_of_mem_replicate hx];rfl
 rw [hz]
 rfl
def MA {l:List Int} (h:l.length=240) (j:l.all cT=Q):mj (jW l)=(l,0):=by
 have:=vC l [] [] j;simp only [List.nil_append,List.append_nil,List.length_nil,h] at this;unfold mj;rw [this,j]
 rfl
abbrev Own:=Nat × Nat × Nat
abbrev tp:Own:=(0,0,0)
abbrev MQ:Own:=(1,0,0)
abbrev Tj:Own:=(2,0,0)
abbrev LU (id:Nat):Own:=(3,id,0)
abbrev GP (id i:Nat):Own:=(4,id,i)
def fH {α:Type} (f:Nat->α) (k:Nat) (x:α):Nat->α:=fun b=>if b=k then x else f b
def bR {α:Type} (f:Nat->α) (k:Nat) (x:α):fH f k x k=x:=if_pos rfl
def aQ {α:Type} (f:Nat->α) {k b:Nat} (x:α) (h:b≠k):fH f k x b=f b:=if_neg h
def A6 (own:Nat->Own) (n:Nat):Nat:=(D7 n).countP fun b=>own b == tp
def wE (own:Nat->Own) (n:Nat):A6 own (n+1)=A6 own n+if own n=tp then 1 else 0:=by
 unfold A6;rw [J2,H8];simp [K9]
def Jv {own own':Nat->Own} {n:Nat} (h:∀ b,b<n->own b=own' b):A6 own n=A6 own' n:=by
 unfold A6;apply K8;intro b j;rw [h b (List.mem_range.1 j)]
def uQ {own:Nat->Own} {k:Nat} {x:Own}:∀ {n:Nat},k<n->A6 (fH own k x) n+(if own k=tp then 1 else 0)=A6 own n+if x=tp then 1 else 0
 | n+1,h=>by
  rw [wE,wE]
  by_cases j:k=n
  .subst j
   rw [bR,Jv (own:=fH own k x) (own':=own) fun b o=>aQ _ _ O];omega
  .have:=uQ (own:=own) (x:=x) (show k<n by omega)
   rw [aQ _ _ (by omega:n≠k)];omega
structure Bm (n:Nat) (own:Nat->Own) (B:List UInt8):Prop where
 len:B.length=480
 bit:∀ b,b<n->(eF B b=true↔own b≠tp)
def Bm.set {n:Nat} {own:Nat->Own} {B:List UInt8} (h:Bm n own B) (hn:n<=3840) {k:Nat} (v:k<n) (x:Own) (t:Bool) (r:t=Q↔x≠tp):Bm n (fH own k x) (ez B k t):=by
 refine ⟨by rw [fy];exact h.len,fun b o=>?_⟩;rw [yI (by rw [h.len];omega)]
 by_cases j:b=k
 .subst j;rw [if_pos rfl,bR];exact r
 .rw [if_neg j,aQ _ _ j];exact h.bit b o
def Bm.sE {n:Nat} {own:Nat->Own} {B:List UInt8} (h:Bm n own B) {k:Nat} (j:fp B n=X k):k<n/\own k=tp:=by
 unfold fp at j;have v:=List.mem_of_find?_eq_some j;have o:=List.find?_some j;have t:=List.mem_range.1 v;refine ⟨t,?_⟩;have:=(h.bit k t)
 by_cases r:own k=tp
 .exact r
 .have z:=this.2 r
  rw [z] at o;simp at o
def Bm.iC {n:Nat} {own:Nat->Own} {B:List UInt8} (h:Bm n own B) (j:fp B n=J):A6 own n=0:=by
 unfold fp at j;rw [List.find?_eq_none] at j;unfold A6;rw [K7];intro b r z;have T:=List.mem_range.1 r;have o:=j b r;have t:own b=tp:=by simpa using z
 have v:=(h.bit b T)
 have h4:eF B b=Q:=by
  cases L:eF B b with
  | true=>rfl
  | false=>rw [L] at o;simp at o
 exact v.1 h4 t
structure Hd.Ok (n id:Nat) (h:Hd):Prop where
 fit:h.fit
 id:h.id=id
 kd:h.n.kd=1\/h.n.kd=2
 QA:0<=h.n.lk
 UH:h.n.lk<=65535
 Qi:0<=h.n.sz
 SH:h.n.sz<=122880
 Ss:0<=h.n.rw
 TS:h.n.rw<n
 pg:∀ i,i<256->0<=h.bA i/\h.bA i<n
 rz:h.n.rw=0->∀ i,16<=i->i<256->h.bA i=0
def gM (N:Nat->Option Hd) (b id:Nat):Prop:=∃ h,N id=X h/\h.n.rw=(b:Int)/\b≠0
def gK (N:Nat->Option Hd) (b id i:Nat):Prop:=∃ h,N id=X h/\i<256/\h.bA i=(b:Int)/\b≠0
structure kX (n:Nat) (own:Nat->Own) (N:Nat->Option Hd):Prop where
 bm:∀ b,own b=MQ↔b=0
 out:∀ b,n<=b->own b=tp
 ok:∀ id h,N id=some h->0<id/\id<n/\h.Ok n id
 nd:∀ b,own b=Tj↔(N b).isSome=true
 rw:∀ b id,own b=LU id↔gM N b id
 pg:∀ b id i,own b=GP id i↔gK N b id i
section
variable {n id k i:Nat} {own:Nat->Own} {N:Nat->Option Hd} {h h':Hd}
def kX.zt (L:kX n own N) (hN:N id=X h):own id=Tj:=(L.nd id).2 (by rw [hN];rfl)
def kX.CR (L:kX n own N) (hN:N id=X h) (h0:h.n.rw≠0):own h.n.rw.toNat=LU id:=by
 have:=(L.ok id h hN).2.2.Ss;exact (L.rw _ _).2 ⟨h,hN,O,O⟩
def kX.NU (L:kX n own N) (hN:N id=X h) (hi:i<256) (h0:h.bA i≠0):own (h.bA i).toNat=GP id i:=by
 have:=((L.ok id h hN).2.2.pg i hi).1;exact (L.pg _ _ _).2 ⟨h,hN,hi,O,O⟩
def kX.zero (L:kX n own N):own 0=MQ:=(L.bm 0).2 rfl
def kX.jU (L:kX n own N) (j:own k=tp):k≠0:=by rintro rfl;rw [L.zero] at j;cases j
def kX.iC (L:kX n own N) (j:own k=tp):N k=J:=by
 cases hN:N k with
 | none=>rfl
 | some h=>have:=L.zt hN;rw [j] at this;cases this
def kX.dM (L:kX n own N) {x:Own} {o:Nat->Option Hd} (t:k≠0) (f0:k<n) (hx:x≠MQ) (T:∀ id h,o id=X h->0<id/\id<n/\h.Ok n id)
  (v:∀ b,b≠k->(o b).isSome=(N b).isSome) (z:x=Tj↔(o k).isSome=Q)
  (e0:∀ b id,b≠k->(gM o b id↔gM N b id)) (d0:∀ id,x=LU id↔gM o k id)
  (b0:∀ b id i,b≠k->(gK o b id i↔gK N b id i)) (c0:∀ id i,x=GP id i↔gK o k id i):kX n (fH own k x) o:=by
 refine ⟨fun b=>?_,fun b r=>?_,T,fun b=>?_,fun b id=>?_,fun b id i=>?_⟩
 .by_cases j:b=k
  .subst j;rw [bR];exact ⟨fun h=>absurd h hx,fun h=>absurd h t⟩
  .rw [aQ _ _ j];exact L.bm b
 .rw [aQ _ _ (by omega)];exact L.out b r
 .by_cases j:b=k
  .subst j;rw [bR];exact z
  .rw [aQ _ _ j,v b j];exact L.nd b
 .by_cases j:b=k
  .subst j;rw [bR];exact d0 id
  .rw [aQ _ _ j,e0 b id j];exact L.rw b id
 .by_cases j:b=k
  .subst j;rw [bR];exact c0 id i
  .rw [aQ _ _ j,b0 b id i j];exact L.pg b id i
def GI {N:Nat->Option Hd} {o:Option Hd} {id id':Nat} {g:Hd} (h:fH N id o id'=X g):(id'=id/\o=X g)\/(id'≠id/\N id'=X g):=by
 by_cases e:id'=id
 .subst e;rw [bR] at h;exact .inl ⟨rfl,h⟩
 .rw [aQ _ _ e] at h;exact .inr ⟨e,h⟩
def mu {N:Nat->Option Hd} {id b:Nat} (hN:N id=X h):(fH N id (X h') b).isSome=(N b).isSome:=by
 by_cases e:b=id
 .subst e;rw [bR,hN];rfl
 .rw [aQ _ _ e]
def tq (hN:N id=X h) {b id':Nat} (r:b≠0->(h'.n.rw=(b:Int)↔h.n.rw=(b:Int))):gM (fH N id (X h')) b id'↔gM N b id':=by
 by_cases e:id'=id
 .subst e
  unfold gM;rw [bR,hN];constructor
  .rintro ⟨g,e,o,j⟩;cases e;exact ⟨h,rfl,(r j).1 o,j⟩
  .rintro ⟨g,e,o,j⟩;cases e;exact ⟨h',rfl,(r j).2 o,j⟩
 .unfold gM;rw [aQ _ _ e]
def sU (hN:N id=X h) {b id' j:Nat} (v:j<256->b≠0->(h'.bA j=(b:Int)↔h.bA j=(b:Int))):gK (fH N id (X h')) b id' j↔gK N b id' j:=by
 by_cases e:id'=id
 .subst e
  unfold gK;rw [bR,hN];constructor
  .rintro ⟨g,e,r,t,o⟩;cases e;exact ⟨h,rfl,r,(v r o).1 t,o⟩
  .rintro ⟨g,e,r,t,o⟩;cases e;exact ⟨h',rfl,r,(v r o).2 t,o⟩
 .unfold gK;rw [aQ _ _ e]
def kX.Ua (L:kX n own N) (hN:N id=X h) (o:h'.Ok n id):∀ id' g,fH N id (X h') id'=X g->0<id'/\id'<n/\g.Ok n id':=by
 intro id' g j;rcases GI j with ⟨rfl,e⟩|⟨_,e⟩
 .cases e;exact ⟨(L.ok _ _ hN).1,(L.ok _ _ hN).2.1,o⟩
 .exact L.ok _ _ e
def kX.NQ (L:kX n own N) {x:Own} (j:own k=x) (o:∀ id,x≠LU id):∀ id,¬ gM N k id:=fun id h=>o id (j.symm.trans ((L.rw k id).2 h))
def kX.GX (L:kX n own N) {x:Own} (j:own k=x) (o:∀ id i,x≠GP id i):∀ id i,¬ gK N k id i:=fun id i h=>o id i (j.symm.trans ((L.pg k id i).2 h))
def kX.new (L:kX n own N) (o:own k=tp) (t:k<n) (ho:h'.Ok n k) (hp:∀ i,i<256->h'.bA i=0) (hr:h'.n.rw=0):kX n (fH own k Tj) (fH N k (X h')):=by
 have hN:=L.iC o;have b0:=L.jU o
 have hR:∀ b id,gM (fH N k (X h')) b id↔gM N b id:=by
  intro b id
  by_cases e:id=k
  .subst e
   unfold gM;rw [bR,hN];constructor
   .rintro ⟨g,e,j,v⟩;cases e;rw [hr] at j;exact absurd j O
   .rintro ⟨g,e,_⟩;cases e
  .unfold gM;rw [aQ _ _ e]
 have r:∀ b id i,gK (fH N k (X h')) b id i↔gK N b id i:=by
  intro b id i
  by_cases e:id=k
  .subst e
   unfold gK;rw [bR,hN];constructor
   .rintro ⟨g,e,hi,j,v⟩;cases e;rw [hp i hi] at j;exact absurd j O
   .rintro ⟨g,e,_⟩;cases e
  .unfold gK;rw [aQ _ _ e]
 refine L.dM b0 t De0 ?_ (fun b z=>by rw [aQ _ _ z]) (by rw [bR];simp) (fun b id _=>hR b id) (fun id=>?_) (fun b id i _=>r b id i) (fun id i=>?_)
 .intro id g T
  rcases GI T with ⟨rfl,e⟩|⟨_,e⟩
  .cases e;exact ⟨O,t,ho⟩
  .exact L.ok _ _ e
 .rw [hR]
  exact ⟨fun h=>absurd h Si0,fun h=>absurd h (L.NQ o Si0 id)⟩
 .rw [r]
  exact ⟨fun h=>absurd h Si0,fun h=>absurd h (L.GX o Si0 id i)⟩
def kX.bA (L:kX n own N) (hN:N id=X h) (t:own k=tp) (e0:k<n) (hi:i<256) (h0:h.bA i=0) (hr:16<=i->h.n.rw≠0):kX n (fH own k (GP id i)) (fH N id (X (h.put i (k:Int)))):=by
 have c0:=L.jU t;have o:=(L.ok _ _ hN).2.2;have v:=fun j=>Hd.qL o.fit hi (k:Int) j;have hR:∀ b id',gM (fH N id (X (h.put i (k:Int)))) b id'↔gM N b id':=fun b id'=>tq hN (by rw [Hd.sX];exact fun _=>Iff.rfl);refine L.dM c0 e0 Si0 (L.Ua hN ?_) (fun b _=>mu hN) ?_ (fun b id _=>hR b id) (fun id'=>?_) (fun b id' j hb=>sU hN fun z=>?_) (fun id' j=>?_)
 .refine ⟨Hd.Ir o.fit _ _,by rw [Hd.U5];exact o.id,?_,?_,?_,?_,?_,by rw [Hd.sX];exact o.Ss,by rw [Hd.sX];exact o.TS,fun j z=>?_,fun r j b0 d0=>?_⟩
  .unfold Hd.put;split <;> exact o.kd
  .unfold Hd.put;split <;> exact o.QA
  .unfold Hd.put;split <;> exact o.UH
  .rw [Hd.Pr];exact o.Qi
  .rw [Hd.Pr];exact o.SH
  .rw [v];split
   .exact ⟨O,O⟩
   .exact o.pg j z
  .rw [Hd.sX] at r
   rw [v,if_neg (by rintro rfl;exact hr b0 r)];exact o.rz r j b0 d0
 .have:(N k)=J:=L.iC t
  rw [mu hN,this];simp
 .rw [hR];exact ⟨fun h=>absurd h Si0,fun h=>absurd h (L.NQ t Si0 id')⟩
 .rw [v]
  intro f0
  split
  .rename_i e;subst e;rw [h0]
   exact ⟨fun h=>absurd O hb,fun h=>absurd h.symm O⟩
  .exact Iff.rfl
 .by_cases e:id'=id
  .subst e
   by_cases ej:j=i
   .subst ej
    exact ⟨fun _=>⟨_,bR _ _ _,hi,by rw [v,if_pos rfl],c0⟩,fun _=>rfl⟩
   .refine ⟨fun h=>absurd h (by simp;omega),fun r=>?_⟩
    obtain ⟨g,e,z,h1,h2⟩:=r;rw [bR] at e;cases e
    rw [v,if_neg ej] at h1;exact absurd ⟨h,hN,z,h1,h2⟩ (L.GX t Si0 _ _)
  .refine ⟨fun h=>absurd h (by simp;omega),fun r=>?_⟩
   obtain ⟨g,T,r⟩:=r;rw [aQ _ _ e] at T;exact absurd ⟨g,T,r⟩ (L.GX t Si0 _ _)
def kX.row (L:kX n own N) (hN:N id=X h) (t:own k=tp) (b0:k<n) (h0:h.n.rw=0):kX n (fH own k (LU id)) (fH N id (X (h.jM (k:Int)))):=by
 have T:=L.jU t;have o:=(L.ok _ _ hN).2.2;have z:∀ b id' j,gK (fH N id (X (h.jM (k:Int)))) b id' j↔gK N b id' j:=fun b id' j=>sU hN fun _ _=>Iff.rfl;refine L.dM T b0 Si0 (L.Ua hN ?_) (fun b _=>mu hN) ?_ (fun b id' hb=>tq hN fun c0=>?_) (fun id'=>?_) (fun b id i _=>z b id i) (fun id' j=>?_)
 .exact ⟨o.fit,o.id,o.kd,o.QA,o.UH,o.Qi,o.SH,show 0<=(k:Int) by omega,show (k:Int)<n by omega,o.pg,fun r=>absurd (show (k:Int)=0 from r) O⟩
 .rw [mu hN,L.iC t];simp
 .rw [h0];show (k:Int)=b↔_;constructor <;> intro r <;> omega
 .by_cases e:id'=id
  .subst e
   exact ⟨fun _=>⟨_,bR _ _ _,rfl,T⟩,fun _=>rfl⟩
  .refine ⟨fun h=>absurd h (by simp;omega),fun r=>?_⟩
   obtain ⟨g,v,r⟩:=r;rw [aQ _ _ e] at v;exact absurd ⟨g,v,r⟩ (L.NQ t Si0 _)
 .rw [z];exact ⟨fun h=>absurd h Si0,fun h=>absurd h (L.GX t Si0 id' j)⟩
def kX.set (L:kX n own N) (hN:N id=X h) (r:h'.Ok n id) (hr:h'.n.rw=h.n.rw) (t:∀ i,i<256->h'.bA i=h.bA i):kX n own (fH N id (X h')):=by
 refine ⟨L.bm,L.out,L.Ua hN r,fun b=>?_,fun b id'=>?_,fun b id' j=>?_⟩
 .rw [mu hN];exact L.nd b
 .rw [tq hN fun _=>by rw [hr]];exact L.rw b id'
 .rw [sU hN fun o _=>by rw [t j o]];exact L.pg b id' j
end
def lK (V:Nat->List UInt8) (h:Hd) (p:Nat):UInt8:=if h.bA (p/480)=0 then 0 else (V (h.bA (p/480)).toNat).getD (p%480) 0
structure Cd (V:Nat->List UInt8) (h:Hd):Prop where
 dec:kU (V h.id)=(h.n,0)
 row:h.n.rw≠0->mj (V h.n.rw.toNat)=(h.row,0)
structure Hd.Fin (h:Hd):Prop where
 hi:∀ i:Nat,i<256->cJ h.n.sz<=i->h.bA i=0
 WS:h.n.rw≠0->∃ i,16<=i/\i<256/\h.bA i≠0
def Ez (V:Nat->List UInt8) (h:Hd):Prop:=∀ p:Nat,p<122880->h.n.sz<=p->lK V h p=0
structure vi (n:Nat) (a:Aw) (own:Nat->Own) (N:Nat->Option Hd) (id:Nat):Prop where
 lay:kX n own N
 bm:Bm n own a.B
 len:∀ b,0<b->b<n->(a.V b).length=480
 rest:∀ id' h,id'≠id->N id'=some h->h.Fin/\Cd a.V h/\Ez a.V h
section
variable {n id k i:Nat} {own:Nat->Own} {N:Nat->Option Hd} {h h':Hd} {a:Aw} {V V':Nat->List UInt8}
def kX.YD (L:kX n own N):N 0=J:=by
 cases hN:N 0 with
 | none=>rfl
 | some h=>exact absurd (L.ok 0 h hN).1 O
def ku (V:Nat->List UInt8) (k:Nat) (l:List UInt8):Cv V k l k=l:=if_pos rfl
def fK (V:Nat->List UInt8) {k b:Nat} (l:List UInt8) (h:b≠k):Cv V k l b=V b:=if_neg h
def Cd.frame (L:kX n own N) (hN:N id=X h) (o:Cd V h) (j:∀ b,b=id\/own b=LU id->V' b=V b):Cd V' h:=by
 have r:=(L.ok _ _ hN).2.2;refine ⟨?_,fun h0=>?_⟩
 .rw [j _ (.inl r.id)];exact o.dec
 .rw [j _ (.inr (L.CR hN h0))];exact o.row h0
def py (L:kX n own N) (hN:N id=X h) (j:∀ b i,own b=GP id i->V' b=V b) {p:Nat} (o:p<122880):lK V' h p=lK V h p:=by
 unfold lK
 split
 .rfl
 .rename_i h0
  rw [j _ _ (L.NU hN O h0)]
def Ez.frame (L:kX n own N) (hN:N id=X h) (t:Ez V h) (r:∀ b i,own b=GP id i->V' b=V b):Ez V' h:=fun p j o=>by
 rw [py L hN r j];exact t p j o
def I0 (own:Nat->Own) (id k:Nat):Prop:=own k=tp\/(own k=Tj/\k=id)\/own k=LU id\/∃ i,own k=GP id i
def vQ {id':Nat} (L:kX n own N) (hN:N id'=X h) (v:id'≠id) (t:I0 own id k):k≠id'/\own k≠LU id'/\∀ i,own k≠GP id' i:=by
 have:=L.zt hN;refine ⟨?_,?_,?_⟩
 .rintro rfl
  rcases t with o|⟨_,o⟩|o|⟨i,o⟩
  .rw [this] at o;cases o
  .exact v o
  .rw [this] at o;cases o
  .rw [this] at o;cases o
 .intro r
  rcases t with o|⟨o,_⟩|o|⟨i,o⟩
  .rw [r] at o;cases o
  .rw [r] at o;cases o
  .rw [r] at o;simp at o;exact v o
  .rw [r] at o;cases o
 .intro j r
  rcases t with o|⟨o,_⟩|o|⟨i,o⟩
  .rw [r] at o;cases o
  .rw [r] at o;cases o
  .rw [r] at o;cases o
  .rw [r] at o;simp at o;exact v o.1
def vi.SZ (S:vi n a own N id) {id':Nat} (r:id'≠id) (hN:N id'=X h) (t:∀ b,¬ I0 own id b->V' b=a.V b):h.Fin/\Cd V' h/\Ez V' h:=by
 obtain ⟨v,z,L⟩:=S.rest id' h r hN;refine ⟨v,z.frame S.lay hN fun b j=>t b fun o=>?_,L.frame S.lay hN fun b i j=>t b fun o=>?_⟩
 .have:=vQ S.lay hN r o
  rcases j with rfl|j
  .exact this.1 rfl
  .exact this.2.1 j
 .exact (vQ S.lay hN r o).2.2 i j
def yS (L:kX n own N) {id':Nat} (t:id'≠id) (hN:N id'=X h) (j:∀ b,¬ I0 own id b->V' b=V b) {p:Nat} (v:p<122880):lK V' h p=lK V h p:=
 py L hN (fun b i o=>j b fun r=>(vQ L hN t r).2.2 i o) v
def vi.ib (S:vi n a own N 0) (id:Nat):vi n a own N id:=⟨S.lay,S.bm,S.len,fun id' h j hN=>S.rest id' h (by rintro rfl;rw [S.lay.YD] at hN;cases hN) hN⟩
def vi.write (S:vi n a own N id) (o:I0 own id k) {l:List UInt8} (r:l.length=480):vi n { a with V:=Cv a.V k l } own N id:=by
 refine ⟨S.lay,S.bm,fun b h0 j=>?_,fun id' h v hN=>S.SZ v hN fun b t=>fK _ _ (by rintro rfl;exact t o)⟩
 by_cases e:b=k
 .subst e;show (Cv a.V b l b).length=480;rw [ku];exact r
 .show (Cv a.V k l b).length=480;rw [fK _ _ e];exact S.len b h0 j
def vi.step (S:vi n a own N id) {o:Nat->Own} {j:Nat->Option Hd} {r:List UInt8} (v:kX n o j) (L:Bm n o r) (hN:∀ id',id'≠id->j id'=N id'):vi n { a with B:=r } o j id:=
 ⟨v,L,S.len,fun id' h t z=>S.rest id' h t ((hN id' t).symm.trans z)⟩
def Hd.Ok.ok (j:h.Ok n id) (hn:n<=3840) (r:h.Fin):h.n.ok=Q:=by
 have v:∀ i,i<16->h.bA i=h.n.dr.getD i 0:=fun i hi=>by unfold Hd.bA;rw [if_pos hi]
 unfold Nd.ok
 have z:h.n.dr.all cT=Q:=by
  rw [H7];intro p hp;obtain ⟨i,hi,rfl⟩:=J4 hp;have b0:i<16:=by have:=j.fit.1;omega
  have h1:=j.pg i O;have t:=v i b0;rw [D8,H6 hi] at t;simp only [Option.getD_some] at t;unfold cT;simp only [D6,decide_eq_true_eq];omega
 have L:cT h.n.rw=Q:=by
  have:=j.Ss;have:=j.TS;unfold cT;simp only [D6,decide_eq_true_eq];omega
 have T:(16<cJ h.n.sz)\/h.n.rw=0:=by
  by_cases h0:h.n.rw=0
  .exact .inr h0
  .obtain ⟨i,i1,i2,i3⟩:=r.WS h0
   left
   by_cases o:cJ h.n.sz<=i
   .exact absurd (r.hi i i2 o) i3
   .omega
 have e4:((D7 16).all fun i=>decide ((i:Int)<cJ h.n.sz) || decide (h.n.dr.getD i 0=0))=Q:=by
  rw [H7];intro i hi;have hi:=List.mem_range.1 hi;simp only [E5,decide_eq_true_eq]
  by_cases o:cJ h.n.sz<=i
  .right;rw [<- v i hi];exact r.hi i O o
  .left;omega
 rw [z,L,e4];have:=j.kd;have:=j.QA;have:=j.UH;have:=j.Qi;have:=j.SH;simp only [D6,E5,decide_eq_true_eq];exact ⟨⟨⟨⟨⟨⟨⟨⟨j.kd,j.QA⟩,j.UH⟩,j.Qi⟩,j.SH⟩,trivial⟩,trivial⟩,T⟩,trivial⟩
def Hd.Ok.row (o:h.Ok n id) (hn:n<=3840):h.row.all cT=Q/\h.row.all (fun x=>decide (x<n))=Q:=by
 have r:∀ x ∈ h.row,0<=x/\x<n:=by
  intro x j;obtain ⟨i,hi,rfl⟩:=J4 j;have z:=o.fit.2;have t:=o.pg (16+i) O
  have v:h.bA (16+i)=h.row[i]:=by
   unfold Hd.bA;rw [if_neg O,show 16+i-16=i by omega,D8,H6 hi];rfl
  omega
 constructor
 .rw [H7];intro x j;have:=r x j;unfold cT;simp only [D6,decide_eq_true_eq];omega
 .rw [H7];intro x j;have:=r x j;simp only [decide_eq_true_eq];omega
def Hd.Ok.dr (j:h.Ok n id):h.n.dr.all (fun x=>decide (x<n))=Q:=by
 rw [H7];intro x o;obtain ⟨i,hi,rfl⟩:=J4 o;have t:=j.fit.1;have r:=j.pg i O
 have v:h.bA i=h.n.dr[i]:=by
  unfold Hd.bA;rw [if_pos O,D8,H6 hi];rfl
 simp only [decide_eq_true_eq];omega
def Hd.Ok.XI (o:h.Ok n id) (h0:h.n.rw=0):h.row=D2 240 0:=by
 rw [List.eq_replicate_iff];refine ⟨o.fit.2,fun x r=>?_⟩;obtain ⟨i,hi,rfl⟩:=J4 r;have t:=o.fit.2;have j:=o.rz h0 (16+i) O O;unfold Hd.bA at j;rw [if_neg O,show 16+i-16=i by omega,D8,H6 hi] at j;exact j
end
section
variable {σ:Type} {n id:Nat} {own:Nat->Own} {N:Nat->Option Hd} {h:Hd} {a:Aw} {V0:Nat->List UInt8} {I:σ->Prop} {ask:dO σ} {E:Int->Prop}
def aP.within {l:List Int} (j:l.all (fun x=>decide (x<n))=Q):aP n V0 I (eE n l) a (fun _ a'=>a'=a) E:=
 aP.congr (m':=WM.pure ()) (aP.pure rfl) fun st=>by unfold eE WM.pure;rw [if_pos j]
def aP.load (hr:uM ask n V0 I) (hn:n<=3840) (S:vi n a own N 0) (hN:N id=X h):aP n V0 I (iP ask n (id:Int)) a (fun x a'=>x=h/\a'=a) E:=by
 obtain ⟨T,i1,j⟩:=S.lay.ok _ _ hN;obtain ⟨hf,v,ht⟩:=S.rest id h O hN
 have r:∀ a,aP n V0 I (jo n id h.n h.row) a (fun x a'=>x=h/\a'=a) E:=by
  intro a;refine (aP.within j.dr).bind fun _ a' e=>?_;subst e;refine (aP.within (j.row hn).2).bind fun _ a' e=>?_;subst e;exact aP.pure ⟨by rw [<- j.id],rfl⟩
 refine aP.congr (m':=WM.bind (cZ ask (id:Int)) fun L=>UT (kU L) (lH ask n id)) ?_ fun st=>if_pos ⟨O,O⟩;refine (aP.read hr T i1).bind fun L a' e=>?_;obtain ⟨rfl,-,rfl⟩:=e;have t:=v.dec;rw [j.id] at t;rw [t];refine aP.congr (m':=lH ask n id h.n) ?_ fun st=>if_pos rfl
 by_cases h0:h.n.rw=0
 .refine aP.congr (m':=jo n id h.n h.row) (r _) fun st=>?_
  rw [j.XI h0];exact if_pos h0
 .have r0:=j.Ss
  have r1:=j.TS;obtain ⟨k,z⟩:∃ k:Nat,h.n.rw=(k:Int):=⟨h.n.rw.toNat,O⟩
  have o:=v.row h0;refine aP.congr (m':=WM.bind (eE n [h.n.rw]) fun _=>WM.bind (cZ ask h.n.rw) fun L=>Ov (mj L) (jo n id h.n)) ?_ fun st=>if_neg h0;refine (aP.within (by simp;omega)).bind fun _ a' e=>?_;subst e;rw [z] at o ⊢;refine (aP.read hr O O).bind fun L a' e=>?_;obtain ⟨rfl,-,rfl⟩:=e;rw [D3] at o;rw [o];exact (r _).congr fun st=>if_pos rfl
def lQ (V:Nat->List UInt8) (h:Hd):Nat->List UInt8:=if h.n.rw=0 then Cv V h.id (je h.n) else Cv (Cv V h.id (je h.n)) h.n.rw.toNat (jW h.row)
def aP.save (o:0<h.id) (r:h.id<n) (T:h.n.rw<n) (L:0<=h.n.rw) (v:h.n.ok=Q) (z:h.row.all cT=Q) (j:h.row.length=240):aP n V0 I (ew h) a (fun _ a'=>a'={ a with V:=lQ a.V h }) E:=by
 refine aP.congr (m':=WM.bind (cM (h.id:Int) (je h.n)) fun _=>L9 h) ?_ fun st=>if_pos v;refine (aP.write o r (qS _)).bind fun _ a' e=>?_;subst e
 by_cases h0:h.n.rw=0
 .refine aP.congr (m':=WM.pure ()) (aP.pure ?_) fun st=>if_pos h0
  unfold lQ;rw [if_pos h0]
 .obtain ⟨k,t⟩:∃ k:Nat,h.n.rw=(k:Int):=⟨h.n.rw.toNat,O⟩
  refine aP.congr (m':=cM h.n.rw (jW h.row)) ?_ fun st=>(if_neg h0).trans (if_pos z);unfold lQ;rw [if_neg h0];rw [t,D3];exact aP.write O O (by rw [jj,j])
def qu {V:Nat->List UInt8} {b:Nat} (j:b≠h.id) (o:h.n.rw≠0->b≠h.n.rw.toNat):lQ V h b=V b:=by
 unfold lQ
 split
 .exact fK _ _ j
 .rename_i h0;rw [fK _ _ (o h0),fK _ _ j]
def vi.saved (S:vi n a own N id) (hn:n<=3840) (hN:N id=X h) (z:h.Fin) (ht:Ez a.V h):vi n { a with V:=lQ a.V h } own N 0/\∀ p,p<122880->lK (lQ a.V h) h p=lK a.V h p:=by
 obtain ⟨i0,i1,o⟩:=S.lay.ok _ _ hN;have r:=o.id
 have hm:∀ b,¬ I0 own id b->lQ a.V h b=a.V b:=by
  intro b j;refine qu ?_ fun h0=>?_
  .rintro rfl;exact j (.inr (.inl ⟨by rw [r];exact S.lay.zt hN,r⟩))
  .rintro rfl;exact j (.inr (.inr (.inl (S.lay.CR hN h0))))
 have L:∀ b i,own b=GP id i->lQ a.V h b=a.V b:=by
  intro b i j;refine qu ?_ fun h0=>?_
  .rintro rfl;rw [r,S.lay.zt hN] at j;cases j
  .rintro rfl;rw [S.lay.CR hN h0] at j;cases j
 refine ⟨⟨S.lay,S.bm,fun b h0 j=>?_,fun id' g _ t=>?_⟩,fun p b0=>py S.lay hN L b0⟩
 .show (lQ a.V h b).length=480
  unfold lQ
  have v:(Cv a.V h.id (je h.n) b).length=480:=by
   by_cases e:b=h.id
   .subst e;rw [ku];exact qS _
   .rw [fK _ _ e];exact S.len b h0 j
  split
  .exact v
  .by_cases e:b=h.n.rw.toNat
   .subst e;rw [ku,jj,o.fit.2]
   .rw [fK _ _ e];exact v
 .by_cases e:id'=id
  .subst e
   rw [hN] at t;cases t
   refine ⟨z,⟨?_,fun h0=>?_⟩,ht.frame S.lay hN L⟩
   .show kU (lQ a.V h h.id)=_
    have e:lQ a.V h h.id=je h.n:=by
     unfold lQ
     split
     .exact ku _ _ _
     .rename_i h0
      rw [fK _ _ ?_,ku];intro T;have:=S.lay.CR hN h0;rw [<- T,r,S.lay.zt hN] at this;cases this
    rw [e];exact Oc o.fit.1 (o.ok hn z)
   .show mj (lQ a.V h h.n.rw.toNat)=_
    unfold lQ;rw [if_neg h0,ku];exact MA o.fit.2 (o.row hn).1
  .exact S.SZ e t hm
end
structure AF where
 kd:Int
 lk:Int
 sz:Nat
 ti:Nat->UInt8
 pr:Nat->Bool
def eY (h:Hd) (i:Nat):Bool:=decide (i<256) && decide (h.bA i≠0)
def kQ (V:Nat->List UInt8) (h:Hd):AF:=⟨h.n.kd,h.n.lk,h.n.sz.toNat,fun p=>if p<122880 then lK V h p else 0,eY h⟩
def lJ (pr:Nat->Bool):Nat:=(D7 256).countP pr
def DR (pr:Nat->Bool):Bool:=(D7 256).any fun i=>decide (16<=i) && pr i
def cF (pr:Nat->Bool):Nat:=1+lJ pr+if DR pr=Q then 1 else 0
def Hd.tZ (h:Hd):Nat:=1+lJ (eY h)+if h.n.rw=0 then 0 else 1
def gT {pr:Nat->Bool}:DR pr=Q↔∃ i,16<=i/\i<256/\pr i=Q:=by
 unfold DR;rw [List.any_eq_true];constructor
 .rintro ⟨i,hi,h⟩
  simp only [D6,decide_eq_true_eq] at h;exact ⟨i,h.1,List.mem_range.1 hi,h.2⟩
 .rintro ⟨i,j,o,r⟩
  exact ⟨i,List.mem_range.2 o,by simp only [D6,decide_eq_true_eq];exact ⟨j,r⟩⟩
def qz {p q:Nat->Bool} (h:∀ i,i<256->p i=q i):lJ p=lJ q:=by
 unfold lJ;exact K8 fun i hi=>by rw [h i (List.mem_range.1 hi)]
def tW {p q:Nat->Bool} (h:∀ i,i<256->p i=q i):cF p=cF q:=by
 have e:DR p=DR q:=by
  cases t:DR q with
  | true=>
   obtain ⟨i,o,j,r⟩:=gT.1 t;exact gT.2 ⟨i,o,j,by rw [h i j];exact r⟩
  | false=>
   cases v:DR p with
   | false=>rfl
   | true=>
    obtain ⟨i,o,j,r⟩:=gT.1 v;rw [gT.2 ⟨i,o,j,by rw [<- h i j];exact r⟩] at t;cases t
 unfold cF;rw [qz h,e]
def xG (p q:Nat->Bool) (k:Nat) (h:∀ i,i≠k->p i=q i):∀ m,k<m->(D7 m).countP p+(if q k=Q then 1 else 0)=(D7 m).countP q+if p k=Q then 1 else 0
 | m+1,j=>by
  rw [J2,H8,H8];simp only [K9,List.countP_nil,K6]
  by_cases e:k=m
  .subst e
   have:(D7 k).countP p=(D7 k).countP q:=K8 fun i hi=>by rw [h i (by have:=List.mem_range.1 hi;omega)]
   omega
  .have:=xG p q k h m O
   rw [h m (Ne.symm e)];omega
def BV {p q:Nat->Bool} {k:Nat} (j:k<256) (h:∀ i,i≠k->p i=q i):lJ p+(if q k=Q then 1 else 0)=lJ q+if p k=Q then 1 else 0:=xG p q k h 256 j
def qO {p q:Nat->Bool}:∀ m,(∀ i,i<m->p i=Q->q i=Q)->(D7 m).countP p<=(D7 m).countP q
 | 0,_=>B3 _
 | m+1,h=>by
  rw [J2,H8,H8];simp only [K9,List.countP_nil,K6];have:=qO m fun i hi=>h i O;have j:=h m O
  split
  .rename_i e;rw [if_pos (j e)];omega
  .split <;> omega
def RR {p q:Nat->Bool} (h:∀ i,i<256->p i=Q->q i=Q):lJ p<=lJ q:=qO 256 h
def QL {p q:Nat->Bool} {k:Nat} (t:k<256) (h:∀ i,i<256->p i=Q->q i=Q) (o:p k=u) (r:q k=Q):lJ p+1<=lJ q:=by
 have e:=BV (p:=fun i=>if i=k then Q else p i) (q:=p) t fun i hi=>if_neg hi;rw [if_neg (by rw [o];decide),if_pos (if_pos rfl)] at e
 have:=RR (p:=fun i=>if i=k then Q else p i) (q:=q) fun i hi j=>by
  by_cases e:i=k
  .subst e;exact r
  .rw [if_neg e] at j;exact h i hi j
 omega
section
variable {n id k i:Nat} {own:Nat->Own} {N:Nat->Option Hd} {h h':Hd} {a:Aw} {V V':Nat->List UInt8}
def gj:eY h i=Q↔i<256/\h.bA i≠0:=by unfold eY;simp
def ic (hi:i<256):eY h i=u↔h.bA i=0:=by
 unfold eY;simp [hi]
def CD (o:h.fit) (hi:i<256) (b:Int) (j:Nat):eY (h.put i b) j=if j=i then decide (b≠0) else eY h j:=by
 unfold eY;rw [Hd.qL o hi]
 by_cases e:j=i
 .subst e;rw [if_pos rfl,if_pos rfl];simp [hi]
 .rw [if_neg e,if_neg e]
def Hd.Ok.tZ (z:h.Ok n id) (v:h.Fin):h.tZ=cF (eY h):=by
 unfold Hd.tZ cF;congr 1
 by_cases h0:h.n.rw=0
 .rw [if_pos h0,if_neg]
  intro t;obtain ⟨i,o,j,r⟩:=gT.1 t;exact (gj.1 r).2 (z.rz h0 i o j)
 .obtain ⟨i,o,j,r⟩:=v.WS h0
  rw [if_neg h0,if_pos (gT.2 ⟨i,o,j,gj.2 ⟨j,r⟩⟩)]
def Has (n:Nat) (a:Aw) (A:Nat->Option AF) (k:Nat):Prop:=∃ own N,vi n a own N 0/\A6 own n=k/\∀ id,A id=(N id).map (kQ a.V)
def Has.at {A:Nat->Option AF} {f:AF} (o:∀ id,A id=(N id).map (kQ a.V)) (j:A id=X f):∃ h,N id=X h/\f=kQ a.V h:=by
 rw [o id] at j
 cases hN:N id with
 | none=>rw [hN] at j;cases j
 | some h=>rw [hN] at j;exact ⟨h,rfl,by cases j;rfl⟩
structure AF.Wf (f:AF):Prop where
 kd:f.kd=1\/f.kd=2
 QA:0<=f.lk
 UH:f.lk<=65535
 sz:f.sz<=122880
 tail:∀ p,f.sz<=p->f.ti p=0
 hole:∀ p,f.pr (p/480)=false->f.ti p=0
 Te:∀ i,f.pr i=true->480*i<f.sz
def vi.wf (S:vi n a own N 0) (hN:N id=X h):(kQ a.V h).Wf:=by
 obtain ⟨i0,i1,j⟩:=S.lay.ok _ _ hN;obtain ⟨z,T,L⟩:=S.rest id h O hN;have z0:=j.Qi;have z1:=j.SH;refine ⟨j.kd,j.QA,j.UH,show h.n.sz.toNat<=122880 by omega,fun p r=>?_,fun p r=>?_,fun i hi=>?_⟩
 .show (if p<122880 then lK a.V h p else 0)=0
  split
  .rename_i o;exact L p o (by have:h.n.sz.toNat<=p:=r;omega)
  .rfl
 .show (if p<122880 then lK a.V h p else 0)=0
  split
  .rename_i o
   unfold lK;rw [if_pos ((ic O).1 r)]
  .rfl
 .obtain ⟨o,v⟩:=gj.1 (show eY h i=Q from hi)
  show 480*i<h.n.sz.toNat
  by_cases t:cJ h.n.sz<=i
  .exact absurd (z.hi i o t) v
  .unfold cJ at t;omega
def Has.wf {A:Nat->Option AF} {f:AF} (r:Has n a A k) (o:A id=X f):f.Wf/\0<id/\id<n:=by
 obtain ⟨own,N,S,_,j⟩:=r;obtain ⟨h,hN,rfl⟩:=Has.at j o;exact ⟨S.wf hN,(S.lay.ok _ _ hN).1,(S.lay.ok _ _ hN).2.1⟩
end
section
variable {σ α:Type} {n id k:Nat} {own:Nat->Own} {N:Nat->Option Hd} {h:Hd} {a:Aw} {V0:Nat->List UInt8} {I:σ->Prop} {ask:dO σ} {E:Int->Prop} {A:Nat->Option AF} {f:AF}
def aP.node (hr:uM ask n V0 I) (hn:n<=3840) (r:Has n a A k) (o:A id=X f):aP n V0 I (qX ask n (id:Int)) a (fun x a'=>x.kd=f.kd/\x.lk=f.lk/\x.sz=f.sz/\a'=a) E:=by
 obtain ⟨own,N,S,_,j⟩:=r;obtain ⟨h,hN,rfl⟩:=Has.at j o;have t:=(S.lay.ok _ _ hN).2.2;refine (aP.load hr hn S hN).bind fun x a' e=>?_;obtain ⟨rfl,rfl⟩:=e;have:=t.Qi;exact aP.pure ⟨rfl,rfl,show x.n.sz=(x.n.sz.toNat:Int) by omega,rfl⟩
def wI {l d:List UInt8} {o:Nat} (h:o+d.length<=l.length) (j:Nat):(putAt l o d).getD j 0=if o<=j/\j<o+d.length then d.getD (j-o) 0 else l.getD j 0:=by
 unfold putAt;have r:(l.take o++d).length=o+d.length:=by rw [List.length_append,E3];omega
 have t:(l.take o).length=o:=by rw [E3];omega
 simp only [D8]
 by_cases v:j<o
 .rw [if_neg O,K5 (by rw [r];omega),K5 (by rw [t];exact v),H3,if_pos v]
 .by_cases h4:j<o+d.length
  .rw [if_pos ⟨O,h4⟩,K5 (by rw [r];omega),K2 (by rw [t];omega),t]
  .rw [if_neg O,K2 (by rw [r];omega),r,H2,show o+d.length+(j-(o+d.length))=j by omega]
def aP.rd (hr:uM ask n V0 I) (S:vi n a own N 0) (hN:N id=X h) (off m:Nat) (hm:off+m<=122880):∀ (f done:Nat) (L:List UInt8),L.length=m->m-done<=f->(∀ j,j<m->L.getD j 0=if j<done then lK a.V h (off+j) else 0) ->
  aP n V0 I (DO ask h off f done L) a (fun x a'=>x.length=m/\(∀ j,j<m->x.getD j 0=lK a.V h (off+j))/\a'=a) E:=by
 intro f
 induction f with
 | zero=>intro done L t hf v;exact aP.pure ⟨t,fun j o=>by rw [v j o,if_pos O],rfl⟩
 | succ f ih=>
  intro done L t hf v;obtain ⟨i0,i1,ho⟩:=S.lay.ok _ _ hN
  by_cases hd:done<m
  .obtain ⟨l,z⟩:=Nm (iY (L.length-done) (off+done))
   have d0:l=min (m-done) (480-(off+done)%480):=by rw [<- z,t];rfl
   have c0:∀ j,done<=j->j<done+l->(off+j)/480=(off+done)/480/\(off+j)%480=(off+done)%480+(j-done):=fun j o r=>O
   by_cases h0:h.bA ((off+done)/480)=0
   .refine aP.congr (m':=DO ask h off f (done+l) L) ?_ fun st=>by rw [<- z];exact Tq O h0 st
    refine ih (done+l) L t O fun j o=>?_;rw [v j o]
    by_cases r:j<done
    .rw [if_pos r,if_pos O]
    .rw [if_neg r]
     split
     .unfold lK;rw [(c0 j O O).1,if_pos h0]
     .rfl
   .have hp:=ho.pg ((off+done)/480) O
    obtain ⟨b,hb⟩:∃ b:Nat,h.bA ((off+done)/480)=(b:Int):=⟨(h.bA ((off+done)/480)).toNat,O⟩
    refine aP.congr (m':=WM.bind (cZ ask (b:Int)) fun b0=>DO ask h off f (done+l) (putAt L done ((b0.drop ((off+done)%480)).take l))) ?_ fun st=>by
     refine (if_pos O).trans ((if_neg h0).trans ?_);rw [z,hb]
    refine (aP.read hr O O).bind fun b0 a' e=>?_;obtain ⟨rfl,hX,e3⟩:=e;rw [e3];have T:(((a.V b).drop ((off+done)%480)).take l).length=l:=by rw [E3,J3,hX];omega
    refine ih (done+l) _ (by rw [iK (by rw [T];omega)];exact t) O fun j o=>?_;rw [wI (by rw [T];omega),T]
    by_cases r:done<=j/\j<done+l
    .rw [if_pos r,if_pos O]
     obtain ⟨e1,e2⟩:=c0 j r.1 r.2;unfold lK;rw [e1,if_neg h0,hb,e2,D3];simp only [D8];rw [H3,if_pos O,H2]
    .rw [if_neg r,v j o]
     by_cases h3:j<done
     .rw [if_pos h3,if_pos O]
     .rw [if_neg h3,if_neg O]
  .refine aP.congr (m':=WM.pure L) (aP.pure ⟨t,fun j o=>by rw [v j o,if_pos O],rfl⟩) fun st=>if_neg O
def AF.sub (f:AF) (off o:Nat):List UInt8:=(D7 (min o (f.sz-off))).map fun j=>f.ti (off+j)
def aP.TH (hr:uM ask n V0 I) (hn:n<=3840) (hh:Has n a A k) (hf:A id=X f) (off o:Nat):aP n V0 I (jN ask n (id:Int) (off:Int) (o:Int)) a (fun x a'=>x=f.sub off o/\a'=a) E:=by
 obtain ⟨own,N,S,_,hA⟩:=hh;obtain ⟨h,hN,rfl⟩:=Has.at hA hf;obtain ⟨i0,i1,z⟩:=S.lay.ok _ _ hN;have z0:=z.Qi;have z1:=z.SH;refine (aP.load hr hn S hN).bind fun x a' e=>?_;obtain ⟨rfl,rfl⟩:=e;have L:(kQ a'.V x).sz=x.n.sz.toNat:=rfl
 by_cases t:x.n.sz<=(off:Int)
 .refine aP.congr (m':=WM.pure []) (aP.pure ⟨?_,rfl⟩) fun st=>(if_pos ⟨O,O⟩).trans (if_pos t)
  unfold AF.sub;rw [L,show min o (x.n.sz.toNat-off)=0 by omega];rfl
 .obtain ⟨m,hm⟩:=Nm ((min (o:Int) (x.n.sz-(off:Int))).toNat)
  refine aP.congr (m':=DO ask x off m 0 (zs m)) ?_ fun st=>by
   refine (if_pos ⟨O,O⟩).trans ((if_neg t).trans ?_);rw [hm,D3]
  refine (aP.rd hr S hN off m O m 0 (zs m) (aX m) O fun j hj=>?_).mono (fun d0 c0 e=>?_) fun _ h=>h
  .rw [if_neg O]
   show (D2 m 0).getD j 0=0
   simp only [D8,H5];split <;> rfl
  .obtain ⟨r,T,e3⟩:=e
   refine ⟨?_,e3⟩;have b0:min o ((kQ a'.V x).sz-off)=m:=by rw [L];omega
   unfold AF.sub;rw [b0];apply List.ext_getElem
   .simp [r]
   .intro j v h3
    rw [r] at v;have:=T j v;rw [D8,H6 O] at this;simp only [Option.getD_some] at this;rw [this,List.getElem_map,List.getElem_range];show _=if off+j<122880 then lK a'.V x (off+j) else 0
    rw [if_pos O]
end
structure cC (n:Nat) (a0:Aw) (N0:Nat->Option Hd) (id:Nat) (K:Nat) (a:Aw) (own:Nat->Own) (N:Nat->Option Hd) (h:Hd):Prop where
 sp:vi n a own N id
 hN:N id=some h
 WK:∀ id',id'≠id->N id'=N0 id'
 Ey:∀ id' g,id'≠id->N0 id'=some g->∀ p,p<122880->lK a.V g p=lK a0.V g p
 cons:A6 own n+h.tZ=K
section
variable {n id k i K:Nat} {own:Nat->Own} {N N0:Nat->Option Hd} {h h':Hd} {a a0:Aw} {V V':Nat->List UInt8}
def cC.start (S:vi n a own N 0) (hN:N id=X h):cC n a N id (A6 own n+h.tZ) a own N h:=
 ⟨S.ib id,hN,fun _ _=>rfl,fun _ _ _ _ _ _=>rfl,rfl⟩
def cC.ok (T:cC n a0 N0 id K a own N h):h.Ok n id:=(T.sp.lay.ok _ _ T.hN).2.2
def cC.write (T:cC n a0 N0 id K a own N h) (r:I0 own id k) {l:List UInt8} (z:l.length=480):cC n a0 N0 id K { a with V:=Cv a.V k l } own N h:=
 ⟨T.sp.write r z,T.hN,T.WK,fun id' g j o p t=>by
  have v:N id'=X g:=(T.WK id' j).trans o;rw [<- T.Ey id' g j o p t];exact yS T.sp.lay j v (fun b L=>fK _ _ (by rintro rfl;exact L r)) t,T.cons⟩
def cC.step (T:cC n a0 N0 id K a own N h) {o:Nat->Own} {r:List UInt8} (t:kX n o (fH N id (X h'))) (v:Bm n o r) (z:A6 o n+h'.tZ=K):cC n a0 N0 id K { a with B:=r } o (fH N id (X h')) h':=
 ⟨T.sp.step t v fun id' j=>aQ _ _ j,bR _ _ _,fun id' j=>(aQ _ _ j).trans (T.WK id' j),T.Ey,z⟩
def Nz (o:h.fit) (hi:i<256) {b:Int} (h0:h.bA i=0) (r:b≠0):(h.put i b).tZ=h.tZ+1:=by
 unfold Hd.tZ;rw [Hd.sX];have:=BV (p:=eY (h.put i b)) (q:=eY h) hi fun j t=>by rw [CD o hi,if_neg t]
 rw [CD o hi,if_pos rfl,(ic hi).2 h0] at this;simp only [r,ne_eq,not_false_eq_true,decide_true,if_true,Bool.false_eq_true,if_false] at this;omega
def MZ (h0:h.n.rw=0) {b:Int} (j:b≠0):(h.jM b).tZ=h.tZ+1:=by
 unfold Hd.tZ;have e:eY (h.jM b)=eY h:=rfl;rw [e,if_pos h0,if_neg (show (h.jM b).n.rw≠0 from j)]
def cC.OB (T:cC n a0 N0 id K a own N h) (hn:n<=3840) (j:own k=tp) (o:k<n) (hi:i<256) (h0:h.bA i=0) (hr:16<=i->h.n.rw≠0) :
  cC n a0 N0 id K { a with B:=ez a.B k Q } (fH own k (GP id i)) (fH N id (X (h.put i (k:Int)))) (h.put i (k:Int)):=by
 have r:=T.sp.lay.jU j;refine T.step (T.sp.lay.bA T.hN j o hi h0 hr) (T.sp.bm.set hn o _ _ Si0) ?_;have:=uQ (own:=own) (x:=GP id i) o;rw [if_pos j,if_neg Si0] at this;rw [Nz T.ok.fit hi h0 O];have:=T.cons;omega
def cC.Rv (T:cC n a0 N0 id K a own N h) (hn:n<=3840) (j:own k=tp) (o:k<n) (h0:h.n.rw=0) :
  cC n a0 N0 id K { a with B:=ez a.B k Q } (fH own k (LU id)) (fH N id (X (h.jM (k:Int)))) (h.jM (k:Int)):=by
 have r:=T.sp.lay.jU j;refine T.step (T.sp.lay.row T.hN j o h0) (T.sp.bm.set hn o _ _ Si0) ?_;have:=uQ (own:=own) (x:=LU id) o;rw [if_pos j,if_neg Si0] at this;rw [MZ h0 O];have:=T.cons;omega
def cC.set (T:cC n a0 N0 id K a own N h) (o:h'.Ok n id) (hr:h'.n.rw=h.n.rw) (j:∀ i,i<256->h'.bA i=h.bA i):cC n a0 N0 id K a own (fH N id (X h')) h':=by
 refine T.step (T.sp.lay.set T.hN o hr j) T.sp.bm ?_
 have:h'.tZ=h.tZ:=by
  unfold Hd.tZ;rw [hr,qz (p:=eY h') (q:=eY h) fun i hi=>by unfold eY;rw [j i hi]]
 rw [this];exact T.cons
def cC.done (T:cC n a0 N0 id K a own N h) (hn:n<=3840) (o:h.Fin) (ht:Ez a.V h) {A:Nat->Option AF} (hA:∀ id,A id=(N0 id).map (kQ a0.V)) (f:AF) (h1:h.n.kd=f.kd) (h2:h.n.lk=f.lk) (h3:h.n.sz=f.sz)
  (h4:∀ p,p<122880->lK a.V h p=f.ti p) (b0:∀ p,122880<=p->f.ti p=0) (h5:∀ i,i<256->eY h i=f.pr i) (c0:∀ i,256<=i->f.pr i=u):Has n { a with V:=lQ a.V h } (fH A id (X f)) (K-cF f.pr):=by
 obtain ⟨S,hb⟩:=T.sp.saved hn T.hN o ht;have d0:=T.ok.tZ o;rw [tW h5] at d0;refine ⟨own,N,S,by have:=T.cons;omega,fun id'=>?_⟩
 by_cases e:id'=id
 .subst e
  rw [bR,T.hN];show X f=X (kQ (lQ a.V h) h)
  congr 1;obtain ⟨kd,lk,sz,ti,pr⟩:=f;dsimp only at *;unfold kQ;have v:sz=h.n.sz.toNat:=O
  have z:ti=fun p=>if p<122880 then lK (lQ a.V h) h p else 0:=by
   funext p
   split
   .rename_i j;rw [hb p j];exact (h4 p j).symm
   .rename_i j;exact b0 p O
  have L:pr=eY h:=by
   funext i
   by_cases hi:i<256
   .exact (h5 i hi).symm
   .rw [c0 i O];unfold eY;simp [hi]
  rw [h1,h2,<- v,<- z,<- L]
 .rw [aQ _ _ e,hA id',<- T.WK id' e]
  cases r:N id' with
  | none=>rfl
  | some g=>
   show X (kQ a0.V g)=X (kQ (lQ a.V h) g)
   congr 1;have h0:N0 id'=X g:=(T.WK id' e).symm.trans r;unfold kQ;congr 1;funext p
   split
   .rename_i j
    rw [<- T.Ey id' g e h0 p j];refine (yS T.sp.lay e r (fun b t=>qu ?_ fun h0=>?_) j).symm
    .rintro rfl;exact t (.inr (.inl ⟨by rw [T.ok.id];exact T.sp.lay.zt T.hN,T.ok.id⟩))
    .rintro rfl;exact t (.inr (.inr (.inl (T.sp.lay.CR T.hN h0))))
   .rfl
end
section
variable {σ α:Type} {n id k K:Nat} {own:Nat->Own} {N N0:Nat->Option Hd} {h:Hd} {a a0:Aw} {V0:Nat->List UInt8} {I:σ->Prop} {ask:dO σ} {E:Int->Prop} {A:Nat->Option AF} {f:AF}
def aP.qK (T:cC n a0 N0 id K a own N h) (hn:n<=3840) (o:h.Fin):aP n V0 I (ew h) a (fun _ a'=>a'={ a with V:=lQ a.V h }) E:=by
 have j:=T.ok;exact aP.save (by rw [j.id];exact (T.sp.lay.ok _ _ T.hN).1) (by rw [j.id];exact (T.sp.lay.ok _ _ T.hN).2.1) j.TS j.Ss (j.ok hn o) (j.row hn).1 j.fit.2
def kO (kd:Int):AF:=⟨kd,1,0,fun _=>0,fun _=>u⟩
def fZ (id:Nat) (kd:Int) (i:Nat):(cX id kd).bA i=0:=by
 unfold cX Hd.bA
 split
 .show (D2 16 (0:Int)).getD i 0=0
  simp only [D8,H5];split <;> rfl
 .show (D2 240 (0:Int)).getD (i-16) 0=0
  simp only [D8,H5];split <;> rfl
def MY {kd:Int} (j:kd=1\/kd=2) (h0:0<n):(cX id kd).Ok n id:=
 ⟨⟨rfl,rfl⟩,rfl,j,(by decide:(0:Int)<=1),(by decide:(1:Int)<=65535),(by decide:(0:Int)<=0),(by decide:(0:Int)<=122880),(by decide:(0:Int)<=0),show (0:Int)<n by omega,fun i _=>by rw [fZ];exact ⟨O,O⟩,fun _ i _ _=>fZ _ _ _⟩
def oV (id:Nat) (kd:Int):(cX id kd).Fin:=⟨fun i _ _=>fZ _ _ _,fun h=>absurd rfl h⟩
def oK (V:Nat->List UInt8) (id:Nat) (kd:Int) (p:Nat):lK V (cX id kd) p=0:=by unfold lK;rw [if_pos (fZ _ _ _)]
def y5 (id:Nat) (kd:Int):(cX id kd).tZ=1:=by
 unfold Hd.tZ
 have e:lJ (eY (cX id kd))=0:=by
  unfold lJ;rw [K7];intro i _ h;exact (gj.1 h).2 (fZ _ _ _)
 rw [e,if_pos (show (cX id kd).n.rw=0 from rfl)]
def wU:cF (fun _=>u)=1:=by
 unfold cF;have e:lJ (fun _=>u)=0:=by unfold lJ;rw [K7];intro i _ h;cases h
 rw [e,if_neg];intro o;obtain ⟨i,_,_,j⟩:=gT.1 o;cases j
def cC.made (S:vi n a own N 0) (hn:n<=3840) (j:own k=tp) (o:k<n) {kd:Int} (t:kd=1\/kd=2) :
  cC n a N k (A6 own n) { a with B:=ez a.B k Q } (fH own k Tj) (fH N k (X (cX k kd))) (cX k kd):=by
 have v:=S.lay.jU j;refine ⟨(S.ib k).step (S.lay.new j o (MY t O) (fun i _=>fZ _ _ _) rfl) (S.bm.set hn o _ _ Si0) fun id' r=>aQ _ _ r,bR _ _ _,fun id' r=>aQ _ _ r,fun _ _ _ _ _ _=>rfl,?_⟩;have:=uQ (own:=own) (x:=Tj) o;rw [if_pos j,if_neg Si0] at this;rw [y5];omega
def aP.new (hr:uM ask n V0 I) (h0:0<n) (hn:n<=3840) (hh:Has n a A k) {kd:Int} (t:kd=1\/kd=2) :
  aP n V0 I (xP ask n kd) a (fun x a'=>A x=J/\0<x/\x<n/\0<k/\Has n a' (fH A x (X (kO kd))) (k-1)) (fun c=>c=7/\k=0):=by
 obtain ⟨own,N,S,r,o⟩:=hh;refine aP.congr (m':=WM.bind (jc ask n) (Ig kd)) ?_ fun st=>if_pos t;refine (aP.take hr h0 fun hf=>⟨rfl,by rw [<- r,S.bm.iC hf]⟩).bind fun x a' e=>?_;obtain ⟨z,rfl⟩:=e;obtain ⟨v,j⟩:=S.bm.sE z;have c0:=S.lay.jU j;have T:=cC.made S hn j v t
 have b0:0<k:=by
  have h1:=T.cons;rw [y5] at h1;omega
 refine (aP.qK T hn (oV _ _)).bind fun _ a' e=>?_;subst e;refine aP.pure ⟨by rw [o,S.lay.iC j];rfl,O,v,b0,?_⟩;have:=T.done hn (oV _ _) (fun p _ _=>oK _ _ _ _) o (kO kd) rfl rfl rfl (fun p _=>oK _ _ _ _) (fun _ _=>rfl) (fun i hi=>(ic hi).2 (fZ _ _ _)) fun _ _=>rfl;have L:cF (kO kd).pr=1:=wU;rw [L,r] at this;exact this
def aP.VJ (hr:uM ask n V0 I) (hn:n<=3840) (hh:Has n a A k) (hf:A id=X f) (d:Int) :
  aP n V0 I (lS ask n (id:Int) d) a (fun _ a'=>(0<=wrap64 (f.lk+d)/\wrap64 (f.lk+d)<=65535)/\Has n a' (fH A id (X { f with lk:=wrap64 (f.lk+d) })) k) (fun c=>c=1/\¬ (0<=wrap64 (f.lk+d)/\wrap64 (f.lk+d)<=65535)):=by
 obtain ⟨own,N,S,hk,v⟩:=hh;obtain ⟨h,hN,rfl⟩:=Has.at v hf;obtain ⟨i0,i1,j⟩:=S.lay.ok _ _ hN;obtain ⟨r,hs,ht⟩:=S.rest id h O hN;refine (aP.load hr hn S hN).bind fun x a' e=>?_;obtain ⟨rfl,rfl⟩:=e;show aP n V0 I (uR x (wrap64 (x.n.lk+d))) a' (fun _ t=>(0<=wrap64 (x.n.lk+d)/\wrap64 (x.n.lk+d)<=65535)/\Has n t (fH A id (X { kQ a'.V x with lk:=wrap64 (x.n.lk+d) })) k) (fun c=>c=1/\¬ (0<=wrap64 (x.n.lk+d)/\wrap64 (x.n.lk+d)<=65535))
 generalize wrap64 (x.n.lk+d)=z
 by_cases o:0<=z/\z<=65535
 .refine aP.congr (m':=ew (x.pN z)) ?_ fun st=>if_pos o
  have b0:(x.pN z).Ok n id:=⟨j.fit,j.id,j.kd,o.1,o.2,j.Qi,j.SH,j.Ss,j.TS,j.pg,j.rz⟩
  have T:=(cC.start S hN).set b0 rfl fun _ _=>rfl;have L:(x.pN z).Fin:=⟨r.hi,r.WS⟩
  refine (aP.qK T hn L).mono (fun _ t e=>?_) fun _ h=>h;subst e;refine ⟨o,?_⟩;have z0:=j.Qi
  have:=T.done hn L (fun p h1 h2=>ht p h1 h2) v { kQ a'.V x with lk:=z } rfl rfl (show x.n.sz=(x.n.sz.toNat:Int) by omega) (fun p hp=>by show lK a'.V x p=if p<122880 then lK a'.V x p else 0;rw [if_pos hp])
   (fun p hp=>if_neg O) (fun i _=>rfl) (fun i hi=>by show eY x i=u;unfold eY;simp;omega)
  have e:cF ({ kQ a'.V x with lk:=z }:AF).pr=x.tZ:=(j.tZ r).symm;rw [e,Nat.add_sub_cancel,hk] at this;exact this
 .exact (aP.bad ⟨rfl,o⟩).congr fun st=>if_neg o
def aP.format (hr:uM ask n V0 I) (h0:4<=n) (hn:n<=3840) (d0:∀ b,0<b->b<n->(a.V b).length=480) :
  aP n V0 I (jq ask) a (fun _ a'=>Has n a' (fun id=>if id=1 then X (kO 2) else J) (n-2)) E:=by
 have hz:∀ b,eF (zs 480) b=u:=by
  intro b;unfold eF
  have e:(zs 480).getD (b/8) 0=0:=by
   show (D2 480 (0:UInt8)).getD (b/8) 0=0
   simp only [D8,H5];split <;> rfl
  rw [e];show decide ((0:UInt8).toNat/2 ^ (b%8)%2=1)=u
  have:(0:UInt8).toNat=0:=rfl;rw [this,Nat.zero_div];decide
 obtain ⟨j,r⟩:∃ o:Nat->Own,o=fun b=>if b=0 then MQ else tp:=⟨_,rfl⟩
 have L:kX n j (fun _=>J):=by
  subst r;refine ⟨fun b=>?_,fun b hb=>if_neg O,fun id h t=>(by cases t),fun b=>?_,fun b id=>?_,fun b id i=>?_⟩
  .show (if b=0 then MQ else tp)=MQ↔b=0
   split
   .rename_i e;exact ⟨fun _=>e,fun _=>rfl⟩
   .rename_i e;exact ⟨fun h=>(by cases h),fun h=>absurd h e⟩
  .show (if b=0 then MQ else tp)=Tj↔_
   split <;> simp
  .show (if b=0 then MQ else tp)=LU id↔_
   unfold gM
   split <;> simp
  .show (if b=0 then MQ else tp)=GP id i↔_
   unfold gK
   split <;> simp
 have z:Bm n j (ez (zs 480) 0 Q):=by
  subst r;refine ⟨by rw [fy];exact aX 480,fun b hb=>?_⟩;rw [yI (by rw [aX];omega),hz]
  by_cases e:b=0
  .subst e;simp
  .rw [if_neg e,if_neg e];simp
 have b0:A6 j n=n-1:=by
  subst r
  have:∀ m,0<m->A6 (fun b=>if b=0 then MQ else tp) m=m-1:=by
   intro m
   induction m with
   | zero=>intro h;omega
   | succ m ih=>
    intro _;rw [wE]
    by_cases e:m=0
    .subst e;rfl
    .rw [ih O,if_neg e,if_pos rfl];omega
  exact this n O
 have S0:vi n ⟨a.V,ez (zs 480) 0 Q⟩ j (fun _=>J) 0:=⟨L,z,d0,fun id' h _ t=>(by cases t)⟩
 have c0:j 1=tp:=by subst r;rfl
 have T:=cC.made S0 hn c0 O (.inr rfl)
 have hD:aP n V0 I (WM.bind (fP ask 1 Q) fun _=>ew (cX 1 2)) ⟨a.V,ez (zs 480) 0 Q⟩ (fun _ a'=>Has n a' (fun id=>if id=1 then X (kO 2) else J) (n-2)) E:=by
  refine (aP.mark hr O).bind fun _ a' e=>?_;subst e;refine (aP.qK T hn (oV _ _)).mono (fun _ a' e=>?_) fun _ h=>h;subst e;have:=T.done hn (oV _ _) (fun p _ _=>oK _ _ _ _) (A:=fun _=>J) (fun _=>rfl) (kO 2) rfl rfl rfl (fun p _=>oK _ _ _ _) (fun _ _=>rfl) (fun i hi=>(ic hi).2 (fZ _ _ _)) fun _ _=>rfl;have e2:cF (kO 2).pr=1:=wU;rw [e2,b0] at this;exact this
 intro st v;have h1:fP ask 0 Q { st with bits:=X (zs 480) }=(.ok (),{ st with bits:=X (ez (zs 480) 0 Q),dt:=Q }):=rfl;have e:jq ask st=(WM.bind (fP ask 1 Q) fun _=>ew (cX 1 2)) { st with bits:=X (ez (zs 480) 0 Q),dt:=Q }:=WM.bp h1;rw [e];exact hD _ ⟨v.gL,v.view,.inl rfl,fun h=>by simp at h,by rw [fy];exact aX 480⟩
end
def cP (off m i:Nat):Bool:=decide (0<m) && (decide (480*i<off+m) && decide (off<480*i+480))
def cI {off m i:Nat}:cP off m i=Q↔0<m/\480*i<off+m/\off<480*i+480:=by
 unfold cP;simp only [D6,decide_eq_true_eq]
def AF.wr (f:AF) (off:Nat) (d:List UInt8):AF:=
 { f with sz:=if d.length=0 then f.sz else max f.sz (off+d.length),ti:=fun p=>if off<=p/\p<off+d.length then d.getD (p-off) 0 else f.ti p,pr:=fun i=>f.pr i || cP off d.length i }
def Bd (h h':Hd):Prop:=h.n.kd=h'.n.kd/\h.n.lk=h'.n.lk/\h.n.sz=h'.n.sz
section
variable {n id k q K:Nat} {own:Nat->Own} {N N0:Nat->Option Hd} {h h' h0:Hd} {a a0:Aw}
def KJ (h:Hd) (i:Nat) (b:Int):Bd (h.put i b) h:=by unfold Hd.put Bd;split <;> exact ⟨rfl,rfl,rfl⟩
def Pm {V:Nat->List UInt8} {p:Nat} (e:h.bA (p/480)=h'.bA (p/480)):lK V h p=lK V h' p:=by unfold lK;rw [e]
def cC.I2 (T:cC n a0 N0 id K a own N h) (v:q<256) {b:Nat} (o:h.bA q=(b:Int)) (z:0<b) {l:List UInt8} (t:l.length=480) :
  cC n a0 N0 id K { a with V:=Cv a.V b l } own N h/\∀ p,p<122880->lK (Cv a.V b l) h p=if p/480=q then l.getD (p%480) 0 else lK a.V h p:=by
 have j:=T.sp.lay.NU T.hN v (show h.bA q≠0 by omega);rw [o,D3] at j;refine ⟨T.write (.inr (.inr (.inr ⟨q,j⟩))) t,fun p L=>?_⟩
 by_cases e:p/480=q
 .rw [if_pos e]
  unfold lK;rw [e,if_neg O,o,D3,ku]
 .rw [if_neg e]
  unfold lK
  split
  .rfl
  .rename_i h0
   rw [fK];intro r;have:=T.sp.lay.NU T.hN (show p/480<256 by omega) h0;rw [r,j] at this;simp only [Prod.mk.injEq] at this;exact e this.2.2.symm
end
section
variable {σ α:Type} {n id k q K:Nat} {own:Nat->Own} {N N0:Nat->Option Hd} {h h0:Hd} {a a0:Aw} {V0:Nat->List UInt8} {I:σ->Prop} {ask:dO σ} {E:Int->Prop} {A:Nat->Option AF} {f:AF}
def GN (n:Nat) (a0:Aw) (N0:Nat->Option Hd) (id K:Nat) (a:Aw) (h:Hd) (q:Nat) (j:Bool) (p:Hd × Int × List UInt8) (a':Aw):Prop:=
 ∃ own N,cC n a0 N0 id K a' own N p.1/\a'.V=a.V/\(∃ b:Nat,p.2.1=(b:Int)/\p.1.bA q=(b:Int)/\0<b)/\(∀ i,i≠q->p.1.bA i=h.bA i)/\Bd p.1 h/\(p.1.n.rw≠0->h.n.rw≠0\/16<=q) /\
  p.2.2.length=480/\(j=u->∀ r,r<480->p.2.2.getD r 0=lK a.V h (480*q+r))
def Ic (K:Nat) (h:Hd) (q:Nat) (c:Int):Prop:=c=7/\∃ j:Hd,j.tZ=K/\(∀ i,j.bA i=h.bA i)/\h.bA q=0/\(j.n.rw≠0->h.n.rw≠0\/16<=q)
def Ro (m r:Nat):(zs m).getD r 0=0:=by
 show (D2 m (0:UInt8)).getD r 0=0
 simp only [D8,H5];split <;> rfl
def aP.Sy (hr:uM ask n V0 I) (hn:n<=3840) (T:cC n a0 N0 id K a own N h) (v:q<256) (t:h.bA q=0) (c0:16<=q->h.n.rw≠0) {h1:Hd} {V1:Nat->List UInt8} (hV:a.V=V1) (j:∀ i,h.bA i=h1.bA i) (o:Bd h h1) (z:h.n.rw≠0->h1.n.rw≠0\/16<=q) (wh:Bool) :
  aP n V0 I (qg ask n h q) a (fun p a'=>GN n a0 N0 id K ⟨V1,[]⟩ h1 q wh p a') (Ic K h1 q):=by
 have h0:0<n:=by have:=(T.sp.lay.ok _ _ T.hN);omega
 have hE:fp a.B n=J->Ic K h1 q 7:=fun hf=>⟨rfl,h,by have:=T.cons;have:=T.sp.bm.iC hf;omega,j,by rw [<- j];exact t,z⟩
 refine (aP.take hr h0 hE).bind fun b a' e=>?_
 .obtain ⟨hb,rfl⟩:=e
  obtain ⟨b0,L⟩:=T.sp.bm.sE hb;have d0:=T.sp.lay.jU L;have T':=T.OB hn L b0 v t c0;refine aP.pure ⟨_,_,T',hV,⟨b,rfl,?_,O⟩,fun i hi=>?_,?_,?_,aX 480,fun _ r e0=>?_⟩
  .show (h.put q (b:Int)).bA q=b
   rw [Hd.qL T.ok.fit v,if_pos rfl]
  .show (h.put q (b:Int)).bA i=_
   rw [Hd.qL T.ok.fit v,if_neg hi];exact j i
  .obtain ⟨s1,s2,s3⟩:=KJ h q (b:Int)
   exact ⟨s1.trans o.1,s2.trans o.2.1,s3.trans o.2.2⟩
  .show (h.put q (b:Int)).n.rw≠0->_
   rw [Hd.sX];exact z
  .show (zs 480).getD r 0=_
   rw [Ro];unfold lK;rw [show (480*q+r)/480=q by omega,if_pos (by rw [<- j];exact t)]
def aP.open (hr:uM ask n V0 I) (hn:n<=3840) (T:cC n a0 N0 id K a own N h) (L:q<256) (v:Bool) :
  aP n V0 I (nj ask n h q v) a (GN n a0 N0 id K a h q v) (Ic K h q):=by
 have h0:0<n:=by have:=(T.sp.lay.ok _ _ T.hN);omega
 have c0:∀ p a',GN n a0 N0 id K ⟨a.V,[]⟩ h q v p a'->GN n a0 N0 id K a h q v p a':=fun p a' h=>h
 by_cases t:h.bA q=0
 .by_cases z:16<=q/\h.n.rw=0
  .refine aP.congr (m':=WM.bind (jc ask n) fun r=>qg ask n (h.jM (r:Int)) q) ?_ fun st=>(if_pos t).trans (if_pos z)
   have hE:fp a.B n=J->Ic K h q 7:=fun hf=>⟨rfl,h,by have:=T.cons;have:=T.sp.bm.iC hf;omega,fun _=>rfl,t,fun j=>absurd z.2 j⟩
   refine (aP.take hr h0 hE).bind fun b a' e=>?_
   .obtain ⟨o,rfl⟩:=e
    obtain ⟨f0,d0⟩:=T.sp.bm.sE o;have g0:=T.sp.lay.jU d0;have T':=T.Rv hn d0 f0 z.2;exact (aP.Sy hr hn T' L t (fun _=>show (b:Int)≠0 by omega) (h1:=h) (V1:=a.V) rfl (fun _=>rfl) ⟨rfl,rfl,rfl⟩ (fun _=>.inr z.1) v).mono c0 fun _ h=>h
  .refine aP.congr (m':=qg ask n h q) ?_ fun st=>(if_pos t).trans (if_neg z)
   exact (aP.Sy hr hn T L t (fun j e0=>z ⟨j,e0⟩) (h1:=h) (V1:=a.V) rfl (fun _=>rfl) ⟨rfl,rfl,rfl⟩ (fun j=>.inl j) v).mono c0 fun _ h=>h
 .have i0:=T.ok.pg q L
  obtain ⟨b,o⟩:∃ b:Nat,h.bA q=(b:Int):=⟨(h.bA q).toNat,O⟩
  cases v with
  | true=>
   refine aP.congr (m':=WM.pure (h,h.bA q,zs 480)) (aP.pure ?_) fun st=>(if_neg t).trans (if_pos rfl);exact ⟨own,N,T,rfl,⟨b,o,o,O⟩,fun _ _=>rfl,⟨rfl,rfl,rfl⟩,fun j=>.inl j,aX 480,fun j=>by cases j⟩
  | false=>
   refine aP.congr (m':=WM.bind (cZ ask (b:Int)) fun b0=>WM.pure (h,h.bA q,b0)) ?_ fun st=>by
    refine ((if_neg t).trans (if_neg De0)).trans ?_;rw [o]
   refine (aP.read hr O O).bind fun b0 a' e=>?_;obtain ⟨rfl,hL,e3⟩:=e;rw [e3];refine aP.pure ⟨own,N,T,rfl,⟨b,o,o,O⟩,fun _ _=>rfl,⟨rfl,rfl,rfl⟩,fun j=>.inl j,hL,fun _ r k0=>?_⟩;unfold lK;rw [show (480*q+r)/480=q by omega,if_neg t,o,show (480*q+r)%480=r by omega,D3]
structure Xs (n:Nat) (a0:Aw) (N0:Nat->Option Hd) (id K:Nat) (h0:Hd) (off:Nat) (d:List UInt8) (done:Nat) (a:Aw) (h:Hd):Prop where
 st:∃ own N,cC n a0 N0 id K a own N h
 same:Bd h h0
 Ey:∀ p,p<122880->lK a.V h p=if off<=p/\p<off+done then d.getD (p-off) 0 else lK a0.V h0 p
 Te:∀ i,i<256->eY h i=(eY h0 i || cP off done i)
 rw:h.n.rw≠0->h0.n.rw≠0\/∃ i,16<=i/\i<256/\cP off done i=true
def aP.wr (hr:uM ask n V0 I) (hn:n<=3840) (p0:h0.Fin) (off:Nat) (d:List UInt8) (hm:off+d.length<=122880):∀ (f done:Nat) (a:Aw) (h:Hd),done<=d.length->d.length-done<=f->Xs n a0 N0 id K h0 off d done a h->(done<d.length->done=0\/(off+done)%480=0) ->
  aP n V0 I (zy ask n off d f done h) a (fun h' a'=>Xs n a0 N0 id K h0 off d d.length a' h') (fun c=>c=7/\K<cF fun i=>eY h0 i || cP off d.length i):=by
 intro f
 induction f with
 | zero=>
  intro done a h hd hf T _;obtain rfl:done=d.length:=O
  exact aP.pure T
 | succ f ih=>
  intro done a h hd hf T x0
  by_cases i0:done<d.length
  .obtain ⟨k,hk⟩:=Nm (iY (d.length-done) (off+done))
   have q0:k=min (d.length-done) (480-(off+done)%480):=by rw [<- hk];rfl
   obtain ⟨q,hq⟩:=Nm ((off+done)/480)
   obtain ⟨r,m0⟩:=Nm ((off+done)%480)
   have F0:off+done=480*q+r:=O
   have G0:r<480:=O
   have v:q<256:=O
   rw [m0] at q0
   refine aP.congr (m':=WM.bind (nj ask n h q (k == 480)) (zL (zy ask n off d f) done off k d)) ?_ fun st=>by
    rw [<- hq,<- hk];exact if_pos i0
   obtain ⟨own,N,T0⟩:=T.st;have n0:cP off d.length q=Q:=cI.2 ⟨O,O,O⟩
   have k0:∀ i,cP off done i=Q->cP off d.length i=Q:=fun i hi=>by
    obtain ⟨h1,o,t⟩:=cI.1 hi;exact cI.2 ⟨O,O,t⟩
   refine ((aP.open hr hn T0 v (k == 480)).mono (fun _ _ h=>h) fun c hE=>?_).bind fun p a' hP=>?_
   .obtain ⟨rfl,hx,x1,x2,x3,x4⟩:=hE
    refine ⟨rfl,?_⟩;rw [<- x1];unfold Hd.tZ cF
    have D0:lJ (eY hx)+1<=lJ fun i=>eY h0 i || cP off d.length i:=by
     refine QL v (fun i hi h1=>?_) ((ic v).2 (by rw [x2];exact x3)) (by simp only [n0,K4])
     have o:eY h i=Q:=by
      obtain ⟨t,h4⟩:=gj.1 h1;rw [x2] at h4;exact gj.2 ⟨t,h4⟩
     rw [T.Te i hi,E5] at o;rw [E5];rcases o with o|o
     .exact .inl o
     .exact .inr (k0 i o)
    by_cases g0:hx.n.rw=0
    .rw [if_pos g0];omega
    .rw [if_neg g0,if_pos]
     .omega
     .rw [gT]
      rcases x4 g0 with j|j
      .rcases T.rw j with j|⟨i,i1,z,i3⟩
       .obtain ⟨i,i1,z,i3⟩:=p0.WS j
        exact ⟨i,i1,z,by rw [E5];exact .inl (gj.2 ⟨z,i3⟩)⟩
       .exact ⟨i,i1,z,by rw [E5];exact .inr (k0 i i3)⟩
      .exact ⟨q,j,v,by rw [E5];exact .inr n0⟩
   .obtain ⟨h',bI,d0⟩:=p
    obtain ⟨s0,N',T1,hV,⟨b,p1,p2,p3⟩,p4,p5,p6,p7,p8⟩:=hP;dsimp only at T1 p1 p2 p4 p5 p6 p7 p8;subst p1;obtain ⟨c0,e0⟩:=Nm ((d.drop done).take k)
    have f0:c0.length=k:=by rw [<- e0,E3,J3];omega
    have l0:(putAt d0 r c0).length=480:=by rw [iK (by rw [f0,p7];omega)];exact p7
    refine aP.congr (m':=WM.bind (cM (b:Int) (putAt d0 r c0)) fun _=>zy ask n off d f (done+k) h') ?_ fun st=>by
     unfold zL;dsimp only;rw [m0,e0]
    refine (aP.write p3 (by have j:=(T1.ok.pg q O).2;rw [p2] at j;omega) l0).bind fun _ u0 e=>?_;rw [e];obtain ⟨T2,hb⟩:=T1.I2 v p2 p3 l0;refine ih (done+k) _ h' O O ⟨⟨s0,N',T2⟩,⟨p5.1.trans T.same.1,p5.2.1.trans T.same.2.1,p5.2.2.trans T.same.2.2⟩,fun p hp=>?_,fun i hi=>?_,fun j=>?_⟩ (fun _=>by right;omega)
    .show lK (Cv a'.V b (putAt d0 r c0)) h' p=_
     rw [hb p hp]
     by_cases e:p/480=q
     .rw [if_pos e,wI (by rw [f0,p7];omega),f0]
      by_cases e2:r<=p%480/\p%480<r+k
      .rw [if_pos e2,if_pos O,<- e0]
       simp only [D8];rw [H3,if_pos O,H2,show done+(p%480-r)=p-off by omega]
      .have hw:(k == 480)=u:=by
        cases r0:(k == 480) with
        | false=>rfl
        | true=>
         have:k=480:=by simpa using r0
         omega
       rw [if_neg e2,p8 hw _ O,show 480*q+p%480=p by omega,T.Ey p hp]
       by_cases L:off<=p/\p<off+done
       .rw [if_pos L,if_pos O]
       .rw [if_neg L,if_neg O]
     .rw [if_neg e,Pm (p4 _ e),hV,T.Ey p hp]
      by_cases L:off<=p/\p<off+done
      .rw [if_pos L,if_pos O]
      .rw [if_neg L,if_neg O]
    .by_cases e:i=q
     .subst e
      rw [gj.2 ⟨hi,O⟩];have:cP off (done+k) i=Q:=cI.2 ⟨O,O,O⟩;rw [this,K4]
     .have e1:eY h' i=eY h i:=by unfold eY;rw [p4 i e]
      rw [e1,T.Te i hi];congr 1
      cases j:cP off done i with
      | true=>
       obtain ⟨h1,o,t⟩:=cI.1 j;exact (cI.2 ⟨O,O,t⟩).symm
      | false=>
       cases b0:cP off (done+k) i with
       | false=>rfl
       | true=>
        obtain ⟨h1,o,t⟩:=cI.1 b0;have:cP off done i=Q:=cI.2 ⟨O,O,t⟩;rw [this] at j;cases j
    .rcases p6 j with b0|b0
     .rcases T.rw b0 with o0|⟨i,i1,z,i3⟩
      .exact .inl o0
      .obtain ⟨h1,o,t⟩:=cI.1 i3
       exact .inr ⟨i,i1,z,cI.2 ⟨O,O,t⟩⟩
     .exact .inr ⟨q,b0,v,cI.2 ⟨O,O,O⟩⟩
  .obtain rfl:done=d.length:=O
   refine aP.congr (m':=WM.pure h) (aP.pure T) fun st=>if_neg i0
def Mu {A:Nat->Option AF} (j:A id=X f):fH A id (X f)=A:=by
 funext b
 by_cases e:b=id
 .subst e;rw [bR,j]
 .exact aQ _ _ e
def AF.U8 (f:AF) (off:Nat) {d:List UInt8} (j:d.length=0):f.wr off d=f:=by
 obtain ⟨kd,lk,sz,ti,pr⟩:=f;unfold AF.wr;rw [if_pos j,j];congr 1
 .funext p;rw [if_neg O]
 .funext i
  have:cP off 0 i=u:=by unfold cP;simp
  rw [this,Bool.or_false]
def aP.Rj (hr:uM ask n V0 I) (hn:n<=3840) (hh:Has n a A k) (hf:A id=X f) (off:Nat) (d:List UInt8) (hd:d.length<=4096) (hm:off+d.length<=122880) :
  aP n V0 I (gV ask n (id:Int) (off:Int) d) a (fun _ a'=>Has n a' (fH A id (X (f.wr off d))) (k+cF f.pr-cF (f.wr off d).pr)/\cF (f.wr off d).pr<=k+cF f.pr) (fun c=>c=7/\k+cF f.pr<cF (f.wr off d).pr):=by
 have m0:=hh;obtain ⟨own,N,S,hk,hA⟩:=hh;obtain ⟨h,hN,rfl⟩:=Has.at hA hf;obtain ⟨i0,i1,ho⟩:=S.lay.ok _ _ hN;obtain ⟨b0,hs,ht⟩:=S.rest id h O hN;have z0:=ho.Qi;have z1:=ho.SH;refine (aP.load hr hn S hN).bind fun x a' e=>?_;obtain ⟨rfl,rfl⟩:=e
 by_cases L:d.length=0
 .rw [AF.U8 _ _ L]
  refine aP.congr (m':=WM.pure ()) (aP.pure ⟨?_,O⟩) fun st=>(if_pos ⟨O,hd,O⟩).trans (if_pos L);rw [Mu hf,Nat.add_sub_cancel];exact m0
 .refine aP.congr (m':=WM.bind (zy ask n off d d.length 0 x) (LC off d)) ?_ fun st=>by
   refine ((if_pos ⟨O,hd,O⟩).trans (if_neg L)).trans ?_;rw [D3]
  have k0:cF (kQ a'.V x).pr=x.tZ:=(ho.tZ b0).symm
  have W0:Xs n a' N id (A6 own n+x.tZ) x off d 0 a' x:=⟨⟨own,N,cC.start S hN⟩,⟨rfl,rfl,rfl⟩,fun p _=>by rw [if_neg O],fun i _=>by
   have:cP off 0 i=u:=by unfold cP;simp
   rw [this,Bool.or_false],fun o=>.inl o⟩
  refine ((aP.wr hr hn b0 off d hm d.length 0 a' x (Nat.zero_le _) O W0 (fun _=>.inl rfl)).mono (fun _ _ h=>h) fun c hc=>⟨hc.1,by rw [k0,<- hk];exact hc.2⟩).bind fun h' c0 j=>?_
  .obtain ⟨p0,N',e0⟩:=j.st
   obtain ⟨s1,s2,s3⟩:=j.same;obtain ⟨z,hz⟩:=Nm (max h'.n.sz ((off+d.length:Nat):Int))
   show aP n V0 I (ew (h'.nK (max h'.n.sz ((off+d.length:Nat):Int)))) c0 _ _
   rw [hz];have o0:z=max x.n.sz ((off+d.length:Nat):Int):=by rw [<- hz,s3]
   have r:=e0.ok;have l0:(h'.nK z).Ok n id:=⟨r.fit,r.id,r.kd,r.QA,r.UH,show 0<=z by omega,show z<=122880 by omega,r.Ss,r.TS,r.pg,r.rz⟩
   have T':=e0.set l0 rfl fun _ _=>rfl
   have d0:(h'.nK z).Fin:=by
    refine ⟨fun i hi hb=>?_,fun o=>?_⟩
    .have f0:cJ z<=i:=hb
     show h'.bA i=0
     rw [<- ic hi,j.Te i hi];have e1:eY x i=u:=(ic hi).2 (b0.hi i hi (by unfold cJ at f0 ⊢;omega))
     have e2:cP off d.length i=u:=by
      cases o:cP off d.length i with
      | false=>rfl
      | true=>
       obtain ⟨t,T,h3⟩:=cI.1 o;unfold cJ at f0;omega
     rw [e1,e2];rfl
    .rcases j.rw o with o|⟨i,i1,v,i3⟩
     .obtain ⟨i,i1,v,i3⟩:=b0.WS o
      refine ⟨i,i1,v,?_⟩;have:eY h' i=Q:=by rw [j.Te i v,gj.2 ⟨v,i3⟩];rfl
      exact (gj.1 this).2
     .refine ⟨i,i1,v,?_⟩
      have:eY h' i=Q:=by rw [j.Te i v,i3,K4]
      exact (gj.1 this).2
   have g0:∀ p,p<122880->lK c0.V (h'.nK z) p=((kQ a'.V x).wr off d).ti p:=fun p hp=>by
    show lK c0.V h' p=if off<=p/\p<off+d.length then d.getD (p-off) 0 else if p<122880 then lK a'.V x p else 0
    rw [j.Ey p hp,if_pos hp]
   refine (aP.qK T' hn d0).mono (fun _ b e=>?_) fun _ h=>h;subst e;have:=T'.done hn d0 (fun p t T=>?_) hA ((kQ a'.V x).wr off d) s1 s2 ?_ g0 (fun p hp=>?_) (fun i hi=>j.Te i hi) fun i hi=>?_
   .rw [<- hk,k0]
    refine ⟨this,?_⟩;have t:=T'.cons;have T:=l0.tZ d0;have h3:cF ((kQ a'.V x).wr off d).pr=cF (eY (h'.nK z)):=tW fun i hi=>(j.Te i hi).symm;omega
   .have n0:z<=p:=T
    rw [g0 p t];show (if off<=p/\p<off+d.length then d.getD (p-off) 0 else if p<122880 then lK a'.V x p else 0)=0
    rw [if_neg O,if_pos t];exact ht p t O
   .show z=(((if d.length=0 then x.n.sz.toNat else max x.n.sz.toNat (off+d.length)):Nat):Int)
    rw [if_neg L];omega
   .show (if off<=p/\p<off+d.length then d.getD (p-off) 0 else if p<122880 then lK a'.V x p else 0)=0
    rw [if_neg O,if_neg O]
   .show (eY x i || cP off d.length i)=u
    have e1:eY x i=u:=by unfold eY;simp;omega
    have e2:cP off d.length i=u:=by
     cases o:cP off d.length i with
     | false=>rfl
     | true=>
      obtain ⟨t,T,h3⟩:=cI.1 o;omega
    rw [e1,e2];rfl
end
section
variable {σ α:Type} {n id k:Nat} {own:Nat->Own} {N:Nat->Option Hd} {a a':Aw} {V0:Nat->List UInt8} {I:σ->Prop} {ask:dO σ} {E:Int->Prop} {P:α->Aw->Prop} {A:Nat->Option AF} {f:AF} {M:iM σ} {m:WM σ α}
def Has.congr (h:Has n a A k) (v:∀ i,0<i->i<n->a'.V i=a.V i) (hB:a'.B=a.B):Has n a' A k:=by
 obtain ⟨own,N,S,hk,hA⟩:=h
 have z:∀ id g,N id=X g->(∀ b,b=id\/own b=LU id->a'.V b=a.V b)/\∀ b i,own b=GP id i->a'.V b=a.V b:=by
  intro id g o;obtain ⟨i0,i1,ho⟩:=S.lay.ok _ _ o
  have L:∀ b,own b≠tp->own b≠MQ->a'.V b=a.V b:=fun b r t=>by
   refine v b ?_ ?_
   .rcases Nat.eq_zero_or_pos b with e|e
    .subst e;exact absurd S.lay.zero t
    .exact e
   .refine Nat.lt_of_not_le fun h9=>r (S.lay.out b h9)
  refine ⟨fun b j=>?_,fun b i j=>L b (by rw [j];simp) (by rw [j];simp)⟩;rcases j with rfl|j
  .exact v b i0 i1
  .exact L b (by rw [j];simp) (by rw [j];simp)
 refine ⟨own,N,⟨S.lay,by rw [hB];exact S.bm,fun b h0 j=>by rw [v b h0 j];exact S.len b h0 j,fun id g b0 o=>?_⟩,hk,fun id=>?_⟩
 .obtain ⟨r,t,T⟩:=S.rest id g b0 o
  exact ⟨r,t.frame S.lay o (z id g o).1,T.frame S.lay o (z id g o).2⟩
 .rw [hA id]
  cases o:N id with
  | none=>rfl
  | some g=>
   show X (kQ a.V g)=X (kQ a'.V g)
   congr 1;unfold kQ;congr 1;funext p
   split
   .rename_i hp;exact (py S.lay o (z id g o).2 hp).symm
   .rfl
structure se (n:Nat) (V0:Nat->List UInt8) (I:σ->Prop) (M:iM σ) (A:Nat->Option AF) (k:Nat):Prop where
 gL:Good n V0 I M
 has:Has n (Ns V0 M) A k
def se.reader (h:se n V0 I M A k) {s:σ} (j:I s):se n V0 I { M with s:=s } A k:=⟨⟨h.gL.err,j,h.gL.wr,h.gL.rd,h.gL.keys⟩,h.has⟩
def se.run (hr:uM ask n V0 I) (h0:0<n) (h:se n V0 I M A k) (v:aP n V0 I m (Ns V0 M) P E) :
  (∃ x M' a',eA m M=(.ok x,M')/\P x a'/\∀ A' k',Has n a' A' k'->se n V0 I M' A' k')\/∃ c j,eA m M=(.bad c,{ M with s:=j })/\E c/\se n V0 I { M with s:=j } A k:=by
 rcases aP.run hr h0 h.gL v with ⟨x,M',a',o,r,t,h4,h5⟩|⟨c,j,o,r,t⟩
 .exact .inl ⟨x,M',a',o,t,fun A' k' z=>⟨r,z.congr h5 h4⟩⟩
 .exact .inr ⟨c,j,o,t,h.reader r⟩
variable (hr:uM ask n V0 I) (h0:0<n) (hn:n<=3840)
include hr h0
def F6 (h4:4<=n) (hn:n<=3840) (t:Good n V0 I M):∃ M',eA (jq ask) M=(.ok (),M')/\se n V0 I M' (fun id=>if id=1 then X (kO 2) else J) (n-2):=by
 rcases aP.run hr h0 t (aP.format (E:=fun _=>False) hr h4 hn fun b _ v=>t.St hr v) with ⟨x,M',a',o,r,j,h4,h5⟩|⟨c,z,o,r,j⟩
 .exact ⟨M',o,r,j.congr h5 h4⟩
 .exact j.elim
include hn
def PU (h:se n V0 I M A k) (v:A id=X f):∃ x M',eA (qX ask n (id:Int)) M=(.ok x,M')/\x.kd=f.kd/\x.lk=f.lk/\x.sz=f.sz/\se n V0 I M' A k:=by
 rcases h.run hr h0 (aP.node (E:=fun _=>False) hr hn h.has v) with ⟨x,M',a',o,⟨j,r,h4,h5⟩,t⟩|⟨c,z,o,j,r⟩
 .exact ⟨x,M',o,j,r,h4,t _ _ (by rw [h5];exact h.has)⟩
 .exact j.elim
def EN (h:se n V0 I M A k) (v:A id=X f) (off j:Nat):∃ M',eA (jN ask n (id:Int) (off:Int) (j:Int)) M=(.ok (f.sub off j),M')/\se n V0 I M' A k:=by
 rcases h.run hr h0 (aP.TH (E:=fun _=>False) hr hn h.has v off j) with ⟨x,M',a',r,⟨o,h5⟩,t⟩|⟨c,L,r,o,z⟩
 .exact ⟨M',by rw [r,o],t _ _ (by rw [h5];exact h.has)⟩
 .exact o.elim
def Ru (h:se n V0 I M A k) {kd:Int} (L:kd=1\/kd=2) :
  (∃ id M',eA (xP ask n kd) M=(.ok id,M')/\A id=J/\0<id/\id<n/\0<k/\se n V0 I M' (fH A id (X (kO kd))) (k-1))\/(∃ j,eA (xP ask n kd) M=(.bad 7,{ M with s:=j })/\k=0/\se n V0 I { M with s:=j } A k):=by
 rcases h.run hr h0 (aP.new hr h0 hn h.has L) with ⟨x,M',a',o,⟨r,t,h4,h5,v⟩,z⟩|⟨c,j,o,⟨rfl,r⟩,t⟩
 .exact .inl ⟨x,M',o,r,t,h4,h5,z _ _ v⟩
 .exact .inr ⟨j,o,r,t⟩
def IH (h:se n V0 I M A k) (z:A id=X f) (d:Int) :
  (∃ M',eA (lS ask n (id:Int) d) M=(.ok (),M')/\(0<=wrap64 (f.lk+d)/\wrap64 (f.lk+d)<=65535)/\se n V0 I M' (fH A id (X { f with lk:=wrap64 (f.lk+d) })) k) \/
  (∃ j,eA (lS ask n (id:Int) d) M=(.bad 1,{ M with s:=j })/\¬ (0<=wrap64 (f.lk+d)/\wrap64 (f.lk+d)<=65535)/\se n V0 I { M with s:=j } A k):=by
 rcases h.run hr h0 (aP.VJ hr hn h.has z d) with ⟨x,M',a',o,⟨r,t⟩,v⟩|⟨c,j,o,⟨rfl,r⟩,t⟩
 .exact .inl ⟨M',o,r,v _ _ t⟩
 .exact .inr ⟨j,o,r,t⟩
def tU (h:se n V0 I M A k) (L:A id=X f) (off:Nat) (d:List UInt8) (z:d.length<=4096) (T:off+d.length<=122880) :
  (∃ M',eA (gV ask n (id:Int) (off:Int) d) M=(.ok (),M')/\cF (f.wr off d).pr<=k+cF f.pr/\se n V0 I M' (fH A id (X (f.wr off d))) (k+cF f.pr-cF (f.wr off d).pr)) \/
  (∃ j,eA (gV ask n (id:Int) (off:Int) d) M=(.bad 7,{ M with s:=j })/\k+cF f.pr<cF (f.wr off d).pr/\se n V0 I { M with s:=j } A k):=by
 rcases h.run hr h0 (aP.Rj hr hn h.has L off d z T) with ⟨x,M',a',o,⟨r,t⟩,v⟩|⟨c,j,o,⟨rfl,r⟩,t⟩
 .exact .inl ⟨M',o,t,v _ _ r⟩
 .exact .inr ⟨j,o,r,t⟩
end
variable {σ α β:Type} {m:WM σ α} {k:α->WM σ β} {ask:dO σ} {c d n:Nat}
def cu (m:WM σ α) (c:Nat):Prop:=∀ st a j,m st=(.ok a,j)->j.b.W.length<=st.b.W.length+c
def cu.bind (h:cu m c) (o:∀ a,cu (k a) d):cu (WM.bind m k) (c+d):=by
 intro st a L e;unfold WM.bind at e
 cases j:m st with
 | mk r z=>
  rw [j] at e
  cases r with
  | ok x=>have t:=h _ _ _ j;have v:=o x _ _ _ e;omega
  | bad c=>cases e
def cu.jD (h:cu m 0) (j:∀ a,cu (k a) d):cu (WM.bind m k) d:=by
 have:=h.bind j;rwa [K6] at this
def cu.mono (h:cu m c) (j:c<=d):cu m d:=fun st a o e=>by have:=h _ _ _ e;omega
def cu.pure (a:α):cu (WM.pure a:WM σ α) 0:=fun st b j e=>by cases e;exact B3 _
def cu.ite {p:Prop} [Decidable p] {j:WM σ α} (h:cu m c) (h':cu j c):cu (fun st=>if p then m st else j st) c:=fun st a o e=>by
 simp only at e;split at e;exact h _ _ _ e;exact h' _ _ _ e
def cu.stop (z:Int):cu (fun st=>(.bad z,st):WM σ α) 0:=fun st a j e=>by cases e
def cu.skip (a:α):cu (fun st=>(.ok a,st):WM σ α) 0:=fun st b j e=>by cases e;exact B3 _
def Ep (b:iM σ) (id:Int):(gh ask b id).2.W=b.W:=by
 unfold gh
 split
 .rfl
 .split
  .rfl
  .split
   .rfl
   .unfold sZ;split <;> rfl
def my (id:Int):cu (cZ ask id) 0:=fun st a j e=>by
 unfold cZ at e
 split at e
 .cases e
 .split at e
  .cases e
  .cases e;show (gh ask st.b id).2.W.length<=_;rw [Ep];omega
def mK (id:Int) (l:List UInt8):cu (cM id l:WM σ Unit) 1:=fun st a j e=>by
 unfold cM at e
 split at e
 .cases e
  show (SL.dM st.b.W id l).length<=_
  rw [Er];split <;> omega
 .cases e
def zd:cu (mn ask) 0:=fun st a j e=>by
 unfold mn at e
 split at e
 .cases e;exact B3 _
 .split at e
  .rename_i h;cases e;have:=my 0 _ _ _ h;exact this
  .cases e
def yu (id:Nat) (t:Bool):cu (fP ask id t) 0:=zd.jD fun l st a j e=>by cases e;exact B3 _
def oR:cu (jc ask n) 0:=zd.jD fun l st a o e=>by
 unfold sH at e
 cases j:fp l n with
 | none=>rw [j] at e;cases e
 | some k=>rw [j] at e;cases e;exact B3 _
def nJ (l:List Int):cu (eE n l:WM σ Unit) 0:=fun st a j e=>by
 unfold eE at e;split at e <;> cases e;exact B3 _
def vT (id:Nat) (nd:Nd) (row:List Int):cu (jo n id nd row:WM σ Hd) 0:=(nJ _).jD fun _=>(nJ _).jD fun _=>cu.pure _
def yC (id:Int):cu (iP ask n id) 0:=by
 refine cu.ite ((my _).jD fun L=>cu.ite (cu.ite (vT _ _ _) ((nJ _).jD fun _=>(my _).jD fun L=>cu.ite (vT _ _ _) (cu.stop _))) (cu.stop _)) (cu.stop _)
def pA (h:Hd):cu (ew h:WM σ Unit) 2:=by
 refine cu.ite ((mK _ _).bind (d:=1) fun _=>cu.ite ((cu.skip _).mono O) (cu.ite (mK _ _) ((cu.stop _).mono O))) ((cu.stop _).mono O)
def Still (m:WM σ α):Prop:=∀ st a j,m st=(.ok a,j)->j.b.W.length<=st.b.W.length/\j.dt=st.dt
def Still.bind (h:Still m) (v:∀ a,Still (k a)):Still (WM.bind m k):=by
 intro st a L e;unfold WM.bind at e
 cases t:m st with
 | mk r z=>
  rw [t] at e
  cases r with
  | ok x=>have j:=h _ _ _ t;have o:=v x _ _ _ e;exact ⟨E4 o.1 j.1,o.2.trans j.2⟩
  | bad c=>cases e
def Still.pure (a:α):Still (WM.pure a:WM σ α):=fun st b j e=>by cases e;exact ⟨B3 _,rfl⟩
def Still.ite {p:Prop} [Decidable p] {j:WM σ α} (h:Still m) (h':Still j):Still (fun st=>if p then m st else j st):=fun st a o e=>by
 simp only at e;split at e;exact h _ _ _ e;exact h' _ _ _ e
def Still.stop (z:Int):Still (fun st=>(.bad z,st):WM σ α):=fun st a j e=>by cases e
def Still.skip (a:α):Still (fun st=>(.ok a,st):WM σ α):=fun st b j e=>by cases e;exact ⟨B3 _,rfl⟩
def qk (id:Int):Still (cZ ask id):=fun st a j e=>by
 refine ⟨my id _ _ _ e,?_⟩;unfold cZ at e
 split at e
 .cases e
 .split at e <;> cases e
  rfl
def mH (l:List Int):Still (eE n l:WM σ Unit):=fun st a j e=>by
 unfold eE at e;split at e <;> cases e;exact ⟨B3 _,rfl⟩
def uq (id:Nat) (nd:Nd) (row:List Int):Still (jo n id nd row:WM σ Hd):=(mH _).bind fun _=>(mH _).bind fun _=>Still.pure _
def wi (id:Int):Still (iP ask n id):=
 Still.ite ((qk _).bind fun L=>Still.ite (Still.ite (uq _ _ _) ((mH _).bind fun _=>(qk _).bind fun L=>Still.ite (uq _ _ _) (Still.stop _))) (Still.stop _)) (Still.stop _)
def Et (node:Int):Still (qX ask n node):=(wi _).bind fun _=>Still.pure _
def xu (h:Hd) (off:Nat):∀ (f done:Nat) (L:List UInt8),Still (DO ask h off f done L)
 | 0,_,L=>Still.pure L
 | f+1,done,L=>Still.ite (Still.ite (xu h off f _ L) ((qk _).bind fun _=>xu h off f _ _)) (Still.skip _)
def zP (node off j:Int):Still (jN ask n node off j):=(wi _).bind fun h=>Still.ite (Still.ite (Still.skip _) (xu _ _ _ _ _)) (Still.stop _)
def Still.run (h:Still m) {M M':iM σ} {x:α} (e:eA m M=(.ok x,M')):M'.W.length<=M.W.length:=by
 cases j:m ⟨M,J,u⟩ with
 | mk r st=>
  cases r with
  | ok t=>
   have o:=h _ _ _ j;rw [Az j o.2] at e;cases e;exact o.1
  | bad z=>rw [xI j] at e;cases e
def cu.run (h:cu m c) {M M':iM σ} {x:α} (e:eA m M=(.ok x,M')):M'.W.length<=M.W.length+(c+1):=by
 unfold eA at e
 have t:cu (nN:WM σ Unit) 1:=fun st a v e=>by
  unfold nN at e
  split at e
  .exact mK _ _ st a v e
  .cases e;omega
 have o:cu (WM.bind m fun a=>WM.bind nN fun _=>WM.pure a) (c+1):=h.bind fun a=>t.bind (d:=0) fun _=>cu.pure a
 cases j:(WM.bind m fun a=>WM.bind nN fun _=>WM.pure a) ⟨M,J,u⟩ with
 | mk r st=>
  rw [j] at e
  cases r with
  | ok L=>cases e;exact o _ _ _ j
  | bad z=>cases e
def PK (kd:Int):cu (xP ask n kd) 2:=cu.ite (oR.jD fun id=>(pA _).bind (d:=0) fun _=>cu.pure _) ((cu.stop _).mono O)
def FI (node j:Int):cu (lS ask n node j) 2:=(yC _).jD fun h=>cu.ite (pA _) ((cu.stop _).mono O)
def Le (h:Hd) (i:Nat) (j:Bool):cu (nj ask n h i j) 0:=
 cu.ite (cu.ite (oR.jD fun r=>oR.jD fun _=>cu.pure _) (oR.jD fun _=>cu.pure _)) (cu.ite (cu.skip _) ((my _).jD fun _=>cu.pure _))
def Cj (off l done:Nat):Nat:=if done<l then (off+l-1)/480-(off+done)/480+1 else 0
def KK {off l done:Nat} (h:done<l):1+Cj off l (done+iY (l-done) (off+done))<=Cj off l done:=by
 have r:Cj off l done=(off+l-1)/480-(off+done)/480+1:=if_pos h;rw [r]
 by_cases j:done+iY (l-done) (off+done)<l
 .have o:Cj off l (done+iY (l-done) (off+done))=(off+l-1)/480-(off+(done+iY (l-done) (off+done)))/480+1:=if_pos j
  rw [o];have t:iY (l-done) (off+done)=480-(off+done)%480:=by unfold iY at j ⊢;omega
  rw [t] at j ⊢;omega
 .have o:Cj off l (done+iY (l-done) (off+done))=0:=if_neg j
  rw [o];omega
def Ii (off:Nat) (dt:List UInt8):∀ (f done:Nat) (h:Hd),cu (zy ask n off dt f done h) (Cj off dt.length done)
 | 0,_,h=>(cu.pure h).mono O
 | f+1,done,h=>by
  by_cases o:done<dt.length
  .have r:cu (WM.bind (nj ask n h ((off+done)/480) (iY (dt.length-done) (off+done) == 480)) (zL (zy ask n off dt f) done off (iY (dt.length-done) (off+done)) dt)) (1+Cj off dt.length (done+iY (dt.length-done) (off+done))):=
    (Le _ _ _).jD fun p=>(mK _ _).bind fun _=>Ii off dt f _ _
   intro st a t e;have j:zy ask n off dt (f+1) done h st=(WM.bind (nj ask n h ((off+done)/480) (iY (dt.length-done) (off+done) == 480)) (zL (zy ask n off dt f) done off (iY (dt.length-done) (off+done)) dt)) st:=if_pos o;rw [j] at e;have v:=r _ _ _ e;have h4:=KK (off:=off) o;omega
  .intro st a t e
   have j:zy ask n off dt (f+1) done h st=(.ok h,st):=if_neg o;rw [j] at e;cases e
   omega
def zO (node off:Int) (dt:List UInt8):cu (gV ask n node off dt) (dt.length/480+4):=by
 refine (yC _).jD fun h=>cu.ite (cu.ite ((cu.skip _).mono O) (((Ii _ _ _ _ _).mono (d:=dt.length/480+2) ?_).bind fun _=>pA _)) ((cu.stop _).mono O);unfold Cj
 split <;> omega
def C7:cu (jq ask) 2:=fun st a j e=>((yu 0 Q).jD fun _=>(yu 1 Q).jD fun _=>pA _) { st with bits:=X (zs 480) } a j e
end Go.SL
namespace Go.Proofs.Fs
open RowKit SL Proofs.Ba
structure Fx (n:Nat) where
 σ:Type
 c:Cx σ
 V0:Nat->List UInt8
 I:σ->Prop
 ok:c.Ok
 U6:uM c.ask n V0 I
 h4:4<=n
 hn:n<=3840
 R:Hp->ai
 hR:∀ S S',Ext S S'->∀ h,R S h->R S' h
 C:Nat
@[reducible] def Fx.more {n:Nat} (x:Fx n) (m:Nat):Fx n:=⟨x.σ,x.c,x.V0,x.I,x.ok,x.U6,x.h4,x.hn,x.R,x.hR,x.C+m⟩
def T8 {n:Nat} (x:Fx n) (b:Nat) (M:iM x.σ):ai:=ex fun S=>eu x.c S b M*(al S*x.R S)
abbrev Dv {n:Nat} (x:Fx n) (M:iM x.σ) (A:Nat->Option AF) (k:Nat):Prop:=se n x.V0 x.I M A k/\M.W.length<=x.C
def eK {n:Nat} (x:Fx n) (b:Nat) (A:Nat->Option AF) (k:Nat):ai:=ex fun M=>fact (Dv x M A k)*T8 x b M
section
variable {n:Nat} {x:Fx n} {b k:Nat} {A:Nat->Option AF} {M:iM x.σ} {w w':y} {F:ai}
def ah.vo (h:ah w (T8 x b M*F)):∃ S,ah w (eu x.c S b M*(al S*(x.R S*F))):=by
 obtain ⟨S,j⟩:=ah.aq.1 h;exact ⟨S,j.to Ac0⟩
def ah.yn {S S':Hp} (o:Ext S S') (h:ah w (eu x.c S' b M*(al S'*(x.R S*F)))):ah w (T8 x b M*F):=by
 have j:=(h.to (by ac_rfl:_=x.R S*(eu x.c S' b M*(al S'*F)))).ib (x.hR S S' o);exact ah.aq.2 ⟨S',j.to Ac0⟩
def ah.ug (h:ah w (eK x b A k*F)):∃ M,Dv x M A k/\ah w (T8 x b M*F):=by
 obtain ⟨M,j⟩:=ah.aq.1 h;obtain ⟨o,r⟩:=ah.ao.1 (j.to (ar _ _ _));exact ⟨M,o,r⟩
def ah.we (j:Dv x M A k) (h:ah w (T8 x b M*F)):ah w (eK x b A k*F):=
 ah.aq.2 ⟨M,(ah.ao.2 ⟨j,h⟩:ah w (fact (Dv x M A k)*(T8 x b M*F))).to (ar _ _ _).symm⟩
def ah.IE (m:Nat) (h:ah w (eK x b A k*F)):ah w (eK (x.more m) b A k*F):=by
 obtain ⟨M,j,o⟩:=ah.ug h;exact ah.we (x:=x.more m) ⟨j.1,E4 j.2 (Nat.le_add_right _ _)⟩ o
def YI {n:Nat} (x:Fx n) (b:Nat) (A:Nat->Option AF) (k:Nat) (v c:Int) (F:ai) (w:y) (e:Ending) (w':y):Prop:=
 e = Z' (.tuple #[Z Y v,Z Y c])/\ak w w'/\ah w' (eK x b A k*F)
def YE {n:Nat} (x:Fx n) (b:Nat) (A:Nat->Option AF) (k:Nat) (c:Int) (F:ai) (w:y) (e:Ending) (w':y):Prop:=
 e = Z' (Z Y c)/\ak w w'/\ah w' (eK x b A k*F)
def YB {n:Nat} (x:Fx n) (b:Nat) (A:Nat->Option AF) (k:Nat) (l:List UInt8) (F:ai) (w:y) (e:Ending) (w':y):Prop:=
 ∃ v,e = Z' (.tuple #[v,Z Y 0])/\ak w w'/\ah w' (bs 5 v l*(eK x b A k*F))
def YN {n:Nat} (x:Fx n) (b:Nat) (A:Nat->Option AF) (k:Nat) (f:AF) (F:ai) (w:y) (e:Ending) (w':y):Prop:=
 ∃ j:Nd,e = Z' (.tuple #[.agg (ints j.l),Z Y 0])/\j.dr.length=16/\j.kd=f.kd/\j.lk=f.lk/\j.sz=f.sz/\ak w w'/\ah w' (eK x b A k*F)
def Xy {n:Nat} (x:Fx n) (b:Nat) (A:Nat->Option AF) (k:Nat) (kd:Int) (F:ai) (w:y) (e:Ending) (w':y):Prop:=
 ∃ id:Nat,e = Z' (.tuple #[Z Y (id:Int),Z Y 0])/\A id=J/\0<id/\id<n/\ak w w'/\ah w' (eK x b (fH A id (X (kO kd))) (k-1)*F)
section
variable {S:Hp} {c:Int} {M':iM x.σ} {A':Nat->Option AF} {k':Nat} {e:Ending}
def Qq.ye {p:Rs Unit × iM x.σ} (h:Qq x.c b S (x.R S*F) w p e w') (t:p=(.ok (),M')) (j:Dv x M' A' k'):YE x b A' k' 0 F w e w':=by
 subst t;obtain ⟨S',o,d,r,v⟩:=h;exact ⟨r,d,ah.we j (ah.yn o v)⟩
def Qq.no {p:Rs Unit × iM x.σ} (h:Qq x.c b S (x.R S*F) w p e w') (t:p=(.bad c,M')) (j:Dv x M' A' k'):YE x b A' k' c F w e w':=by
 subst t;obtain ⟨S',o,d,r,v⟩:=h;exact ⟨r,d,ah.we j (ah.yn o v)⟩
end
variable (h:ah w (eK x b A k*F))
include h
def VS {kd:Int} (T:kd=1\/kd=2) (hk:0<k):Calls U 111 #[iH b n,Z Y kd] w (Xy (x.more 3) b A k kd F w):=by
 obtain ⟨M,o,h0⟩:=ah.ug h;obtain ⟨S,v⟩:=ah.vo h0;refine (UF x.c x.ok n x.h4 x.hn b M w S kd (x.R S*F) v).mono fun e w' r=>?_;rcases Ru x.U6 (by have:=x.h4;omega) x.hn o.1 T with ⟨id,M1,j,r1,i0,i1,-,t⟩|⟨s',-,h0,-⟩
 .rw [j] at r
  obtain ⟨S',z,d,L,hs⟩:=r;exact ⟨id,L,r1,i0,i1,d,ah.we (x:=x.more 3) ⟨t,E4 ((PK kd).run j) (K3 o.2 3)⟩ (ah.yn (x:=x.more 3) z hs)⟩
 .omega
def PE {id:Nat} {f:AF} (hf:A id=X f) (off j:Nat):Calls U 104 #[iH b n,Z Y (id:Int),Z Y (off:Int),Z Y (j:Int)] w (YB x b A k (f.sub off j) F w):=by
 obtain ⟨M,v,h0⟩:=ah.ug h;obtain ⟨S,T⟩:=ah.vo h0;refine (Ju x.c x.ok n x.h4 x.hn b M w S id off j (x.R S*F) T).mono fun e w' z=>?_;obtain ⟨r,t,o⟩:=EN x.U6 (by have:=x.h4;omega) x.hn v.1 hf off j;have o:Dv x r A k:=⟨o,E4 ((zP _ _ _).run t) v.2⟩
 rw [t] at z;obtain ⟨S',L,hE,d,he,hs⟩:=z;refine ⟨L,he,d,?_⟩;have h2:=ah.we o (ah.yn hE (hs.to (by unfold iv;ac_rfl:_=eu x.c S' b r*(al S'*(x.R S*(bs 5 L (f.sub off j)*F))))));exact h2.aj
def E0 {id:Nat} {f:AF} (hf:A id=X f):Calls U 95 #[iH b n,Z Y (id:Int)] w (YN x b A k f F w):=by
 obtain ⟨M,r,h0⟩:=ah.ug h;obtain ⟨S,z⟩:=ah.vo h0;refine (Sm x.c x.ok n x.h4 x.hn b M w S id (x.R S*F) z).mono fun e w' t=>?_;obtain ⟨b0,v,o,y1,y2,y3,j⟩:=PU x.U6 (by have:=x.h4;omega) x.hn r.1 hf;have j:Dv x v A k:=⟨j,E4 ((Et _).run o) r.2⟩
 rw [o] at t;obtain ⟨S',c0,hE,d,he,hs⟩:=t;obtain ⟨⟨rfl,L⟩,T⟩:=ah.ao.1 hs;exact ⟨b0,he,L,y1,y2,y3,d,ah.we j (ah.yn hE T)⟩
def Sf {id:Nat} {f:AF} (L:A id=X f) (d:Int) (h0:0<=wrap64 (f.lk+d)/\wrap64 (f.lk+d)<=65535):Calls U 72 #[iH b n,Z Y (id:Int),Z Y d] w (YE (x.more 3) b (fH A id (X { f with lk:=wrap64 (f.lk+d) })) k 0 F w):=by
 obtain ⟨M,o,t⟩:=ah.ug h;obtain ⟨S,v⟩:=ah.vo t;refine (Nv x.c x.ok n x.h4 x.hn b M w S id d (x.R S*F) v).mono fun e w' T=>?_;rcases IH x.U6 (by have:=x.h4;omega) x.hn o.1 L d with ⟨M1,j,-,r⟩|⟨s',-,z,-⟩
 .exact T.ye (x:=x.more 3) j ⟨r,E4 ((FI _ _).run j) (K3 o.2 3)⟩
 .exact absurd h0 z
omit h
variable {D:ai} {va:Option Addr} {cap:Nat} {l:List UInt8}
def Iw {id:Nat} {f:AF} (hf:A id=X f) (off:Nat) (L:∀ j P,ah j (D*P)->Rd j (G va l.length cap) l) (T:l.length<=cap) (hl:l.length<=4096) (hm:off+l.length<=122880) (hk:cF (f.wr off l).pr<=k+cF f.pr) (h:ah w (eK x b A k*(D*F))) :
  Calls U 68 #[iH b n,Z Y (id:Int),Z Y (off:Int),G va l.length cap] w (YE (x.more (l.length/480+5)) b (fH A id (X (f.wr off l))) (k+cF f.pr-cF (f.wr off l).pr) 0 (D*F) w):=by
 obtain ⟨M,r,h0⟩:=ah.ug h;obtain ⟨S,z⟩:=ah.vo h0;refine (wN x.c x.ok n x.h4 x.hn b M w S id off l va cap D L T O (x.R S*F) (z.u00)).mono fun e w' t=>?_;rw [aE] at t;rcases tU x.U6 (by have:=x.h4;omega) x.hn r.1 hf off l hl hm with ⟨M1,o,-,v⟩|⟨s',-,h9,-⟩
 .exact t.ye (x:=x.more (l.length/480+5)) o ⟨v,E4 ((zO _ _ _).run o) (K3 r.2 (l.length/480+5))⟩
 .omega
def PY {id:Nat} {f:AF} (hf:A id=X f) (off:Nat) (L:∀ o P,ah o (D*P)->Rd o (G va l.length cap) l) (T:l.length<=cap) (hl:l.length<=4096) (hm:off+l.length<=122880) (hk:k+cF f.pr<cF (f.wr off l).pr) (h:ah w (eK x b A k*(D*F))) :
  Calls U 68 #[iH b n,Z Y (id:Int),Z Y (off:Int),G va l.length cap] w (YE x b A k 7 (D*F) w):=by
 obtain ⟨M,t,h0⟩:=ah.ug h;obtain ⟨S,z⟩:=ah.vo h0;refine (wN x.c x.ok n x.h4 x.hn b M w S id off l va cap D L T O (x.R S*F) (z.u00)).mono fun e w' v=>?_;rw [aE] at v;rcases tU x.U6 (by have:=x.h4;omega) x.hn t.1 hf off l hl hm with ⟨M1,r,h9,j⟩|⟨s',r,-,j⟩
 .omega
 .exact v.no r ⟨j,t.2⟩
end
def ry (w:y) (v:Value) (l:List UInt8) (h:Rd w v l):(convert 23 9 v).run U w = .ok (.string (str l)) w:=by
 have nh:∀ (l:List UInt8) (s:ByteArray),(l.map fun x=>(x.toNat:Int)).foldl (fun r n=>r.push (UInt8.ofNat n.toNat)) s=⟨s.data++l.toArray⟩:=by
  intro l
  induction l with
  | nil=>intro s;simp
  | cons a l t=>intro s;simp only [List.map_cons,List.foldl_cons,t];simp [ByteArray.push]
 obtain ⟨_,hr⟩:=h;rcases hr with ⟨rfl,h0⟩|⟨a,c,rfl,o⟩
 .have:l=[]:=List.eq_nil_of_length_eq_zero h0
  subst this;rw [run_convert_bytes_string w _ _ 5 J 0 0 underlying23 underlying5 underlying9]
  rfl
 .rw [run_convert_bytes_string w _ _ 5 (X a) _ c underlying23 underlying5 underlying9]
  have j:=run_loadCells_list (P:=U) (w:=w) a (l.map u8) o;rw [E2] at j
  have:=run_bytesToString (P:=U) w a l.length c (l.map fun x=>(x.toNat:Int)) (by
   rw [j];simp [u8,Function.comp_def])
  rw [this,nh];simp [str]
end Go.Proofs.Fs

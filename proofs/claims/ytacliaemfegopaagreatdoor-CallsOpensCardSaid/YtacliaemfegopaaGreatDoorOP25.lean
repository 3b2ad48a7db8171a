/- Steps. -/
import Derived.Test.YtacliaemfegopaaGreatDoorOP24
import Derived.DataElems
import Derived.Deep.RegionLaw
set_option linter.all false
set_option maxRecDepth 99999
set_option maxHeartbeats 0
open Go.SL
open Go.Value renaming int->Z,slice->J,pointer->O
open Go.Obj renaming cells->X
open Go.Ending renaming returned->Z'
open Go renaming World->G
open Go.Proofs.Tryz renaming prog->W
open Option renaming some->Y,none->U
open Bool renaming true->Q,false->H
open Go.Proofs.Tryz
open Nat renaming le_refl->D2,le_trans->K2,add_le_add_right->G3,zero_add->Z3
open List renaming getD->E2,range->H2,replicate->L2,getElem?_eq_getElem->R2,getElem?_replicate->V2,length_take->W2,length_map->X2,drop_left'->Y2,countP_append->Z2,all_eq_true->B3,getElem_of_mem->D3,getElem?_take->H3,getElem?_drop->J3,append_assoc->K3,drop_drop->L3,countP_eq_zero->P3,length_drop->S3,length_append->V3,range_succ->W3,countP_cons->X3,countP_congr->Y3,getElem?_append_left->J4,eq_replicate_iff->L4,getElem?_append_right->N4
open Int renaming toNat_natCast->J2
open Bool renaming and_eq_true->N2,or_eq_true->P2,or_true->K4
open Go.World renaming size_alloc->O2
namespace Go.SL
open Go.RowKit
section
variable {σ:Type}
def ph (ask:cI σ) (n:Nat) (h:Hd) (i:Nat):WM σ (Hd × Int × List UInt8):=WM.bind (iG ask n) fun b=>WM.pure (h.put i (b:Int),(b:Int),zs 480)
def mE (ask:cI σ) (n:Nat) (h:Hd) (i:Nat) (j:Bool):WM σ (Hd × Int × List UInt8):=fun st=>
 if h.aL i=0 then (if 16<=i/\h.n.rw=0 then (WM.bind (iG ask n) fun r=>ph ask n (h.dw (r:Int)) i) st else ph ask n h i st)
 else if j=Q then (.ok (h,h.aL i,zs 480),st) else (WM.bind (cS ask (h.aL i)) fun L=>WM.pure (h,h.aL i,L)) st
end
end Go.SL
namespace Go.Proofs.Fs
open Go.RowKit Go.SL Go.Proofs.Ba
section
variable {σ α:Type}
def vV (x:Wk σ) (o:Nat) (S:Hp) (F:ai) (w:G):Rs (Hd × Int × List UInt8) × eB σ->Ending->G->Prop
 | (.ok p,j),e,w'=>∃ S' v,Ext S S'/\aj w w'/\p.2.2.length=480/\e = Z' (.tuple #[Z .i64 p.2.1,v])/\ag w' (bs 5 v p.2.2*(aO o p.1*(aE x S' j*(ak S'*F))))
 | (.bad c,j),e,w'=>∃ S' h',Ext S S'/\aj w w'/\e = .panicked (I8 c)/\ag w' (aO o h'*(aE x S' j*(ak S'*F)))
theorem nO (x:Wk σ) (hc:x.c.Ok) (hn:x.n<=3840) (w:G) (S:Hp) (st:eB σ) (j:Nat) (h:Hd) (i:Nat) (wh:Bool) (F:ai) (hi:i<256) (hs:ag w (aO j h*(aE x S st*(ak S*F)))) :
  Calls W 89 #[O (Y ⟨x.k,0,U⟩),O (Y ⟨j,0,U⟩),Z .i64 (i:Int),.bool wh] w (vV x j S F w (mE x.c.ask x.n h i wh st)):=by
 refine aH fun r0 HQ=>?_;have d0:=nv w j h _ hs i hi;unfold JV at d0;have x0:(i:Int)<256:=by omega
 obtain ⟨l0,z⟩:∃ l0,mE x.c.ask x.n h i wh st=l0:=⟨_,rfl⟩
 rw [z] at HQ;have D0:∀ w,(Instr.makeSlice 37 (Z .i64 480) (Z .i64 480)).run W w = .ok (J (Y ⟨w.heap.size,0,U⟩) 480 480) (w.alloc (X (ea (zs 480)) 5 (0,0))):=fp 480 (by omega);have hf:=(ag.held.1 hs).1;have g0:w.cell? ⟨j,20,U⟩=Y (Z .i64 h.n.rw):=qa hf (ag.held.1 hs).2;have Hs:=ae hs;have Hf:=ae hf;clear hs hf
 by_cases h0:h.aL i=0
 .rw [h0] at d0
  by_cases hr:16<=i/\h.n.rw=0
  .have y:(WM.bind (iG x.c.ask x.n) fun e0=>ph x.c.ask x.n (h.dw (e0:Int)) i) st=l0:=((if_pos h0).trans (if_pos hr)).symm.trans z
   have o0:16<=(i:Int):=by omega
   have ht:=nT x hc hn w S st _ (Hs.out.to (by ac_rfl:_=aE x S st*(ak S*(aO j h*F))));obtain ⟨⟨r1,aR⟩,L⟩:∃ p,iG x.c.ask x.n st=p:=⟨_,rfl⟩
   rw [L] at ht;rw [hr.2] at g0
   cases r1 with
   | bad cN=>
    have t:=ae ((WM.bf L).symm.trans y);clear z y h0 hr L
    go_enter func89,ntmps89
    go_wp2_with fail
    (with_reducible refine d0.mono ?_)
    rintro e w2 ⟨rfl,rfl⟩
    go_wp2_with fail
    (with_reducible refine ht.mono ?_)
    rintro e w2 ⟨S',hS,d2,rfl,h2⟩
    go_wp2_with fail
    exact ⟨rfl,HQ.out _ _ (by rw [<- t.out];exact ⟨S',h,hS,d2,rfl,h2.to (by ac_rfl)⟩)⟩
   | ok e0=>
    have t:=ae ((WM.aX L).symm.trans y);clear z y h0 hr L
    go_enter func89,ntmps89
    go_wp2_with fail
    (with_reducible refine d0.mono ?_)
    rintro e w2 ⟨rfl,rfl⟩
    go_wp2_with fail
    (with_reducible refine ht.mono ?_)
    rintro e w2 ⟨S',v,hS,d2,rfl,h2⟩;obtain ⟨rfl,h3⟩:=ag.aq.1 h2;have h4:=h3.to (by ac_rfl:_=aO j h*(aE x S' aR*(ak S'*F)));have s0:=(cU h4 (j:=20) (by decide)).1;have u0:=(cU h4 (j:=20) (by decide)).2;generalize h.l.getD 20 0=G0 at *;have h5:=kh (h':=h.dw (e0:Int)) h4 (j:=20) (z:=(e0:Int)) Hf.out (Hd.Fk Hf.out _);have d5:=d2.setCell ⟨j,20,U⟩ (Z .i64 (e0:Int));have f0:=nT x hc hn _ S' aR _ (h5.to (by ac_rfl:_=aE x S' aR*(ak S'*(aO j (h.dw (e0:Int))*F))));have c0:=ae f0;clear h2 h3 h4 ht f0 g0
    go_wp2_with fail
    generalize w2.setCell ⟨j,20,U⟩ (Z .i64 (e0:Int))=w3 at *;clear h5;refine c0.out.mono ?_;generalize h.dw (e0:Int)=hk at *;obtain ⟨⟨r6,k0⟩,r⟩:∃ p,iG x.c.ask x.n aR=p:=⟨_,rfl⟩
    rw [r]
    cases r6 with
    | bad cN=>
     have T:=ae ((WM.bf r).symm.trans t.out);rintro e w6 ⟨o,b0,d6,rfl,u⟩;clear c0 r
     go_wp2_with fail
     exact ⟨rfl,HQ.out _ _ (by rw [<- T.out];exact ⟨o,hk,hS.trans b0,d5.trans d6,rfl,u.to (by ac_rfl)⟩)⟩
    | ok b=>
     have T:=ae ((WM.aX r).symm.trans t.out);rintro e w6 ⟨o,v6,b0,d6,rfl,u⟩;obtain ⟨rfl,h7⟩:=ag.aq.1 u;have i0:=pZ w6 j hk _ (h7.to (by ac_rfl:_=aO j hk*(aE x o k0*(ak o*F)))) i hi (b:Int);clear c0 r u h7
     go_wp2_with fail
     (with_reducible refine i0.mono ?_)
     rintro e w7 ⟨rfl,h8,d8⟩
     go_wp2_with fail
     have hB:=oh 480 (by decide) h8.drew;have D9:=ae ((((d5.trans d6).trans d8).drew).alloc (X (ea (zs 480)) 5 (0,0)));have HB:=ae hB;clear h8 hB
     go_region_held3 (fun _=>True) (trivial) (fail)
     all_goals
      go_wp2_with fail
      exact HQ.out _ _ (by rw [<- T.out];exact ⟨o,_,hS.trans b0,D9.out,bh 480,rfl,HB.out⟩)
  .have y:ph x.c.ask x.n h i st=l0:=((if_pos h0).trans (if_neg hr)).symm.trans z
   have t:=ae y;have f0:=nT x hc hn w S st _ (Hs.out.to (by ac_rfl:_=aE x S st*(ak S*(aO j h*F))));have c0:=ae f0;obtain ⟨bb,m0⟩:∃ b,b=decide (16<=(i:Int)):=⟨_,rfl⟩
   cases bb with
   | false=>
    have o0:¬ 16<=(i:Int):=by simpa using m0
    clear z y h0 hr f0 m0
    go_enter func89,ntmps89
    go_wp2_with fail
    (with_reducible refine d0.mono ?_)
    rintro e w2 ⟨rfl,rfl⟩
    go_wp2_with fail
    refine c0.out.mono ?_;obtain ⟨⟨r6,k0⟩,r⟩:∃ p,iG x.c.ask x.n st=p:=⟨_,rfl⟩
    rw [r]
    cases r6 with
    | bad cN=>
     have T:=ae ((WM.bf r).symm.trans t.out);rintro e w6 ⟨o,b0,d6,rfl,u⟩;clear c0 r
     go_wp2_with fail
     exact ⟨rfl,HQ.out _ _ (by rw [<- T.out];exact ⟨o,h,b0,d6,rfl,u.to (by ac_rfl)⟩)⟩
    | ok b=>
     have T:=ae ((WM.aX r).symm.trans t.out);rintro e w6 ⟨o,v6,b0,d6,rfl,u⟩;obtain ⟨rfl,h7⟩:=ag.aq.1 u;have i0:=pZ w6 j h _ (h7.to (by ac_rfl:_=aO j h*(aE x o k0*(ak o*F)))) i hi (b:Int);clear c0 r u h7
     go_wp2_with fail
     (with_reducible refine i0.mono ?_)
     rintro e w7 ⟨rfl,h8,d8⟩
     go_wp2_with fail
     have hB:=oh 480 (by decide) h8.drew;have D9:=ae (((d6.trans d8).drew).alloc (X (ea (zs 480)) 5 (0,0)));have HB:=ae hB;clear h8 hB
     go_region_held3 (fun _=>True) (trivial) (fail)
     all_goals
      go_wp2_with fail
      exact HQ.out _ _ (by rw [<- T.out];exact ⟨o,_,b0,D9.out,bh 480,rfl,HB.out⟩)
   | true=>
    have o0:16<=(i:Int):=by simpa using m0
    have F0:(h.n.rw == 0)=H:=by simp only [beq_eq_false_iff_ne];intro h9;exact hr ⟨by omega,h9⟩
    clear z y h0 hr f0 m0;generalize h.n.rw=xH at *
    go_enter func89,ntmps89
    go_wp2_with fail
    (with_reducible refine d0.mono ?_)
    rintro e w2 ⟨rfl,rfl⟩
    go_wp2_with fail
    refine c0.out.mono ?_;obtain ⟨⟨r6,k0⟩,r⟩:∃ p,iG x.c.ask x.n st=p:=⟨_,rfl⟩
    rw [r]
    cases r6 with
    | bad cN=>
     have T:=ae ((WM.bf r).symm.trans t.out);rintro e w6 ⟨o,b0,d6,rfl,u⟩;clear c0 r
     go_wp2_with fail
     exact ⟨rfl,HQ.out _ _ (by rw [<- T.out];exact ⟨o,h,b0,d6,rfl,u.to (by ac_rfl)⟩)⟩
    | ok b=>
     have T:=ae ((WM.aX r).symm.trans t.out);rintro e w6 ⟨o,v6,b0,d6,rfl,u⟩;obtain ⟨rfl,h7⟩:=ag.aq.1 u;have i0:=pZ w6 j h _ (h7.to (by ac_rfl:_=aO j h*(aE x o k0*(ak o*F)))) i hi (b:Int);clear c0 r u h7
     go_wp2_with fail
     (with_reducible refine i0.mono ?_)
     rintro e w7 ⟨rfl,h8,d8⟩
     go_wp2_with fail
     have hB:=oh 480 (by decide) h8.drew;have D9:=ae (((d6.trans d8).drew).alloc (X (ea (zs 480)) 5 (0,0)));have HB:=ae hB;clear h8 hB
     go_region_held3 (fun _=>True) (trivial) (fail)
     all_goals
      go_wp2_with fail
      exact HQ.out _ _ (by rw [<- T.out];exact ⟨o,_,b0,D9.out,bh 480,rfl,HB.out⟩)
 .have h1:(h.aL i != 0)=Q:=by simpa using h0
  cases wh with
  | true=>
   have t:=ae (((if_neg h0).trans (if_pos rfl)).symm.trans z);have hB:=oh 480 (by decide) Hs.out.drew;have D9:=ae (((aj.refl w).drew).alloc (X (ea (zs 480)) 5 (0,0)));have HB:=ae hB;clear z h0 hB g0;generalize h.aL i=p0 at *
   go_enter func89,ntmps89
   go_wp2_with fail
   (with_reducible refine d0.mono ?_)
   rintro e w2 ⟨rfl,rfl⟩
   go_wp2_with fail
   go_region_held3 (fun _=>True) (trivial) (fail)
   all_goals
    go_wp2_with fail
    exact HQ.out _ _ (by rw [<- t.out];exact ⟨S,_,Ext.refl S,D9.out,bh 480,rfl,HB.out⟩)
  | false=>
   have y:=((if_neg h0).trans (if_neg (by decide))).symm.trans z;have n0:=lI x hc w S st (h.aL i) _ (Hs.out.to (by ac_rfl:_=aE x S st*(ak S*(aO j h*F))));obtain ⟨⟨r1,aR⟩,L⟩:∃ p,cS x.c.ask (h.aL i) st=p:=⟨_,rfl⟩
   rw [L] at n0
   cases r1 with
   | bad cN=>
    have t:=ae ((WM.bf L).symm.trans y);clear z y h0 L g0;generalize h.aL i=p0 at *
    go_enter func89,ntmps89
    go_wp2_with fail
    (with_reducible refine d0.mono ?_)
    rintro e w2 ⟨rfl,rfl⟩
    go_wp2_with fail
    (with_reducible refine n0.mono ?_)
    rintro e w2 ⟨S',hS,d2,rfl,h2⟩
    go_wp2_with fail
    exact ⟨rfl,HQ.out _ _ (by rw [<- t.out];exact ⟨S',h,hS,d2,rfl,h2.to (by ac_rfl)⟩)⟩
   | ok q0=>
    have t:=ae ((WM.aX L).symm.trans y);have HL:=ae (iT L);clear z y h0 L g0;generalize h.aL i=p0 at *
    go_enter func89,ntmps89
    go_wp2_with fail
    (with_reducible refine d0.mono ?_)
    rintro e w2 ⟨rfl,rfl⟩
    go_wp2_with fail
    (with_reducible refine n0.mono ?_)
    rintro e w2 ⟨S',v,hS,d2,rfl,h2⟩;unfold fX at h2;have h3:=ae (h2.to (by ac_rfl:_=bs 5 v q0*(aO j h*(aE x S' aR*(ak S'*F)))));obtain ⟨va,vc,rfl⟩:=aD h2;clear h2 n0
    go_wp2_with fail
    exact HQ.out _ _ (by rw [<- t.out];exact ⟨S',_,hS,d2,HL.out,rfl,h3.out⟩)
end
end Go.Proofs.Fs
namespace Go.SL
open Go.RowKit
section
variable {σ:Type}
def zv (f:Nat->Hd->WM σ Hd) (done off l:Nat) (d:List UInt8) (p:Hd × Int × List UInt8):WM σ Hd:=
 WM.bind (bL p.2.1 (putAt p.2.2 ((off+done)%480) ((d.drop done).take l))) fun _=>f (done+l) p.1
def xM (ask:cI σ) (n off:Nat) (d:List UInt8):Nat->Nat->Hd->WM σ Hd
 | 0,_,h=>WM.pure h
 | f+1,done,h=>fun st=>
  if done<d.length then (WM.bind (mE ask n h ((off+done)/480) (iB (d.length-done) (off+done) == 480)) (zv (xM ask n off d f) done off (iB (d.length-done) (off+done)) d)) st else (.ok h,st)
def GL (off:Nat) (d:List UInt8) (h:Hd):WM σ Unit:=dQ (h.cJ (max h.n.sz ((off+d.length:Nat):Int)))
def EH (ask:cI σ) (n:Nat) (off:Int) (d:List UInt8) (h:Hd):WM σ Unit:=fun st=>
 if 0<=off/\d.length<=4096/\off<=122880-d.length then (if d.length=0 then (.ok (),st) else (WM.bind (xM ask n off.toNat d d.length 0 h) (GL off.toNat d)) st) else (.bad 1,st)
def gz (ask:cI σ) (n:Nat) (node off:Int) (d:List UInt8):WM σ Unit:=WM.bind (fT ask n node) (EH ask n off d)
theorem oM {α β:Type} {m j:WM σ α} {k:α->WM σ β} {st o:eB σ} (h:m st=j o):(WM.bind m k) st=(WM.bind j k) o:=by unfold WM.bind;rw [h]
theorem OD {ask:cI σ} {h:Hd} {n off f done:Nat} {d:List UInt8} (j:d.length<=done) (st:eB σ):xM ask n off d f done h st=(.ok h,st):=by
 cases f with
 | zero=>rfl
 | succ f=>exact if_neg (by omega)
theorem To {ask:cI σ} {h:Hd} {n off f done:Nat} {d:List UInt8} (o:done<d.length) {st j:eB σ} {c:Int}
  (hr:mE ask n h ((off+done)/480) (iB (d.length-done) (off+done) == 480) st=(.bad c,j)):xM ask n off d (f+1) done h st=(.bad c,j):=(if_pos o).trans (WM.bf hr)
theorem SJ {ask:cI σ} {h:Hd} {n off f done:Nat} {d:List UInt8} (o:done<d.length) {st j:eB σ} {p:Hd × Int × List UInt8}
  (hr:mE ask n h ((off+done)/480) (iB (d.length-done) (off+done) == 480) st=(.ok p,j)):xM ask n off d (f+1) done h st=zv (xM ask n off d f) done off (iB (d.length-done) (off+done)) d p j:=(if_pos o).trans (WM.aX hr)
end
end Go.SL
namespace Go.Proofs.Fs
open Go.RowKit Go.SL Go.Proofs.Ba
section
variable {σ α:Type}
def Nr (b:Nat) (v:Value):ai:=pt b (X #[v] 37 (0,0))
def Ts (x:Wk σ) (r off:Nat) (d:List UInt8) (S:Hp) (F:ai) (w:G) (T:Rs Unit × eB σ) (u:Value) (wr:G):Prop:=
 ∃ (done f:Nat) (h:Hd) (o:eB σ) (j:Hp),done<=d.length/\d.length-done<=f/\u = Z .i64 (done:Int)/\(WM.bind (xM x.c.ask x.n off d f done h) (GL off d)) o=T/\Ext S j/\aj w wr /\
  ag wr (aO r h*(aE x j o*(ak j*F)))
theorem Ag {c:Cx σ} (hc:c.Ok) {n:Nat} (hn:n<=3840) (node off:Int) (l:List UInt8) (va:Option Addr) (cap:Nat) (D:ai) (hD:∀ u P,ag u (D*P)->Rd u (J va l.length cap) l) (r1:l.length<=cap) (q1:l.length<=1000000000000) (nb ob db:Nat) :
  Cn c n 88 #[O (Y ⟨nb,0,U⟩),O (Y ⟨ob,0,U⟩),O (Y ⟨db,0,U⟩)] ji (bg nb node*(bg ob off*(Nr db (J va l.length cap)*D))) (gz c.ask n node off l):=by
 intro x w S st F x1 y1 h;subst x1 y1;have cn:w.cell? ⟨nb,0,U⟩=Y (Z .i64 node):=(h.to (by ac_rfl:_=bg nb node*((bg ob off*(Nr db (J va l.length cap)*D))*(aE x S st*(ak S*F))))).cell 0;show Calls W 88 #[O (Y ⟨x.k,0,U⟩),O (Y ⟨nb,0,U⟩),O (Y ⟨ob,0,U⟩),O (Y ⟨db,0,U⟩)] w _
 refine aH fun K1 HQ=>?_;have hl:=jL x hc w S st node _ h;obtain ⟨⟨r,aR⟩,hp⟩:∃ p,fT x.c.ask x.n node st=p:=⟨_,rfl⟩
 rw [hp] at hl;clear h;obtain ⟨z,hG⟩:∃ z,z=bg nb node*(bg ob off*(Nr db (J va l.length cap)*D))*F:=⟨_,rfl⟩
 rw [<- hG] at hl HQ;have HG:=ae hG
 cases r with
 | bad cN=>
  have HE:=ae (show gz x.c.ask x.n node off l st=(.bad cN,aR) from WM.bf hp);clear hp hG
  go_enter func88,ntmps88
  go_wp2_with fail
  (with_reducible refine hl.mono ?_)
  rintro e w2 ⟨S',hS,d2,rfl,h2⟩
  go_wp2_with fail
  exact ⟨rfl,HQ.out _ _ (by rw [HE.out];exact ⟨S',hS,d2,rfl,h2⟩)⟩
 | ok hh=>
  obtain ⟨c0,hT⟩:∃ c0,EH x.c.ask x.n off l hh aR=c0:=⟨_,rfl⟩
  have HE:=ae (show gz x.c.ask x.n node off l st=c0 from (WM.aX hp).trans hT);have HT:=ae hT;clear hp hG hT
  have sO:∀ u P,ag u (P*z)->u.cell? ⟨ob,0,U⟩=Y (Z .i64 off):=fun u P hW=>by
   rw [HG.out] at hW;exact (hW.to (by ac_rfl:_=bg ob off*(bg nb node*(Nr db (J va l.length cap)*(D*(F*P)))))).cell 0
  have sB:∀ u P,ag u (P*z)->u.cell? ⟨db,0,U⟩=Y (J va l.length cap):=fun u P hW=>by
   rw [HG.out] at hW;exact (hW.to (by ac_rfl:_=Nr db (J va l.length cap)*(bg nb node*(bg ob off*(D*(F*P)))))).cell 0
  have sR:∀ u P,ag u (P*z)->Rd u (J va l.length cap) l:=fun u P hW=>by
   rw [HG.out] at hW;exact hD u _ (hW.to (by ac_rfl:_=D*(Nr db (J va l.length cap)*(bg nb node*(bg ob off*(F*P))))))
  have SO:=ae sO;have SB:=ae sB;have SR:=ae sR;clear sO sB sR;have e1:Hid (∃ m,l.length=m):=⟨_,rfl⟩
  obtain ⟨m,hm⟩:=e1.out;rw [hm] at SB SR r1 q1;have y:=ae hm;clear hm e1 hD
  go_enter func88,ntmps88
  go_wp2_with fail
  (with_reducible refine hl.mono ?_)
  rintro e w2 ⟨S',v,hS,d2,rfl,h2⟩;obtain ⟨j,rfl,h3⟩:=ag.oZ h2;have h4:ag w2 (aO j hh*(aE x S' aR*(ak S'*z))):=h3.to (by ac_rfl);have co:=SO.out w2 (aO j hh*(aE x S' aR*ak S')) (h4.to (by ac_rfl));have cb:=SB.out w2 (aO j hh*(aE x S' aR*ak S')) (h4.to (by ac_rfl));have H4:=ae h4;clear h2 h3 hl cn h4;have L1:(m:Int)<=1000000000000:=by omega
  by_cases T:0<=off/\l.length<=4096/\off<=122880-(l.length:Int)
  .obtain ⟨z0,z1,z2⟩:=T
   obtain ⟨o,rfl⟩:∃ o:Nat,off=(o:Int):=⟨off.toNat,by omega⟩
   by_cases h0:m=0
   .subst h0
    have e0:Hid (c0=(.ok (),aR)):=by rw [<- HT.out];exact (if_pos ⟨z0,z1,z2⟩).trans (if_pos y.out)
    rw [y.out] at z2;have z3:(o:Int)<=122880:=by omega
    clear z1 z2 HT
    go_wp2_with fail
    (with_reducible refine (gB w2).mono ?_)
    rintro e w3 ⟨rfl,rfl⟩
    go_wp2_with fail
    go_end0
    exact HQ.out _ _ (by rw [HE.out,e0.out];exact ⟨S',_,hS,d2,rfl,ag.aq.2 ⟨rfl,(H4.out).right⟩⟩)
   .have i1:(WM.bind (xM x.c.ask x.n o l l.length 0 hh) (GL o l)) aR=c0:=by
     rw [<- HT.out];exact ((if_pos ⟨z0,z1,z2⟩).trans (if_neg (by rw [y.out];exact h0))).symm
    have e0:=ae i1;rw [y.out] at z1 z2;have c2:(m:Int)<=4096:=by omega
    have e2:(o:Int)+(m:Int)<=122880:=by omega
    have z3:(o:Int)<=122880-(m:Int):=by omega
    have R1:((m:Int) == 0)=H:=by simpa using h0
    clear i1 HT z2
    go_wp2_with fail
    (with_reducible refine (gB w2).mono ?_)
    rintro e w3 ⟨rfl,rfl⟩;have S1:(m:Int)≠0:=by omega
    clear co cb;have cb:w2.cell? ⟨db,0,U⟩=Y (J va m cap):=SB.out w2 (aO j hh*(aE x S' aR*ak S')) (H4.out.to (by ac_rfl))
    go_wp2_with fail
    clear cb
    go_loopw [6] (fun G0 wr=>Ts x j o l S z w c0 G0 wr) (fun G0 _=>m-(intOf G0).toNat)
    case atStart=>exact ⟨0,l.length,hh,aR,S',Nat.zero_le _,D2 _,rfl,e0.out,hS,d2,H4.out⟩
    case round=>
     obtain ⟨done,f,h,d0,Sk,s1,hf,rfl,j1,h1,dk,f0⟩:=hrel;have H0:=ae j1;have o0:=ae h1;clear H4 e0 j1 h1;rw [y.out] at s1 hf;have co:=SO.out wr (aO j h*(aE x Sk d0*ak Sk)) (f0.to (by ac_rfl));have cb:=SB.out wr (aO j h*(aE x Sk d0*ak Sk)) (f0.to (by ac_rfl))
     by_cases u1:done<m
     .have v1:(done:Int)<(m:Int):=by omega
      obtain ⟨f',rfl⟩:∃ f',f=f'+1:=⟨f-1,by omega⟩
      have hA:done<l.length:=by rw [y.out];exact u1
      obtain ⟨k,hk⟩:∃ k,iB (l.length-done) (o+done)=k:=⟨_,rfl⟩
      have S0:k=min (m-done) (480-(o+done)%480):=by rw [<- hk,y.out];rfl
      obtain ⟨q,hq⟩:∃ q,(o+done)/480=q:=⟨_,rfl⟩
      obtain ⟨r,hr⟩:∃ r,(o+done)%480=r:=⟨_,rfl⟩
      have w1:q<256:=by omega
      have W1:r<480:=by omega
      rw [hr] at S0;have M1:1<=k:=by omega
      have N1:done+k<=m:=by omega
      have O1:r+k<=480:=by omega
      have V1:((o:Int)+(done:Int)).tdiv 480=(q:Int):=by rw [Int.tdiv_eq_ediv_of_nonneg (by omega)];omega
      have X1:((o:Int)+(done:Int)).tmod 480=(r:Int):=by rw [Int.tmod_eq_emod_of_nonneg (by omega)];omega
      have T1:(if (480:Int)-(r:Int)<((m-done:Nat):Int) then (480:Int)-(r:Int) else ((m-done:Nat):Int))=(k:Int):=by split <;> omega
      have Y1:(m:Int)-(done:Int)=((m-done:Nat):Int):=by omega
      have s0:=nO x hc hn wr Sk d0 j h q (k == 480) z w1 f0;obtain ⟨⟨r2,k0⟩,x0⟩:∃ p,mE x.c.ask x.n h q (k == 480) d0=p:=⟨_,rfl⟩
      rw [x0] at s0;have g0:mE x.c.ask x.n h ((o+done)/480) (iB (l.length-done) (o+done) == 480) d0=(r2,k0):=by rw [hq,hk];exact x0
      have X0:((k:Int) == 480)=(k == 480):=by
       by_cases h9:k=480
       .subst h9;rfl
       .rw [beq_eq_false_iff_ne.2 h9,beq_eq_false_iff_ne.2 (by omega)]
      have u0:=s0;rw [<- X0] at u0
      cases r2 with
      | bad cN=>
       have HN:=ae ((WM.bf (To hA g0)).symm.trans H0.out);clear x0 g0 S0 hq hr hk s0 X0
       go_wp2_with fail
       (with_reducible refine u0.mono ?_)
       rintro e w4 ⟨S2,h',q0,d4,rfl,h6⟩
       go_wp2_with fail
       exact ⟨rfl,HQ.out _ _ (by rw [HE.out,<- HN.out];exact ⟨S2,o0.out.trans q0,dk.trans d4,rfl,h6.right⟩)⟩
      | ok p=>
       obtain ⟨h',b,L⟩:=p
       have n0:=ae (show (WM.bind (zv (xM x.c.ask x.n o l f') done o k l (h',b,L)) (GL o l)) k0=c0 from by
        rw [<- hk];exact (oM (SJ hA g0)).symm.trans H0.out)
       clear x0 g0 S0 hq hk s0 X0
       go_wp2_with fail
       (with_reducible refine u0.mono ?_)
       rintro e w4 ⟨S2,v4,q0,d4,hL,rfl,h6⟩;dsimp only at hL h6 ⊢;have HL:=ae hL;obtain ⟨ga,ca,K0,rfl,a1,a2,a3,a4,a5,a6⟩:=og h6 (by rw [hL];decide);have rd:=(SR.out w4 (bs 5 (J (Y ⟨ga,0,U⟩) L.length ca) L*(aO j h'*(aE x S2 k0*ak S2))) (h6.to (by ac_rfl)))
       obtain ⟨-,(⟨-,h9⟩|⟨D1,c',e,ha⟩)⟩:=rd
       .exact absurd h9 (by rw [y.out];omega)
       simp only [Value.slice.injEq] at e;obtain ⟨rfl,-,rfl⟩:=e;obtain ⟨part,D0⟩:∃ part,(l.drop done).take k=part:=⟨_,rfl⟩
       have i0:part.length=k:=by rw [<- D0,W2,S3,y.out];omega
       have h7:=(a6 r part (by rw [i0,hL];omega)).1
       have r0:=fun ty=>run_copy_row (P:=W) w4 37 37 ty 5 ga r (480-r) (ca-r) (D1.add done) k (cap-done) K0 5 (part.map SL.u8) underlying37 Bv a4
        (by rw [X2,i0];exact (Nat.min_eq_left (by omega)).symm)
        (fun m1 v hv=>by
         have hj:m1<k:=by rw [<- i0];simpa using (List.getElem?_eq_some_iff.1 hv).1
         rw [Addr.add_add];refine ha (done+m1) v ?_;rw [<- hv,<- D0,List.getElem?_map,List.getElem?_map,H3,if_pos hj,J3])
        (by rw [X2,i0,a3];omega) (sr _)
       rw [X2,i0] at r0;obtain ⟨RW,p0⟩:∃ RW,RW=(K0.toList.take r++part.map SL.u8++K0.toList.drop (r+(part.map SL.u8).length)).toArray:=⟨_,rfl⟩
       rw [<- p0] at h7;rw [X2,i0] at p0;rw [<- p0] at r0;have d1:=ae r0;have k1:=h7.mZ;have m0:=mg x _ S2 k0 b _ (putAt L r part) _ (h7.to (by ac_rfl:_=aE x S2 k0*(ak S2*(bs 5 (J (Y ⟨ga,0,U⟩) L.length ca) (putAt L r part)*(aO j h'*z))))) k1;obtain ⟨⟨r3,Z0⟩,g0⟩:∃ p,bL b (putAt L r part) k0=p:=⟨_,rfl⟩
       have hK:∀ p,bL b (putAt L r part) k0=p->zv (xM x.c.ask x.n o l f') done o k l (h',b,L) k0=match p with|(.ok _,Y0)=>xM x.c.ask x.n o l f' (done+k) h' Y0|(.bad c,Y0)=>(.bad c,Y0):=by
        intro p hp;unfold zv WM.bind;dsimp only;rw [hr,D0,hp]
        cases p with
        | mk a c=>cases a <;> rfl
       have g1:=hK _ g0;rw [g0] at m0;have t1:(putAt L r part).length=480:=by rw [gg (by rw [i0,HL.out];omega)];exact HL.out
       rw [HL.out] at m0 a1 ⊢;have n1:=ae m0;have D5:=ae ((dk.trans d4).setRow ga RW);clear u0 h6 h7 r0 p0 k1 m0 ha a2 a3 a4 a5 a6 hK g0 hL i0 D0 hr t1 cb
       go_wp2_with (refine fy (d1.out _) _ _ rfl rfl rfl rfl rfl ?_)
       generalize w4.setRow ga RW=w5 at *;clear d1;refine n1.out.mono ?_
       cases r3 with
       | bad cN=>
        have HN:=ae ((WM.bf g1).symm.trans n0.out);rintro e w6 ⟨t,l0,d6,rfl,h8⟩
        go_wp2_with fail
        exact ⟨rfl,HQ.out _ _ (by rw [HE.out,<- HN.out];exact ⟨t,(o0.out.trans q0).trans l0,D5.out.trans d6,rfl,(h8.to (by ac_rfl:_=(bs 5 (J (Y ⟨ga,0,U⟩) 480 ca) (putAt L r part)*aO j h')*(aE x t Z0*(ak t*z)))).right⟩)⟩
       | ok G0=>
        have HN:=ae ((oM g1).symm.trans n0.out);rintro e w6 ⟨t,v6,l0,d6,rfl,h8⟩;obtain ⟨rfl,h9⟩:=ag.aq.1 h8;clear h8
        go_wp2_with fail
        go_roundw
        case rel=>exact ⟨done+k,f',h',Z0,t,by rw [y.out];omega,by rw [y.out];omega,by go_num,HN.out,(o0.out.trans q0).trans l0,D5.out.trans d6,(h9.to (by ac_rfl:_=bs 5 (J (Y ⟨ga,0,U⟩) 480 ca) (putAt L r part)*(aO j h'*(aE x t Z0*(ak t*z))))).right⟩
        case measure=>simp [intOf];omega
     .obtain rfl:done=m:=by omega
      have n0:=ae (show GL o l h d0=c0 from (WM.aX (OD (by rw [y.out];exact D2 _) d0)).symm.trans H0.out);have hf:=ag.yM f0;have c3:=(cU f0 (j:=3) (by decide)).1;have f3:=(cU f0 (j:=3) (by decide)).2;rw [show h.l.getD 3 0=h.n.sz from rfl] at c3;obtain ⟨b0,T⟩:∃ b0,max h.n.sz ((o+l.length:Nat):Int)=b0:=⟨_,rfl⟩
      have L0:=(kh (h':=h.cJ b0) f0 (j:=3) (z:=b0) hf rfl).drew;have c1:=ae (dk.setCell ⟨j,3,U⟩ (Z .i64 b0)).drew;have W0:=jC x _ Sk d0 j (h.cJ b0) _ L0;obtain ⟨⟨r6,b1⟩,T0⟩:∃ p,dQ (h.cJ b0) d0=p:=⟨_,rfl⟩
      rw [T0] at W0;have HN:=ae (show (r6,b1)=c0 by rw [<- n0.out,<- T0,<- T];rfl);have m0:IntKind.i64.wrap ((o:Int)+(done:Int))=(o:Int)+(done:Int):=by rw [IntKind.wrap_i64];omega
      have F0:(if h.n.sz<IntKind.i64.wrap ((o:Int)+(done:Int)) then IntKind.i64.wrap ((o:Int)+(done:Int)) else h.n.sz)=b0:=by rw [m0,<- T,y.out];split <;> omega
      have o1:=ae F0;have f1:=ae W0;have H1:=ae L0;have v1:¬ (done:Int)<(done:Int):=by omega
      clear hf L0 W0 T0 T f0 n0 m0 F0;generalize h.n.sz=sz at *
      go_wp2_with fail
      go_region_law (fail)
      all_goals
       rw [o1.out];generalize (wr.setCell ⟨j,3,U⟩ (Z .i64 b0)).drew=b2 at *
       cases r6 with
       | bad cN=>
        go_wp2_with fail
        refine f1.out.mono ?_;rintro e E1 ⟨t,l0,d6,rfl,R0⟩
        go_wp2_with fail
        exact ⟨rfl,HQ.out _ _ (by rw [HE.out,<- HN.out];exact ⟨t,o0.out.trans l0,c1.out.trans d6,rfl,(R0.to (by ac_rfl:_=aO j (h.cJ b0)*(aE x t b1*(ak t*z)))).right⟩)⟩
       | ok u6=>
        go_wp2_with fail
        refine f1.out.mono ?_;rintro e E1 ⟨t,v6,l0,d6,rfl,R0⟩;obtain ⟨rfl,p1⟩:=ag.aq.1 R0
        go_wp2_with fail
        go_end0
        exact HQ.out _ _ (by rw [HE.out,<- HN.out];exact ⟨t,_,o0.out.trans l0,c1.out.trans d6,rfl,ag.aq.2 ⟨rfl,(p1.to (by ac_rfl:_=aO j (h.cJ b0)*(aE x t b1*(ak t*z)))).right⟩⟩)
  .have hT:c0=(.bad 1,aR):=by rw [<- HT.out];exact if_neg T
   have e0:=ae hT;rw [y.out] at T;clear hT HT
   by_cases A1:0<=off
   .by_cases F0:(m:Int)<=4096
    .have l1:¬ off<=122880-(m:Int):=fun h9=>T ⟨A1,by omega,h9⟩
     have Z1:decide (off<=122880-(m:Int))=H:=decide_eq_false l1;clear T l1
     go_wp2_with fail
     (with_reducible refine (gF w2).mono ?_)
     rintro e w4 ⟨rfl,rfl⟩
     go_wp2_with fail
     exact ⟨rfl,HQ.out _ _ (by rw [HE.out,e0.out];exact ⟨S',hS,d2,rfl,H4.out.right⟩)⟩
    .clear T
     go_wp2_with fail
     (with_reducible refine (gF w2).mono ?_)
     rintro e w4 ⟨rfl,rfl⟩
     go_wp2_with fail
     exact ⟨rfl,HQ.out _ _ (by rw [HE.out,e0.out];exact ⟨S',hS,d2,rfl,H4.out.right⟩)⟩
   .have F0:off<0:=by omega
    clear T
    go_wp2_with fail
    (with_reducible refine (gF w2).mono ?_)
    rintro e w4 ⟨rfl,rfl⟩
    go_wp2_with fail
    exact ⟨rfl,HQ.out _ _ (by rw [HE.out,e0.out];exact ⟨S',hS,d2,rfl,H4.out.right⟩)⟩
end
section
variable {σ α:Type}
abbrev cH (j n:Nat):Obj:=X #[O (Y ⟨j,0,U⟩),Z .i64 (n:Int)] 83 (0,0)
def NC:Value:=.agg #[Z .i64 0,Z .i64 0,Z .i64 0,Z .i64 0,Z .i64 0,Z .i64 0,Z .i64 0,Z .i64 0,Z .i64 0,Z .i64 0,Z .i64 0,Z .i64 0,Z .i64 0,Z .i64 0,Z .i64 0,Z .i64 0,Z .i64 0,Z .i64 0,Z .i64 0,Z .i64 0]
def Uf:Rs Nat->Value
 | .ok a=>Z .i64 (a:Int)
 | .bad _=>Z .i64 0
def RY (c:Cx σ) (j:Nat) (S:Hp) (F:ai) (w:G) (p:Rs Nat × gD σ) (e:Ending) (w':G):Prop:=
 ∃ S',Ext S S'/\aj w w'/\e = Z' (.tuple #[Uf p.1,Z .i64 p.1.code])/\ag w' (cE c S' j p.2*(ak S'*F))
theorem Gu (c:Cx σ) (T:c.Ok) (n:Nat) (d0:4<=n) (e0:n<=3840) (j:Nat) (M:gD σ) (w:G) (S:Hp)  (F:ai) (h:ag w (cE c S j M*(ak S*(F)))) :
  Calls W 64 #[fJ j n] w (JQ c j S F w (dK (ja c.ask) M)):=by
 refine aH fun f0 u=>?_;obtain ⟨p,hp⟩:∃ p,dK (ja c.ask) M=p:=⟨_,rfl⟩
 rw [hp] at u;have g0:=mK W;have r:=fun  w F h=>uH c T n d0 e0 117 #[] (emp) (ja c.ask) (fun c0 w=>enters func117 (by kernel_rfl) rfl c0 w) (C9 T) j M w S F h;rw [hp] at r;have v:=ae r;have z:=(h.alloc (cH j n))
 have dA:=((aj.refl w).alloc (cH j n))
 have L:ag (w.alloc (cH j n)) (cE c S j M*(ak S*((emp)*(pt w.heap.size (cH j n)*F)))):=(ag.kT z).to (by unfold cH;ac_rfl);have t:=ae L;clear z L r h;unfold fJ
 go_enter func64,ntmps64
 go_wp2_with fail
 refine v.out _ _ t.out _ ?_;clear v t;generalize i0:(w.alloc (cH j n))=w1 at *;generalize w.heap.size=b0 at *;rintro e w2 ⟨o,hS,d2,rfl,y⟩;have h3:=ae (y.to (by ac_rfl:_=((emp*pt b0 (cH j n)))*(cE c o j p.2*(ak o*F)))).right;clear y
 go_wp2_with fail
 try go_ret
 exact u.out _ _ ⟨o,hS,dA.trans d2,rfl,h3.out⟩
theorem Pg (c:Cx σ) (hc:c.Ok) (n:Nat) (f0:4<=n) (d0:n<=3840) (j:Nat) (M:gD σ) (w:G) (S:Hp)  (F:ai) (h:ag w (cE c S j M*(ak S*(F)))) :
  Calls W 48 #[fJ j n] w (RY c j S F w (dK (oS c.ask n) M)):=by
 refine aH fun i0 t=>?_;obtain ⟨p,hp⟩:∃ p,dK (oS c.ask n) M=p:=⟨_,rfl⟩
 rw [hp] at t;have k0:=mK W;have L:=fun  w F h=>A2 c hc n f0 d0 94 #[] (emp) (oS c.ask n) (fun e0 w=>enters func94 (by kernel_rfl) rfl e0 w) (Ky hc d0) j M w S F h;rw [hp] at L;have c0:=ae L;have hA:=(h.alloc (cH j n))
 have dA:=((aj.refl w).alloc (cH j n))
 have hB:ag (w.alloc (cH j n)) (cE c S j M*(ak S*((emp)*(pt w.heap.size (cH j n)*F)))):=(ag.kT hA).to (by unfold cH;ac_rfl);have T:=ae hB;clear hA hB L h;unfold fJ
 go_enter func48,ntmps48
 go_wp2_with fail
 refine c0.out _ _ T.out _ ?_;clear c0 T;generalize l0:(w.alloc (cH j n))=w1 at *;generalize w.heap.size=b0 at *;obtain ⟨g0,M2⟩:=p
 cases g0 with
 | bad cN=>
  rintro e w2 ⟨o,z,u,rfl,r⟩;have y:=ae (r.to (by ac_rfl:_=((emp*pt b0 (cH j n)))*(cE c o j M2*(ak o*F)))).right;clear r
  go_wp2_with fail
  try go_ret
  exact t.out _ _ ⟨o,z,dA.trans u,rfl,y.out⟩
 | ok a=>
  rintro e w2 ⟨o,v,z,u,rfl,r⟩;have y:=ae (r.to (by ac_rfl:_=((emp*pt b0 (cH j n)))*(CC a v*(cE c o j M2*(ak o*F))))).right;clear r;obtain ⟨rfl,h4⟩:=ag.aq.1 y.out
  go_wp2_with fail
  try go_ret
  exact t.out _ _ ⟨o,z,dA.trans u,rfl,h4⟩
theorem Jz (c:Cx σ) (hc:c.Ok) (n:Nat) (g0:4<=n) (e0:n<=3840) (j:Nat) (M:gD σ) (w:G) (S:Hp) (kd:Int) (F:ai) (h:ag w (cE c S j M*(ak S*(F)))) :
  Calls W 68 #[fJ j n,Z .i64 kd] w (RY c j S F w (dK (wW c.ask n kd) M)):=by
 refine aH fun k0 t=>?_;obtain ⟨p,hp⟩:∃ p,dK (wW c.ask n kd) M=p:=⟨_,rfl⟩
 rw [hp] at t;have l0:=mK W;have T:=fun c0 w F h=>A2 c hc n g0 e0 121 #[O (Y ⟨c0,0,U⟩)] (bg c0 kd) (wW c.ask n kd) (fun f0 w=>enters func121 (by kernel_rfl) rfl f0 w) (N8 hc e0 kd c0) j M w S F h;rw [hp] at T;have d0:=ae T;have z:=((h.alloc (cH j n)).alloc (X #[Z .i64 kd] 3 (0,0)))
 have dA:=(((aj.refl w).alloc (cH j n)).alloc (X #[Z .i64 kd] 3 (0,0)))
 simp only [O2] at z;have hB:ag ((w.alloc (cH j n)).alloc (X #[Z .i64 kd] 3 (0,0))) (cE c S j M*(ak S*((bg (w.heap.size+1) kd)*(pt w.heap.size (cH j n)*F)))):=z.to (by unfold bg;ac_rfl);have HB:=ae hB;clear z hB T h;unfold fJ
 go_enter func68,ntmps68
 go_wp2_with fail
 refine d0.out (w.heap.size+1) _ _ HB.out _ ?_;clear d0 HB;generalize m0:((w.alloc (cH j n)).alloc (X #[Z .i64 kd] 3 (0,0)))=w1 at *;generalize w.heap.size+1=b1 at *;generalize w.heap.size=b0 at *;obtain ⟨i0,M2⟩:=p
 cases i0 with
 | bad cN=>
  rintro e w2 ⟨o,L,u,rfl,r⟩;have y:=ae (r.to (by ac_rfl:_=(pt b0 (cH j n)*bg b1 kd)*(cE c o j M2*(ak o*F)))).right;clear r
  go_wp2_with fail
  try go_ret
  exact t.out _ _ ⟨o,L,dA.trans u,rfl,y.out⟩
 | ok a=>
  rintro e w2 ⟨o,v,L,u,rfl,r⟩;have y:=ae (r.to (by ac_rfl:_=(pt b0 (cH j n)*bg b1 kd)*(CC a v*(cE c o j M2*(ak o*F))))).right;clear r;obtain ⟨rfl,h4⟩:=ag.aq.1 y.out
  go_wp2_with fail
  try go_ret
  exact t.out _ _ ⟨o,L,dA.trans u,rfl,h4⟩
theorem Pm (c:Cx σ) (hc:c.Ok) (n:Nat) (e0:4<=n) (c0:n<=3840) (j:Nat) (M:gD σ) (w:G) (S:Hp) (node:Int) (F:ai) (h:ag w (cE c S j M*(ak S*(F)))) :
  Calls W 39 #[fJ j n,Z .i64 node] w (JQ c j S F w (dK (qH c.ask n node) M)):=by
 refine aH fun f0 y=>?_;obtain ⟨p,hp⟩:∃ p,dK (qH c.ask n node) M=p:=⟨_,rfl⟩
 rw [hp] at y;have g0:=mK W;have t:=fun u w F h=>uH c hc n e0 c0 85 #[O (Y ⟨u,0,U⟩)] (bg u node) (qH c.ask n node) (fun d0 w=>enters func85 (by kernel_rfl) rfl d0 w) (Lb hc c0 node u) j M w S F h;rw [hp] at t;have z:=ae t;have r:=((h.alloc (cH j n)).alloc (X #[Z .i64 node] 3 (0,0)))
 have dA:=(((aj.refl w).alloc (cH j n)).alloc (X #[Z .i64 node] 3 (0,0)))
 simp only [O2] at r;have T:ag ((w.alloc (cH j n)).alloc (X #[Z .i64 node] 3 (0,0))) (cE c S j M*(ak S*((bg (w.heap.size+1) node)*(pt w.heap.size (cH j n)*F)))):=r.to (by unfold bg;ac_rfl);have v:=ae T;clear r T t h;unfold fJ
 go_enter func39,ntmps39
 go_wp2_with fail
 refine z.out (w.heap.size+1) _ _ v.out _ ?_;clear z v;generalize i0:((w.alloc (cH j n)).alloc (X #[Z .i64 node] 3 (0,0)))=w1 at *;generalize w.heap.size+1=b1 at *;generalize w.heap.size=b0 at *;rintro e w2 ⟨o,hS,d2,rfl,L⟩;have h3:=ae (L.to (by ac_rfl:_=(pt b0 (cH j n)*bg b1 node)*(cE c o j p.2*(ak o*F)))).right;clear L
 go_wp2_with fail
 try go_ret
 exact y.out _ _ ⟨o,hS,dA.trans d2,rfl,h3.out⟩
theorem MI (c:Cx σ) (hc:c.Ok) (n:Nat) (d0:4<=n) (e0:n<=3840) (j:Nat) (M:gD σ) (w:G) (S:Hp) (node:Int) (d:Int) (F:ai) (h:ag w (cE c S j M*(ak S*(F)))) :
  Calls W 38 #[fJ j n,Z .i64 node,Z .i64 d] w (JQ c j S F w (dK (kL c.ask n node d) M)):=by
 refine aH fun f0 z=>?_;obtain ⟨p,hp⟩:∃ p,dK (kL c.ask n node d) M=p:=⟨_,rfl⟩
 rw [hp] at z;have g0:=mK W;have u:=fun v r w F h=>uH c hc n d0 e0 81 #[O (Y ⟨v,0,U⟩),O (Y ⟨r,0,U⟩)] (bg v node*(bg r d)) (kL c.ask n node d) (fun c0 w=>enters func81 (by kernel_rfl) rfl c0 w) (GI hc node d v r) j M w S F h;rw [hp] at u;have L:=ae u;have t:=(((h.alloc (cH j n)).alloc (X #[Z .i64 node] 3 (0,0))).alloc (X #[Z .i64 d] 3 (0,0)))
 have dA:=((((aj.refl w).alloc (cH j n)).alloc (X #[Z .i64 node] 3 (0,0))).alloc (X #[Z .i64 d] 3 (0,0)))
 simp only [O2] at t;have hB:ag (((w.alloc (cH j n)).alloc (X #[Z .i64 node] 3 (0,0))).alloc (X #[Z .i64 d] 3 (0,0))) (cE c S j M*(ak S*((bg (w.heap.size+1) node*(bg (w.heap.size+1+1) d))*(pt w.heap.size (cH j n)*F)))):=t.to (by unfold bg;ac_rfl);have y:=ae hB;clear t hB u h;unfold fJ
 go_enter func38,ntmps38
 go_wp2_with fail
 refine L.out (w.heap.size+1) (w.heap.size+1+1) _ _ y.out _ ?_;clear L y;generalize i0:(((w.alloc (cH j n)).alloc (X #[Z .i64 node] 3 (0,0))).alloc (X #[Z .i64 d] 3 (0,0)))=w1 at *;generalize w.heap.size+1+1=b2 at *;generalize w.heap.size+1=b1 at *;generalize w.heap.size=b0 at *;rintro e w2 ⟨o,hS,d2,rfl,T⟩;have h3:=ae (T.to (by ac_rfl:_=(pt b0 (cH j n)*bg b1 node*bg b2 d)*(cE c o j p.2*(ak o*F)))).right;clear T
 go_wp2_with fail
 try go_ret
 exact z.out _ _ ⟨o,hS,dA.trans d2,rfl,h3.out⟩
theorem KO (c:Cx σ) (hc:c.Ok) (n:Nat) (e0:4<=n) (c0:n<=3840) (j:Nat) (M:gD σ) (w:G) (S:Hp) (node:Int) (o:Int) (F:ai) (h:ag w (cE c S j M*(ak S*(F)))) :
  Calls W 137 #[fJ j n,Z .i64 node,Z .i64 o] w (JQ c j S F w (dK (mu c.ask n node o) M)):=by
 refine aH fun f0 L=>?_;obtain ⟨p,hp⟩:∃ p,dK (mu c.ask n node o) M=p:=⟨_,rfl⟩
 rw [hp] at L;have g0:=mK W;have u:=fun v y w F h=>uH c hc n e0 c0 190 #[O (Y ⟨v,0,U⟩),O (Y ⟨y,0,U⟩)] (bg v node*(bg y o)) (mu c.ask n node o) (fun d0 w=>enters func190 (by kernel_rfl) rfl d0 w) (F4 hc c0 node o v y) j M w S F h;rw [hp] at u;have T:=ae u;have t:=(((h.alloc (cH j n)).alloc (X #[Z .i64 node] 3 (0,0))).alloc (X #[Z .i64 o] 3 (0,0)))
 have dA:=((((aj.refl w).alloc (cH j n)).alloc (X #[Z .i64 node] 3 (0,0))).alloc (X #[Z .i64 o] 3 (0,0)))
 simp only [O2] at t;have hB:ag (((w.alloc (cH j n)).alloc (X #[Z .i64 node] 3 (0,0))).alloc (X #[Z .i64 o] 3 (0,0))) (cE c S j M*(ak S*((bg (w.heap.size+1) node*(bg (w.heap.size+1+1) o))*(pt w.heap.size (cH j n)*F)))):=t.to (by unfold bg;ac_rfl);have z:=ae hB;clear t hB u h;unfold fJ
 go_enter func137,ntmps137
 go_wp2_with fail
 refine T.out (w.heap.size+1) (w.heap.size+1+1) _ _ z.out _ ?_;clear T z;generalize i0:(((w.alloc (cH j n)).alloc (X #[Z .i64 node] 3 (0,0))).alloc (X #[Z .i64 o] 3 (0,0)))=w1 at *;generalize w.heap.size+1+1=b2 at *;generalize w.heap.size+1=b1 at *;generalize w.heap.size=b0 at *;rintro e w2 ⟨r,hS,d2,rfl,h2⟩;have h3:=ae (h2.to (by ac_rfl:_=(pt b0 (cH j n)*bg b1 node*bg b2 o)*(cE c r j p.2*(ak r*F)))).right;clear h2
 go_wp2_with fail
 try go_ret
 exact L.out _ _ ⟨r,hS,dA.trans d2,rfl,h3.out⟩
theorem Gj (c:Cx σ) (hc:c.Ok) (n:Nat) (k0:4<=n) (g0:n<=3840) (j:Nat) (M:gD σ) (w:G) (S:Hp) (node:Int) (off:Int) (o:Int) (F:ai) (h:ag w (cE c S j M*(ak S*(F)))) :
  Calls W 92 #[fJ j n,Z .i64 node,Z .i64 off,Z .i64 o] w (AX c j (J U 0 0) fX S F w (dK (jA c.ask n node off o) M)):=by
 refine aH fun m0 u=>?_;obtain ⟨p,hp⟩:∃ p,dK (jA c.ask n node off o) M=p:=⟨_,rfl⟩
 rw [hp] at u;have n0:=mK W;have c0:=fun d0 e0 y w F h=>ur c hc n k0 g0 154 #[O (Y ⟨d0,0,U⟩),O (Y ⟨e0,0,U⟩),O (Y ⟨y,0,U⟩)] (bg d0 node*(bg e0 off*(bg y o))) (jA c.ask n node off o) (fun i0 w=>enters func154 (by kernel_rfl) rfl i0 w) (Ek hc g0 node off o d0 e0 y) j M w S F h;rw [hp] at c0;have f0:=ae c0;have T:=((((h.alloc (cH j n)).alloc (X #[Z .i64 node] 3 (0,0))).alloc (X #[Z .i64 off] 3 (0,0))).alloc (X #[Z .i64 o] 3 (0,0)))
 have dA:=(((((aj.refl w).alloc (cH j n)).alloc (X #[Z .i64 node] 3 (0,0))).alloc (X #[Z .i64 off] 3 (0,0))).alloc (X #[Z .i64 o] 3 (0,0)))
 simp only [O2] at T;have hB:ag ((((w.alloc (cH j n)).alloc (X #[Z .i64 node] 3 (0,0))).alloc (X #[Z .i64 off] 3 (0,0))).alloc (X #[Z .i64 o] 3 (0,0))) (cE c S j M*(ak S*((bg (w.heap.size+1) node*(bg (w.heap.size+1+1) off*(bg (w.heap.size+1+1+1) o)))*(pt w.heap.size (cH j n)*F)))):=T.to (by unfold bg;ac_rfl);have HB:=ae hB;clear T hB c0 h;unfold fJ
 go_enter func92,ntmps92
 go_wp2_with fail
 refine f0.out (w.heap.size+1) (w.heap.size+1+1) (w.heap.size+1+1+1) _ _ HB.out _ ?_;clear f0 HB;generalize o0:((((w.alloc (cH j n)).alloc (X #[Z .i64 node] 3 (0,0))).alloc (X #[Z .i64 off] 3 (0,0))).alloc (X #[Z .i64 o] 3 (0,0)))=w1 at *;generalize w.heap.size+1+1+1=b3 at *;generalize w.heap.size+1+1=b2 at *;generalize w.heap.size+1=b1 at *;generalize w.heap.size=b0 at *;obtain ⟨l0,M2⟩:=p
 cases l0 with
 | bad cN=>
  rintro e w2 ⟨r,hS,z,rfl,t⟩;have L:=ae (t.to (by ac_rfl:_=(pt b0 (cH j n)*bg b1 node*bg b2 off*bg b3 o)*(cE c r j M2*(ak r*F)))).right;clear t
  go_wp2_with fail
  try go_ret
  exact u.out _ _ ⟨r,hS,dA.trans z,rfl,L.out⟩
 | ok a=>
  rintro e w2 ⟨r,v,hS,z,rfl,t⟩;have L:=ae (t.to (by ac_rfl:_=(pt b0 (cH j n)*bg b1 node*bg b2 off*bg b3 o)*(fX a v*(cE c r j M2*(ak r*F))))).right;clear t
  go_wp2_with fail
  try go_ret
  exact u.out _ _ ⟨r,v,hS,dA.trans z,rfl,L.out⟩
theorem vQ (c:Cx σ) (hc:c.Ok) (n:Nat) (i0:4<=n) (d0:n<=3840) (j:Nat) (M:gD σ) (w:G) (S:Hp) (node:Int) (off:Int) (l:List UInt8) (va:Option Addr) (cap:Nat) (D:ai) (hD:∀ c0 P,ag c0 (D*P)->Rd c0 (J va l.length cap) l) (g0:l.length<=cap) (f0:l.length<=1000000000000) (F:ai) (h:ag w (cE c S j M*(ak S*(D*F)))) :
  Calls W 42 #[fJ j n,Z .i64 node,Z .i64 off,J va l.length cap] w (JQ c j S (D*F) w (dK (gz c.ask n node off l) M)):=by
 refine aH fun k0 L=>?_;obtain ⟨p,hp⟩:∃ p,dK (gz c.ask n node off l) M=p:=⟨_,rfl⟩
 rw [hp] at L;have l0:=mK W;have t:=fun u v y w F h=>uH c hc n i0 d0 88 #[O (Y ⟨u,0,U⟩),O (Y ⟨v,0,U⟩),O (Y ⟨y,0,U⟩)] (bg u node*(bg v off*((Nr y (J va l.length cap)*D)))) (gz c.ask n node off l) (fun e0 w=>enters func88 (by kernel_rfl) rfl e0 w) (Ag hc d0 node off l va cap D hD g0 f0 u v y) j M w S F h;rw [hp] at t;have T:=ae t;have r:=((((h.alloc (cH j n)).alloc (X #[Z .i64 node] 3 (0,0))).alloc (X #[Z .i64 off] 3 (0,0))).alloc (X #[J va l.length cap] 37 (0,0)))
 have dA:=(((((aj.refl w).alloc (cH j n)).alloc (X #[Z .i64 node] 3 (0,0))).alloc (X #[Z .i64 off] 3 (0,0))).alloc (X #[J va l.length cap] 37 (0,0)))
 simp only [O2] at r;have hB:ag ((((w.alloc (cH j n)).alloc (X #[Z .i64 node] 3 (0,0))).alloc (X #[Z .i64 off] 3 (0,0))).alloc (X #[J va l.length cap] 37 (0,0))) (cE c S j M*(ak S*((bg (w.heap.size+1) node*(bg (w.heap.size+1+1) off*((Nr (w.heap.size+1+1+1) (J va l.length cap)*D))))*(pt w.heap.size (cH j n)*F)))):=r.to (by unfold bg Nr;ac_rfl);have z:=ae hB;clear r hB t h;unfold fJ
 go_enter func42,ntmps42
 go_wp2_with fail
 refine T.out (w.heap.size+1) (w.heap.size+1+1) (w.heap.size+1+1+1) _ _ z.out _ ?_;clear T z;generalize m0:((((w.alloc (cH j n)).alloc (X #[Z .i64 node] 3 (0,0))).alloc (X #[Z .i64 off] 3 (0,0))).alloc (X #[J va l.length cap] 37 (0,0)))=w1 at *;generalize w.heap.size+1+1+1=b3 at *;generalize w.heap.size+1+1=b2 at *;generalize w.heap.size+1=b1 at *;generalize w.heap.size=b0 at *;rintro e w2 ⟨o,hS,d2,rfl,h2⟩;have h3:=ae (h2.to (by ac_rfl:_=(pt b0 (cH j n)*bg b1 node*bg b2 off*Nr b3 (J va l.length cap))*(cE c o j p.2*(ak o*(D*F))))).right;clear h2
 go_wp2_with fail
 try go_ret
 exact L.out _ _ ⟨o,hS,dA.trans d2,rfl,h3.out⟩
theorem rj {w:G} {j:Array Value} {a:Nat} {e:Value} {o:Array Value} {F:ai} (h4:j[4]?=Y (ay a)) (r:j[5]?=Y e) (u:ag w (pt a (X o 73 (0,0))*F)) (t:o.size=20) :
  (results Tryz.f91 j).run W w = .ok (.tuple #[.agg o,e]) w:=by
 have v:=run_loadVar_row (P:=W) w a 73 73 o (0,0) _ u.heap underlying73 rfl (by rw [t];exact bC);have y:j.getD 4 undef = O (Y ⟨a,0,U⟩):=by simp [h4]
 have z:j.getD 5 undef=e:=by simp [r]
 simp [results,Tryz.results91,h4,r,asAddr,v]
theorem Oi (c:Cx σ) (hc:c.Ok) (n:Nat) (p0:4<=n) (q0:n<=3840) (j:Nat) (M:gD σ) (w:G) (S:Hp) (node:Int) (F:ai) (h:ag w (cE c S j M*(ak S*F))) :
  Calls W 91 #[fJ j n,Z .i64 node] w (AX c j NC Ch S F w (dK (re c.ask n node) M)):=by
 refine aH fun s0 HQ=>?_;obtain ⟨p,hp⟩:∃ p,dK (re c.ask n node) M=p:=⟨_,rfl⟩
 rw [hp] at HQ;have u0:=mK W;have f0:=fun g0 w F h=>JH c hc n p0 q0 152 #[O (Y ⟨g0,0,U⟩)] (bg g0 node) (re c.ask n node) (fun n0 w=>enters func152 (by kernel_rfl) rfl n0 w) (Lp hc node g0) j M w S F h;rw [hp] at f0;have i0:=ae f0;have hA:=(((h.alloc (cH j n)).alloc (X #[Z .i64 node] 3 (0,0))).alloc (X #[Z .i64 0,Z .i64 0,Z .i64 0,Z .i64 0,Z .i64 0,Z .i64 0,Z .i64 0,Z .i64 0,Z .i64 0,Z .i64 0,Z .i64 0,Z .i64 0,Z .i64 0,Z .i64 0,Z .i64 0,Z .i64 0,Z .i64 0,Z .i64 0,Z .i64 0,Z .i64 0] 73 (0,0)))
 have dA:=((((aj.refl w).alloc (cH j n)).alloc (X #[Z .i64 node] 3 (0,0))).alloc (X #[Z .i64 0,Z .i64 0,Z .i64 0,Z .i64 0,Z .i64 0,Z .i64 0,Z .i64 0,Z .i64 0,Z .i64 0,Z .i64 0,Z .i64 0,Z .i64 0,Z .i64 0,Z .i64 0,Z .i64 0,Z .i64 0,Z .i64 0,Z .i64 0,Z .i64 0,Z .i64 0] 73 (0,0)))
 simp only [O2] at hA;have hB:ag (((w.alloc (cH j n)).alloc (X #[Z .i64 node] 3 (0,0))).alloc (X #[Z .i64 0,Z .i64 0,Z .i64 0,Z .i64 0,Z .i64 0,Z .i64 0,Z .i64 0,Z .i64 0,Z .i64 0,Z .i64 0,Z .i64 0,Z .i64 0,Z .i64 0,Z .i64 0,Z .i64 0,Z .i64 0,Z .i64 0,Z .i64 0,Z .i64 0,Z .i64 0] 73 (0,0))) (cE c S j M*(ak S*(bg (w.heap.size+1) node*(pt (w.heap.size+1+1) (X #[Z .i64 0,Z .i64 0,Z .i64 0,Z .i64 0,Z .i64 0,Z .i64 0,Z .i64 0,Z .i64 0,Z .i64 0,Z .i64 0,Z .i64 0,Z .i64 0,Z .i64 0,Z .i64 0,Z .i64 0,Z .i64 0,Z .i64 0,Z .i64 0,Z .i64 0,Z .i64 0] 73 (0,0))*(pt w.heap.size (cH j n)*F))))):=hA.to (by unfold bg;ac_rfl);have HB:=ae hB;clear hA hB f0 h;unfold fJ
 go_enter func91,ntmps91
 go_wp2_with fail
 refine i0.out (w.heap.size+1) _ _ HB.out _ ?_;clear i0 HB;generalize x0:(((w.alloc (cH j n)).alloc (X #[Z .i64 node] 3 (0,0))).alloc (X #[Z .i64 0,Z .i64 0,Z .i64 0,Z .i64 0,Z .i64 0,Z .i64 0,Z .i64 0,Z .i64 0,Z .i64 0,Z .i64 0,Z .i64 0,Z .i64 0,Z .i64 0,Z .i64 0,Z .i64 0,Z .i64 0,Z .i64 0,Z .i64 0,Z .i64 0,Z .i64 0] 73 (0,0)))=w1 at *;generalize w.heap.size+1+1=o at *;generalize w.heap.size+1=b1 at *;generalize w.heap.size=b0 at *;obtain ⟨r0,M2⟩:=p;have o0:(prog.info? 73).map (·.size)=Y 20:=bC;have c0:∀ (T:Array Value) (L:G) (P:ai),T.size=20->ag L (pt o (X #[Z .i64 0,Z .i64 0,Z .i64 0,Z .i64 0,Z .i64 0,Z .i64 0,Z .i64 0,Z .i64 0,Z .i64 0,Z .i64 0,Z .i64 0,Z .i64 0,Z .i64 0,Z .i64 0,Z .i64 0,Z .i64 0,Z .i64 0,Z .i64 0,Z .i64 0,Z .i64 0] 73 (0,0))*P)->ag (L.setRow o T) (pt o (X T 73 (0,0))*P):=fun T L P z y=>y.setRow
 cases r0 with
 | bad cN=>
  rintro e L ⟨r,y,d2,rfl,u⟩;have t:=u.to (by ac_rfl:_=pt o (X #[Z .i64 0,Z .i64 0,Z .i64 0,Z .i64 0,Z .i64 0,Z .i64 0,Z .i64 0,Z .i64 0,Z .i64 0,Z .i64 0,Z .i64 0,Z .i64 0,Z .i64 0,Z .i64 0,Z .i64 0,Z .i64 0,Z .i64 0,Z .i64 0,Z .i64 0,Z .i64 0] 73 (0,0))*((bg b1 node*pt b0 (cH j n))*(cE c r j M2*(ak r*F))));have Hz:=ae t.heap;have h4:=ae (c0 #[Z .i64 0,Z .i64 0,Z .i64 0,Z .i64 0,Z .i64 0,Z .i64 0,Z .i64 0,Z .i64 0,Z .i64 0,Z .i64 0,Z .i64 0,Z .i64 0,Z .i64 0,Z .i64 0,Z .i64 0,Z .i64 0,Z .i64 0,Z .i64 0,Z .i64 0,Z .i64 0] _ _ rfl t);have d0:Hid ((#[Z .i64 0,Z .i64 0,Z .i64 0,Z .i64 0,Z .i64 0,Z .i64 0,Z .i64 0,Z .i64 0,Z .i64 0,Z .i64 0,Z .i64 0,Z .i64 0,Z .i64 0,Z .i64 0,Z .i64 0,Z .i64 0,Z .i64 0,Z .i64 0,Z .i64 0,Z .i64 0]:Array Value).all (·.oneCell')=Q):=EW;have D4:=ae ((dA.trans d2).setRow o #[Z .i64 0,Z .i64 0,Z .i64 0,Z .i64 0,Z .i64 0,Z .i64 0,Z .i64 0,Z .i64 0,Z .i64 0,Z .i64 0,Z .i64 0,Z .i64 0,Z .i64 0,Z .i64 0,Z .i64 0,Z .i64 0,Z .i64 0,Z .i64 0,Z .i64 0,Z .i64 0]);clear u t c0
  go_wp2_with (refine wpList_store_row (by exact rfl) 73 (.tmp 4) (.tmp 9) (by exact rfl) o #[Z .i64 0,Z .i64 0,Z .i64 0,Z .i64 0,Z .i64 0,Z .i64 0,Z .i64 0,Z .i64 0,Z .i64 0,Z .i64 0,Z .i64 0,Z .i64 0,Z .i64 0,Z .i64 0,Z .i64 0,Z .i64 0,Z .i64 0,Z .i64 0,Z .i64 0,Z .i64 0] (by exact rfl) (by exact rfl) 73 _ (by with_reducible exact Hz.out) o0 (by rfl) d0.out ?_)
  exact bodyPost_ret (rj rfl rfl h4.out rfl) rfl (HQ.out _ _ ⟨r,y,D4.out,rfl,h4.out.right.right⟩)
 | ok a=>
  rintro e L ⟨r,v,y,d2,rfl,u⟩;obtain ⟨⟨rfl,e0⟩,k0⟩:=ag.aq.1 u;have t:=k0.to (by ac_rfl:_=pt o (X #[Z .i64 0,Z .i64 0,Z .i64 0,Z .i64 0,Z .i64 0,Z .i64 0,Z .i64 0,Z .i64 0,Z .i64 0,Z .i64 0,Z .i64 0,Z .i64 0,Z .i64 0,Z .i64 0,Z .i64 0,Z .i64 0,Z .i64 0,Z .i64 0,Z .i64 0,Z .i64 0] 73 (0,0))*((bg b1 node*pt b0 (cH j n))*(cE c r j M2*(ak r*F))));have z:(ints a.l).size=20:=by rw [dM,Nd.cells e0]
  have Hz:=ae t.heap;have h4:=ae (c0 (ints a.l) _ _ z t);have d0:Hid ((ints a.l).all (·.oneCell')=Q):=by simp [RowKit.Hid,ints,Value.oneCell']
  have m0:Hid ((prog.info? 73).map (·.size)=Y (ints a.l).size):=by show _=_;rw [z];exact bC
  have D4:=ae ((dA.trans d2).setRow o (ints a.l));have HX:=ae z;have l0:=ae e0;clear u k0 t c0 z e0;unfold Nd.v
  go_wp2_with (refine wpList_store_row (by exact rfl) 73 (.tmp 4) (.tmp 9) (by exact rfl) o (ints a.l) (by exact rfl) (by exact rfl) 73 _ (by with_reducible exact Hz.out) m0.out (by rw [HX.out];rfl) d0.out ?_)
  exact bodyPost_ret (rj rfl rfl h4.out HX.out) rfl (HQ.out _ _ ⟨r,_,y,D4.out,rfl,ag.aq.2 ⟨⟨rfl,l0.out⟩,h4.out.right.right⟩⟩)
end
end Go.Proofs.Fs
namespace Go.SL
open Go.RowKit
section
variable {σ α β:Type}
structure pP (ask:cI σ) (n:Nat) (V:Nat->List UInt8) (I:σ->Prop):Prop where
 len:∀ i,i<n->(V i).length=480
 UX:∀ (s:σ) (i:Nat),I s->i<n->(ask s (i:Int)).1=(0,V i)/\I (ask s (i:Int)).2
structure Good (n:Nat) (V:Nat->List UInt8) (I:σ->Prop) (b:gD σ):Prop where
 err:b.err=0
 inv:I b.s
 wr:∀ (i:Nat) l,i<n->aM b.W (i:Int)=some l->l.length=480
 rd:∀ (i:Nat) l,i<n->aM b.D (i:Int)=some l->l=V i
 keys:∀ p ∈ b.W,0<=p.1/\p.1<(n:Int)
def vw (V:Nat->List UInt8) (j:List (Int × List UInt8)) (i:Nat):List UInt8:=(aM j (i:Int)).getD (V i)
structure Aw where
 V:Nat->List UInt8
 B:List UInt8
structure Rel (n:Nat) (V0:Nat->List UInt8) (I:σ->Prop) (st:eB σ) (a:Aw):Prop where
 gr:Good n V0 I st.b
 view:∀ i,0<i->i<n->vw V0 st.b.W i=a.V i
 bits:st.bits=some a.B\/(st.bits=none/\st.dt=false/\vw V0 st.b.W 0=a.B)
 dt:st.dt=false->vw V0 st.b.W 0=a.B
 len:a.B.length=480
def zH (V:Nat->List UInt8) (i:Nat) (l:List UInt8):Nat->List UInt8:=fun k=>if k=i then l else V k
theorem um (V:Nat->List UInt8) (j:List (Int × List UInt8)) (i:Nat) (l:List UInt8) (k:Nat):vw V (SL.fA j (i:Int) l) k=if k=i then l else vw V j k:=by
 unfold vw;rw [mX]
 by_cases h:k=i
 .subst h;rw [if_pos rfl,if_pos rfl];rfl
 .rw [if_neg h,if_neg (by omega)]
theorem Good.O4 {n:Nat} {V:Nat->List UInt8} {I:σ->Prop} {b:gD σ} {ask:cI σ} (hr:pP ask n V I) (h:Good n V I b) {i:Nat} (hi:i<n):(vw V b.W i).length=480:=by
 unfold vw
 cases j:aM b.W (i:Int) with
 | some l=>exact h.wr i l hi j
 | none=>exact hr.len i hi
def aI (n:Nat) (V0:Nat->List UInt8) (I:σ->Prop) (m:WM σ α) (a:Aw) (P:α->Aw->Prop) (E:Int->Prop):Prop:=
 ∀ st,Rel n V0 I st a->match m st with
  | (.ok x,j)=>∃ a',Rel n V0 I j a'/\P x a'
  | (.bad c,j)=>I j.b.s/\E c
variable {n:Nat} {V0:Nat->List UInt8} {I:σ->Prop} {ask:cI σ} {m:WM σ α} {a:Aw} {P:α->Aw->Prop} {E:Int->Prop}
theorem aI.bind {k:α->WM σ β} {R:β->Aw->Prop} (h:aI n V0 I m a P E) (t:∀ x a',P x a'->aI n V0 I (k x) a' R E):aI n V0 I (WM.bind m k) a R E:=by
 intro st u;have:=h st u;unfold WM.bind
 match v:m st,this with
 | (.ok x,o),⟨a',j,r⟩=>exact t x a' r o j
 | (.bad c,o),j=>exact j
theorem aI.mono {r:α->Aw->Prop} {o:Int->Prop} (h:aI n V0 I m a P E) (v:∀ x a',P x a'->r x a') (u:∀ c,E c->o c):aI n V0 I m a r o:=by
 intro st y;have:=h st y
 match L:m st,this with
 | (.ok x,z),⟨a',j,t⟩=>exact ⟨a',j,v _ _ t⟩
 | (.bad c,z),j=>exact ⟨j.1,u _ j.2⟩
theorem aI.pure {x:α} (h:P x a):aI n V0 I (WM.pure x) a P E:=fun st j=>⟨a,j,h⟩
theorem aI.bad {c:Int} (h:E c):aI n V0 I (fun st=>((.bad c,st):Rs α × eB σ)) a P E:=fun st j=>⟨j.gr.inv,h⟩
theorem aI.congr {m':WM σ α} (h:aI n V0 I m' a P E) (e:∀ st,m st=m' st):aI n V0 I m a P E:=fun st j=>by
 have:=h st j;rw [<- e st] at this;exact this
theorem CM (hr:pP ask n V0 I) {b:gD σ} (h:Good n V0 I b) {i:Nat} (hi:i<n) :
  ∃ o,fY ask b (i:Int)=((0,vw V0 b.W i),o)/\o.W=b.W/\Good n V0 I o:=by
 unfold fY vw;rw [if_neg (by rw [h.err];simp)]
 cases y:aM b.W (i:Int) with
 | some l=>exact ⟨b,rfl,rfl,h⟩
 | none=>
  cases u:aM b.D (i:Int) with
  | some l=>exact ⟨b,by rw [h.rd i l hi u];rfl,rfl,h⟩
  | none=>
   obtain ⟨r,t⟩:=hr.UX b.s i h.inv hi;refine ⟨{ b with D:=SL.fA b.D (i:Int) (V0 i),s:=(ask b.s (i:Int)).2 },?_,rfl,h.err,t,h.wr,fun k l v j=>?_,h.keys⟩
   .show sk ask b (i:Int)=_
    unfold sk;rw [r];rfl
   .rw [mX] at j
    split at j
    .rename_i e;cases j;congr 1;omega
    .exact h.rd k l v j
theorem xo (hr:pP ask n V0 I) {st:eB σ} (h:Good n V0 I st.b) {i:Nat} (hi:i<n) :
  ∃ j,cS ask (i:Int) st=(.ok (vw V0 st.b.W i),{ st with b:=j })/\j.W=st.b.W/\Good n V0 I j:=by
 obtain ⟨j,o,r,t⟩:=CM hr h hi;refine ⟨j,?_,r,t⟩;unfold cS;rw [o];rw [if_neg (by simp),if_neg (by simp [h.O4 hr hi])]
theorem aI.read (hr:pP ask n V0 I) {i:Nat} (h0:0<i) (hi:i<n):aI n V0 I (cS ask (i:Int)) a (fun l a'=>l=a.V i/\l.length=480/\a'=a) E:=by
 intro st j;obtain ⟨o,t,r,u⟩:=xo hr j.gr hi;rw [t];refine ⟨a,⟨u,fun k y z=>?_,?_,fun v=>?_,j.len⟩,j.view i h0 hi,j.gr.O4 hr hi,rfl⟩
 .show vw V0 o.W k=_;rw [r];exact j.view k y z
 .show st.bits=_\/(st.bits=U/\st.dt=H/\vw V0 o.W 0=_);rw [r];exact j.bits
 .show vw V0 o.W 0=_;rw [r];exact j.dt v
theorem aI.write {i:Nat} {l:List UInt8} (h0:0<i) (b0:i<n) (T:l.length=480):aI n V0 I (bL (i:Int) l) a (fun _ a'=>a'={ a with V:=zH a.V i l }) E:=by
 intro st j
 have e:ki st.b.err (i:Int) l=0:=by
  unfold ki;rw [j.gr.err,if_neg (by simp),if_neg (by omega)]
 have u:bL (i:Int) l st=(.ok (),{ st with b:={ st.b with W:=SL.fA st.b.W (i:Int) l } }):=if_pos e;rw [u];refine ⟨{ a with V:=zH a.V i l },⟨⟨j.gr.err,j.gr.inv,fun k t r h'=>?_,j.gr.rd,fun p hp=>(ud hp).elim (fun e=>by rw [e];exact ⟨by omega,by omega⟩) (j.gr.keys p)⟩,fun k r L=>?_,?_,fun z=>?_,j.len⟩,rfl⟩
 .have o:aM (SL.fA st.b.W (i:Int) l) (k:Int)=Y t:=h'
  rw [mX] at o
  split at o
  .cases o;exact T
  .exact j.gr.wr k t r o
 .show vw V0 (SL.fA st.b.W (i:Int) l) k=zH a.V i l k
  rw [um];unfold zH
  split
  .rfl
  .exact j.view k r L
 .rcases j.bits with h|⟨h,v,y⟩
  .exact .inl h
  .refine .inr ⟨h,v,?_⟩
   show vw V0 (SL.fA st.b.W (i:Int) l) 0=a.B
   rw [um,if_neg (by omega)];exact y
 .show vw V0 (SL.fA st.b.W (i:Int) l) 0=a.B
  rw [um,if_neg (by omega)];exact j.dt z
theorem aI.bits (hr:pP ask n V0 I) (h0:0<n):∀ st,Rel n V0 I st a->∃ st',jm ask st=(.ok a.B,st')/\Rel n V0 I st' a/\st'.bits=Y a.B:=by
 intro st j;unfold jm;rcases j.bits with h|⟨h,T,t⟩
 .rw [h];exact ⟨st,rfl,j,h⟩
 .rw [h]
  obtain ⟨o,u,r,y⟩:=xo hr j.gr h0;have v:cS ask 0 st=(.ok (vw V0 st.b.W 0),{ st with b:=o }):=u;dsimp only;rw [v,t];refine ⟨_,rfl,⟨y,fun k z L=>?_,.inl rfl,fun hd=>?_,j.len⟩,rfl⟩
  .show vw V0 o.W k=_;rw [r];exact j.view k z L
  .show vw V0 o.W 0=_;rw [r];exact t
theorem aI.mark (hr:pP ask n V0 I) (h0:0<n) {id:Nat} {t:Bool}:aI n V0 I (cG ask id t) a (fun _ a'=>a'={ a with B:=dY a.B id t }) E:=by
 intro st u;obtain ⟨v,o,j,y⟩:=aI.bits hr h0 st u;have e:cG ask id t st=zo id t a.B v:=WM.aX o;rw [e];unfold zo;exact ⟨{ a with B:=dY a.B id t },⟨j.gr,j.view,.inl rfl,fun r=>by simp at r,by rw [fg];exact j.len⟩,rfl⟩
theorem aI.take (hr:pP ask n V0 I) (h0:0<n) (r:eZ a.B n=U->E 7):aI n V0 I (iG ask n) a (fun k a'=>eZ a.B n=Y k/\a'={ a with B:=dY a.B k Q }) E:=by
 intro st v;obtain ⟨y,o,j,z⟩:=aI.bits hr h0 st v;have e:iG ask n st=sF n a.B y:=WM.aX o;rw [e];unfold sF
 cases u:eZ a.B n with
 | none=>exact ⟨j.gr.inv,r u⟩
 | some k=>exact ⟨{ a with B:=dY a.B k Q },⟨j.gr,j.view,.inl rfl,fun t=>by simp at t,by rw [fg];exact j.len⟩,rfl,rfl⟩
def Lv (V0:Nat->List UInt8) (M:gD σ):Aw:=⟨vw V0 M.W,vw V0 M.W 0⟩
theorem Rel.start (hr:pP ask n V0 I) (h0:0<n) {M:gD σ} (h:Good n V0 I M):Rel n V0 I ⟨M,U,H⟩ (Lv V0 M):=
 ⟨h,fun _ _ _=>rfl,.inr ⟨rfl,rfl,rfl⟩,fun _=>rfl,h.O4 hr h0⟩
theorem aI.run (hr:pP ask n V0 I) (h0:0<n) {M:gD σ} (hM:Good n V0 I M) (h:aI n V0 I m (Lv V0 M) P E) :
  (∃ x M' a',dK m M=(.ok x,M')/\Good n V0 I M'/\P x a'/\vw V0 M'.W 0=a'.B/\∀ i,0<i->i<n->vw V0 M'.W i=a'.V i) \/
  (∃ c T,dK m M=(.bad c,{ M with s:=T })/\I T/\E c):=by
 have h1:=h _ (Rel.start hr h0 hM)
 match y:m ⟨M,U,H⟩,h1 with
 | (.ok x,j),⟨a',o,z⟩=>
  cases u:j.dt with
  | false=>exact .inl ⟨x,j.b,a',oB y u,o.gr,z,o.dt u,o.view⟩
  | true=>
   have r:j.bits=Y a'.B:=by
    rcases o.bits with r|⟨_,r,_⟩
    .exact r
    .rw [u] at r;cases r
   have e:ki j.b.err 0 (j.bits.getD [])=0:=by
    unfold ki;rw [o.gr.err,if_neg (by simp),r];simp [o.len]
   have e2:bL 0 (j.bits.getD []) j=(.ok (),{ j with b:={ j.b with W:=SL.fA j.b.W 0 (j.bits.getD []) } }):=if_pos e;refine .inl ⟨x,_,a',qo y u e2,⟨o.gr.err,o.gr.inv,fun k L v h'=>?_,o.gr.rd,fun p hp=>(ud hp).elim (fun e=>by rw [e];exact ⟨by omega,by omega⟩) (o.gr.keys p)⟩,z,?_,fun k v b0=>?_⟩
   .have t:aM (SL.fA j.b.W ((0:Nat):Int) (j.bits.getD [])) (k:Int)=Y L:=h'
    rw [mX] at t
    split at t
    .cases t;rw [r];exact o.len
    .exact o.gr.wr k L v t
   .have:=um V0 j.b.W 0 (j.bits.getD []) 0
    rw [if_pos rfl,r] at this;rw [r];exact this
   .have:=um V0 j.b.W 0 (j.bits.getD []) k
    rw [if_neg (by omega)] at this;exact this.trans (o.view k v b0)
 | (.bad c,j),o=>exact .inr ⟨c,j.b.s,kZ y,o.1,o.2⟩
end
theorem JF (x:Int) (j:List Int):jF (x :: j)=du x 2++jF j:=rfl
theorem Cc (l:List UInt8) (o m:Nat):bO l o (m+1)=iF (l.drop o) 2 :: bO l (o+2) m:=by
 simp only [bO,List.range_succ_eq_map,List.map_cons,List.map_map];congr 1;apply List.map_congr_left;intro i _;simp only [Function.comp,Nat.mul_succ];congr 2;omega
theorem vU (j:List Int):∀ (o rest:List UInt8),j.all cZ=Q->bO (o++(jF j++rest)) o.length j.length=j:=by
 induction j with
 | nil=>intro o rest _;rfl
 | cons x j r=>
  intro o rest h;simp only [List.all_cons,N2] at h;rw [List.length_cons,Cc,List.drop_left,JF,K3,mm x 2 _ 2 (D2 _)];have t:=jg h.1;have e:x%(256:Int) ^ 2=x:=by rw [show (256:Int) ^ 2=65536 by decide];omega
  rw [e];congr 1;have:=r (o++du x 2) rest h.2;rw [V3,bk,K3] at this;exact this
theorem KJ {n:Nd} (j:n.dr.length=16):iH n=du n.kd 1++(du n.lk 2++(du n.sz 4++(jF n.dr++(du n.rw 2++zs 439)))):=by
 unfold iH PQ bT;have o:(jF [n.rw])=du n.rw 2:=by simp [jF]
 rw [o];have r:(du n.kd 1++du n.lk 2++du n.sz 4++jF n.dr++du n.rw 2).length=41:=by simp [bk,iM,j]
 rw [List.take_append,r,List.take_of_length_le (by omega)];have t:(zs 480).take (480-41)=zs 439:=by unfold zs;rw [List.take_replicate];exact congrArg (fun m=>L2 m 0) (by decide)
 rw [t];simp only [K3]
theorem MU {n:Nd} (o:n.dr.length=16) (v:n.ok=Q):kp (iH n)=(n,0):=by
 have hf:=Nd.qq v;obtain ⟨hk,l0,l1,s0,s1,hd,hr,-,-⟩:=hf;have b0:=jg hr;rw [KJ o];obtain ⟨kd,lk,sz,dr,j⟩:=n;dsimp only at *
 have e1:iF (du kd 1++(du lk 2++(du sz 4++(jF dr++(du j 2++zs 439))))) 1=kd:=by
  rw [mm kd 1 _ 1 (D2 _),show (256:Int) ^ 1=256 by decide];omega
 have r:(du kd 1++(du lk 2++(du sz 4++(jF dr++(du j 2++zs 439))))).drop 1=du lk 2++(du sz 4++(jF dr++(du j 2++zs 439))):=Y2 (bk _ _)
 have t:(du kd 1++(du lk 2++(du sz 4++(jF dr++(du j 2++zs 439))))).drop 3=du sz 4++(jF dr++(du j 2++zs 439)):=by
  rw [show 3=1+2 from rfl,<- L3,r];exact Y2 (bk _ _)
 have T:(du kd 1++(du lk 2++(du sz 4++(jF dr++(du j 2++zs 439))))).drop 7=jF dr++(du j 2++zs 439):=by
  rw [show 7=3+4 from rfl,<- L3,t];exact Y2 (bk _ _)
 have u:(du kd 1++(du lk 2++(du sz 4++(jF dr++(du j 2++zs 439))))).drop 39=du j 2++zs 439:=by
  rw [show 39=7+32 from rfl,<- L3,T];exact Y2 (by rw [iM,o])
 have L:(du kd 1++(du lk 2++(du sz 4++(jF dr++(du j 2++zs 439))))).drop 41=zs 439:=by
  rw [show 41=39+2 from rfl,<- L3,u];exact Y2 (bk _ _)
 have hp:bO (du kd 1++(du lk 2++(du sz 4++(jF dr++(du j 2++zs 439))))) 7 16=dr:=by
  have:=vU dr (du kd 1++(du lk 2++du sz 4)) (du j 2++zs 439) hd;rw [o] at this;have e:(du kd 1++(du lk 2++du sz 4)).length=7:=by simp [bk]
  rw [e] at this;simpa only [K3] using this
 have hn:iA (du kd 1++(du lk 2++(du sz 4++(jF dr++(du j 2++zs 439)))))=⟨kd,lk,sz,dr,j⟩:=by
  unfold iA;rw [e1,r,t,u,hp,mm lk 2 _ 2 (D2 _),mm sz 4 _ 4 (D2 _),mm j 2 _ 2 (D2 _)];have y:lk%(256:Int) ^ 2=lk:=by rw [show (256:Int) ^ 2=65536 by decide];omega
  have z:sz%(256:Int) ^ 4=sz:=by rw [show (256:Int) ^ 4=4294967296 by decide];omega
  have a3:j%(256:Int) ^ 2=j:=by rw [show (256:Int) ^ 2=65536 by decide];omega
  rw [y,z,a3]
 unfold kp;rw [hn,L,v];have hz:(zs 439).all (· == 0)=Q:=List.all_eq_true.2 fun x hx=>by rw [List.eq_of_mem_replicate hx];rfl
 rw [hz]
 rfl
theorem MD {l:List Int} (h:l.length=240) (j:l.all cZ=Q):lf (jF l)=(l,0):=by
 have:=vU l [] [] j;simp only [List.nil_append,List.append_nil,List.length_nil,h] at this;unfold lf;rw [this,j]
 rfl
abbrev Own:=Nat × Nat × Nat
abbrev mI:Own:=(0,0,0)
abbrev JC:Own:=(1,0,0)
abbrev PF:Own:=(2,0,0)
abbrev Jc (id:Nat):Own:=(3,id,0)
abbrev EB (id i:Nat):Own:=(4,id,i)
def dp {α:Type} (f:Nat->α) (k:Nat) (x:α):Nat->α:=fun b=>if b=k then x else f b
theorem bA {α:Type} (f:Nat->α) (k:Nat) (x:α):dp f k x k=x:=if_pos rfl
theorem aJ {α:Type} (f:Nat->α) {k b:Nat} (x:α) (h:b≠k):dp f k x b=f b:=if_neg h
def wE (own:Nat->Own) (n:Nat):Nat:=(H2 n).countP fun b=>own b == mI
theorem qg (own:Nat->Own) (n:Nat):wE own (n+1)=wE own n+if own n=mI then 1 else 0:=by
 unfold wE;rw [W3,Z2];simp [X3]
theorem IH {own own':Nat->Own} {n:Nat} (h:∀ b,b<n->own b=own' b):wE own n=wE own' n:=by
 unfold wE;apply Y3;intro b j;rw [h b (List.mem_range.1 j)]
theorem lO {own:Nat->Own} {k:Nat} {x:Own}:∀ {n:Nat},k<n->wE (dp own k x) n+(if own k=mI then 1 else 0)=wE own n+if x=mI then 1 else 0
 | n+1,h=>by
  rw [qg,qg]
  by_cases j:k=n
  .subst j
   rw [bA,IH (own:=dp own k x) (own':=own) fun b o=>aJ _ _ (by omega)];omega
  .have:=lO (own:=own) (x:=x) (show k<n by omega)
   rw [aJ _ _ (by omega:n≠k)];omega
structure Bm (n:Nat) (own:Nat->Own) (B:List UInt8):Prop where
 len:B.length=480
 bit:∀ b,b<n->(dU B b=true↔own b≠mI)
theorem Bm.set {n:Nat} {own:Nat->Own} {B:List UInt8} (h:Bm n own B) (hn:n<=3840) {k:Nat} (u:k<n) (x:Own) (t:Bool) (r:t=Q↔x≠mI):Bm n (dp own k x) (dY B k t):=by
 refine ⟨by rw [fg];exact h.len,fun b o=>?_⟩;rw [yg (by rw [h.len];omega)]
 by_cases j:b=k
 .subst j;rw [if_pos rfl,bA];exact r
 .rw [if_neg j,aJ _ _ j];exact h.bit b o
theorem Bm.rG {n:Nat} {own:Nat->Own} {B:List UInt8} (h:Bm n own B) {k:Nat} (j:eZ B n=Y k):k<n/\own k=mI:=by
 unfold eZ at j;have u:=List.mem_of_find?_eq_some j;have o:=List.find?_some j;have t:=List.mem_range.1 u;refine ⟨t,?_⟩;have:=(h.bit k t)
 by_cases r:own k=mI
 .exact r
 .have v:=this.2 r
  rw [v] at o;simp at o
theorem Bm.ie {n:Nat} {own:Nat->Own} {B:List UInt8} (h:Bm n own B) (j:eZ B n=U):wE own n=0:=by
 unfold eZ at j;rw [List.find?_eq_none] at j;unfold wE;rw [P3];intro b r v;have z:=List.mem_range.1 r;have o:=j b r;have t:own b=mI:=by simpa using v
 have u:=(h.bit b z)
 have h4:dU B b=Q:=by
  cases y:dU B b with
  | true=>rfl
  | false=>rw [y] at o;simp at o
 exact u.1 h4 t
theorem Bm.left {n:Nat} {own:Nat->Own} {B:List UInt8} (h:Bm n own B):n-(dg B n).length=wE own n:=by
 have r:∀ m,m<=n->(dg B m).length+wE own m=m:=by
  intro m
  induction m with
  | zero=>intro _;rfl
  | succ m u=>
   intro v;have:=u (by omega);rw [na,qg];have o:=h.bit m (by omega)
   by_cases j:own m=mI
   .rw [if_neg (fun t=>o.1 t j),if_pos j];omega
   .rw [if_pos (o.2 j),if_neg j,V3];simp;omega
 have:=r n (D2 _);omega
structure Hd.Ok (n id:Nat) (h:Hd):Prop where
 fit:h.fit
 id:h.id=id
 kd:h.n.kd=1\/h.n.kd=2
 Gq:0<=h.n.lk
 Jd:h.n.lk<=65535
 Je:0<=h.n.sz
 Np:h.n.sz<=122880
 xH:0<=h.n.rw
 zI:h.n.rw<n
 pg:∀ i,i<256->0<=h.aL i/\h.aL i<n
 rz:h.n.rw=0->∀ i,16<=i->i<256->h.aL i=0
def eo (N:Nat->Option Hd) (b id:Nat):Prop:=∃ h,N id=Y h/\h.n.rw=(b:Int)/\b≠0
def eu (N:Nat->Option Hd) (b id i:Nat):Prop:=∃ h,N id=Y h/\i<256/\h.aL i=(b:Int)/\b≠0
structure jl (n:Nat) (own:Nat->Own) (N:Nat->Option Hd):Prop where
 bm:∀ b,own b=JC↔b=0
 out:∀ b,n<=b->own b=mI
 ok:∀ id h,N id=some h->0<id/\id<n/\h.Ok n id
 nd:∀ b,own b=PF↔(N b).isSome=true
 rw:∀ b id,own b=Jc id↔eo N b id
 pg:∀ b id i,own b=EB id i↔eu N b id i
section
variable {n id k i:Nat} {own:Nat->Own} {N:Nat->Option Hd} {h h':Hd}
theorem jl.tq (L:jl n own N) (hN:N id=Y h):own id=PF:=(L.nd id).2 (by rw [hN];rfl)
theorem jl.ui (L:jl n own N) (hN:N id=Y h) (h0:h.n.rw≠0):own h.n.rw.toNat=Jc id:=by
 have:=(L.ok id h hN).2.2.xH;exact (L.rw _ _).2 ⟨h,hN,by omega,by omega⟩
theorem jl.z8 (L:jl n own N) (hN:N id=Y h) (hi:i<256) (h0:h.aL i≠0):own (h.aL i).toNat=EB id i:=by
 have:=((L.ok id h hN).2.2.pg i hi).1;exact (L.pg _ _ _).2 ⟨h,hN,hi,by omega,by omega⟩
theorem jl.zero (L:jl n own N):own 0=JC:=(L.bm 0).2 rfl
theorem jl.jx (L:jl n own N) (j:own k=mI):k≠0:=by rintro rfl;rw [L.zero] at j;cases j
theorem jl.ie (L:jl n own N) (j:own k=mI):N k=U:=by
 cases hN:N k with
 | none=>rfl
 | some h=>have:=L.tq hN;rw [j] at this;cases this
theorem jl.fA (L:jl n own N) {x:Own} {o:Nat->Option Hd} (t:k≠0) (d0:k<n) (hx:x≠JC) (y:∀ id h,o id=Y h->0<id/\id<n/\h.Ok n id)
  (u:∀ b,b≠k->(o b).isSome=(N b).isSome) (v:x=PF↔(o k).isSome=Q)
  (c0:∀ b id,b≠k->(eo o b id↔eo N b id)) (b0:∀ id,x=Jc id↔eo o k id)
  (z:∀ b id i,b≠k->(eu o b id i↔eu N b id i)) (T:∀ id i,x=EB id i↔eu o k id i):jl n (dp own k x) o:=by
 refine ⟨fun b=>?_,fun b r=>?_,y,fun b=>?_,fun b id=>?_,fun b id i=>?_⟩
 .by_cases j:b=k
  .subst j;rw [bA];exact ⟨fun h=>absurd h hx,fun h=>absurd h t⟩
  .rw [aJ _ _ j];exact L.bm b
 .rw [aJ _ _ (by omega)];exact L.out b r
 .by_cases j:b=k
  .subst j;rw [bA];exact v
  .rw [aJ _ _ j,u b j];exact L.nd b
 .by_cases j:b=k
  .subst j;rw [bA];exact b0 id
  .rw [aJ _ _ j,c0 b id j];exact L.rw b id
 .by_cases j:b=k
  .subst j;rw [bA];exact T id i
  .rw [aJ _ _ j,z b id i j];exact L.pg b id i
theorem rh {N:Nat->Option Hd} {o:Option Hd} {id id':Nat} {g:Hd} (h:dp N id o id'=Y g):(id'=id/\o=Y g)\/(id'≠id/\N id'=Y g):=by
 by_cases e:id'=id
 .subst e;rw [bA] at h;exact .inl ⟨rfl,h⟩
 .rw [aJ _ _ e] at h;exact .inr ⟨e,h⟩
theorem gh {N:Nat->Option Hd} {id b:Nat} (hN:N id=Y h):(dp N id (Y h') b).isSome=(N b).isSome:=by
 by_cases e:b=id
 .subst e;rw [bA,hN];rfl
 .rw [aJ _ _ e]
theorem lH (hN:N id=Y h) {b id':Nat} (r:b≠0->(h'.n.rw=(b:Int)↔h.n.rw=(b:Int))):eo (dp N id (Y h')) b id'↔eo N b id':=by
 by_cases e:id'=id
 .subst e
  unfold eo;rw [bA,hN];constructor
  .rintro ⟨g,e,o,j⟩;cases e;exact ⟨h,rfl,(r j).1 o,j⟩
  .rintro ⟨g,e,o,j⟩;cases e;exact ⟨h',rfl,(r j).2 o,j⟩
 .unfold eo;rw [aJ _ _ e]
theorem lB (hN:N id=Y h) {b id' j:Nat} (u:j<256->b≠0->(h'.aL j=(b:Int)↔h.aL j=(b:Int))):eu (dp N id (Y h')) b id' j↔eu N b id' j:=by
 by_cases e:id'=id
 .subst e
  unfold eu;rw [bA,hN];constructor
  .rintro ⟨g,e,r,t,o⟩;cases e;exact ⟨h,rfl,r,(u r o).1 t,o⟩
  .rintro ⟨g,e,r,t,o⟩;cases e;exact ⟨h',rfl,r,(u r o).2 t,o⟩
 .unfold eu;rw [aJ _ _ e]
theorem jl.JU (L:jl n own N) (hN:N id=Y h) (o:h'.Ok n id):∀ id' g,dp N id (Y h') id'=Y g->0<id'/\id'<n/\g.Ok n id':=by
 intro id' g j;rcases rh j with ⟨rfl,e⟩|⟨_,e⟩
 .cases e;exact ⟨(L.ok _ _ hN).1,(L.ok _ _ hN).2.1,o⟩
 .exact L.ok _ _ e
theorem jl.AS (L:jl n own N) {x:Own} (j:own k=x) (o:∀ id,x≠Jc id):∀ id,¬ eo N k id:=fun id h=>o id (j.symm.trans ((L.rw k id).2 h))
theorem jl.xS (L:jl n own N) {x:Own} (j:own k=x) (o:∀ id i,x≠EB id i):∀ id i,¬ eu N k id i:=fun id i h=>o id i (j.symm.trans ((L.pg k id i).2 h))
theorem jl.new (L:jl n own N) (o:own k=mI) (t:k<n) (T:h'.Ok n k) (hp:∀ i,i<256->h'.aL i=0) (hr:h'.n.rw=0):jl n (dp own k PF) (dp N k (Y h')):=by
 have hN:=L.ie o;have z:=L.jx o
 have hR:∀ b id,eo (dp N k (Y h')) b id↔eo N b id:=by
  intro b id
  by_cases e:id=k
  .subst e
   unfold eo;rw [bA,hN];constructor
   .rintro ⟨g,e,j,u⟩;cases e;rw [hr] at j;exact absurd j (by omega)
   .rintro ⟨g,e,_⟩;cases e
  .unfold eo;rw [aJ _ _ e]
 have r:∀ b id i,eu (dp N k (Y h')) b id i↔eu N b id i:=by
  intro b id i
  by_cases e:id=k
  .subst e
   unfold eu;rw [bA,hN];constructor
   .rintro ⟨g,e,hi,j,u⟩;cases e;rw [hp i hi] at j;exact absurd j (by omega)
   .rintro ⟨g,e,_⟩;cases e
  .unfold eu;rw [aJ _ _ e]
 refine L.fA z t (by decide) ?_ (fun b v=>by rw [aJ _ _ v]) (by rw [bA];simp) (fun b id _=>hR b id) (fun id=>?_) (fun b id i _=>r b id i) (fun id i=>?_)
 .intro id g y
  rcases rh y with ⟨rfl,e⟩|⟨_,e⟩
  .cases e;exact ⟨by omega,t,T⟩
  .exact L.ok _ _ e
 .rw [hR]
  exact ⟨fun h=>absurd h (by simp),fun h=>absurd h (L.AS o (by simp) id)⟩
 .rw [r]
  exact ⟨fun h=>absurd h (by simp),fun h=>absurd h (L.xS o (by simp) id i)⟩
theorem jl.aL (L:jl n own N) (hN:N id=Y h) (t:own k=mI) (e0:k<n) (hi:i<256) (h0:h.aL i=0) (hr:16<=i->h.n.rw≠0):jl n (dp own k (EB id i)) (dp N id (Y (h.put i (k:Int)))):=by
 have c0:=L.jx t;have o:=(L.ok _ _ hN).2.2;have u:=fun j=>Hd.jd o.fit hi (k:Int) j;have hR:∀ b id',eo (dp N id (Y (h.put i (k:Int)))) b id'↔eo N b id':=fun b id'=>lH hN (by rw [Hd.gO];exact fun _=>Iff.rfl);refine L.fA c0 e0 (by simp) (L.JU hN ?_) (fun b _=>gh hN) ?_ (fun b id _=>hR b id) (fun id'=>?_) (fun b id' j hb=>lB hN fun v=>?_) (fun id' j=>?_)
 .refine ⟨Hd.tO o.fit _ _,by rw [Hd.M4];exact o.id,?_,?_,?_,?_,?_,by rw [Hd.gO];exact o.xH,by rw [Hd.gO];exact o.zI,fun j v=>?_,fun r j b0 d0=>?_⟩
  .unfold Hd.put;split <;> exact o.kd
  .unfold Hd.put;split <;> exact o.Gq
  .unfold Hd.put;split <;> exact o.Jd
  .rw [Hd.yW];exact o.Je
  .rw [Hd.yW];exact o.Np
  .rw [u];split
   .exact ⟨by omega,by omega⟩
   .exact o.pg j v
  .rw [Hd.gO] at r
   rw [u,if_neg (by rintro rfl;exact hr b0 r)];exact o.rz r j b0 d0
 .have:(N k)=U:=L.ie t
  rw [gh hN,this];simp
 .rw [hR];exact ⟨fun h=>absurd h (by simp),fun h=>absurd h (L.AS t (by simp) id')⟩
 .rw [u]
  intro f0
  split
  .rename_i e;subst e;rw [h0]
   exact ⟨fun h=>absurd (by omega) hb,fun h=>absurd h.symm (by omega)⟩
  .exact Iff.rfl
 .by_cases e:id'=id
  .subst e
   by_cases z:j=i
   .subst z
    exact ⟨fun _=>⟨_,bA _ _ _,hi,by rw [u,if_pos rfl],c0⟩,fun _=>rfl⟩
   .refine ⟨fun h=>absurd h (by simp;omega),fun r=>?_⟩
    obtain ⟨g,e,v,T,h2⟩:=r;rw [bA] at e;cases e
    rw [u,if_neg z] at T;exact absurd ⟨h,hN,v,T,h2⟩ (L.xS t (by simp) _ _)
  .refine ⟨fun h=>absurd h (by simp;omega),fun r=>?_⟩
   obtain ⟨g,y,r⟩:=r;rw [aJ _ _ e] at y;exact absurd ⟨g,y,r⟩ (L.xS t (by simp) _ _)
theorem jl.row (L:jl n own N) (hN:N id=Y h) (t:own k=mI) (z:k<n) (h0:h.n.rw=0):jl n (dp own k (Jc id)) (dp N id (Y (h.dw (k:Int)))):=by
 have y:=L.jx t;have o:=(L.ok _ _ hN).2.2;have v:∀ b id' j,eu (dp N id (Y (h.dw (k:Int)))) b id' j↔eu N b id' j:=fun b id' j=>lB hN fun _ _=>Iff.rfl;refine L.fA y z (by simp) (L.JU hN ?_) (fun b _=>gh hN) ?_ (fun b id' T=>lH hN fun b0=>?_) (fun id'=>?_) (fun b id i _=>v b id i) (fun id' j=>?_)
 .exact ⟨o.fit,o.id,o.kd,o.Gq,o.Jd,o.Je,o.Np,show 0<=(k:Int) by omega,show (k:Int)<n by omega,o.pg,fun r=>absurd (show (k:Int)=0 from r) (by omega)⟩
 .rw [gh hN,L.ie t];simp
 .rw [h0];show (k:Int)=b↔_;constructor <;> intro r <;> omega
 .by_cases e:id'=id
  .subst e
   exact ⟨fun _=>⟨_,bA _ _ _,rfl,y⟩,fun _=>rfl⟩
  .refine ⟨fun h=>absurd h (by simp;omega),fun r=>?_⟩
   obtain ⟨g,u,r⟩:=r;rw [aJ _ _ e] at u;exact absurd ⟨g,u,r⟩ (L.AS t (by simp) _)
 .rw [v];exact ⟨fun h=>absurd h (by simp),fun h=>absurd h (L.xS t (by simp) id' j)⟩
theorem jl.RL (L:jl n own N) (hN:N id=Y h) (hi:i<256) (h0:h.aL i≠0):jl n (dp own (h.aL i).toNat mI) (dp N id (Y (h.put i 0))):=by
 have o:=(L.ok _ _ hN).2.2;have hp:=o.pg i hi;obtain ⟨k,T⟩:∃ k:Nat,h.aL i=(k:Int):=⟨(h.aL i).toNat,by omega⟩
 have u:=L.z8 hN hi h0;rw [T,J2] at u ⊢;have d0:k≠0:=by omega
 have y:=fun j=>Hd.jd o.fit hi 0 j;have hR:∀ b id',eo (dp N id (Y (h.put i 0))) b id'↔eo N b id':=fun b id'=>lH hN (by rw [Hd.gO];exact fun _=>Iff.rfl);refine L.fA d0 (by omega) (by decide) (L.JU hN ?_) (fun b _=>gh hN) ?_ (fun b id _=>hR b id) (fun id'=>?_) (fun b id' j hb=>?_) (fun id' j=>?_)
 .refine ⟨Hd.tO o.fit _ _,by rw [Hd.M4];exact o.id,?_,?_,?_,?_,?_,by rw [Hd.gO];exact o.xH,by rw [Hd.gO];exact o.zI,fun j t=>?_,fun r j b0 c0=>?_⟩
  .unfold Hd.put;split <;> exact o.kd
  .unfold Hd.put;split <;> exact o.Gq
  .unfold Hd.put;split <;> exact o.Jd
  .rw [Hd.yW];exact o.Je
  .rw [Hd.yW];exact o.Np
  .rw [y];split
   .exact ⟨by omega,by omega⟩
   .exact o.pg j t
  .rw [Hd.gO] at r
   rw [y];split
   .rfl
   .exact o.rz r j b0 c0
 .rw [gh hN]
  refine ⟨fun h=>absurd h (by simp),fun r=>?_⟩;have:=(L.nd k).2 r;rw [u] at this;cases this
 .rw [hR];exact ⟨fun h=>absurd h (by simp),fun h=>absurd h (L.AS u (by simp) id')⟩
 .by_cases e:id'=id
  .subst e
   refine lB hN fun t e0=>?_;rw [y]
   split
   .rename_i e;subst e;rw [T]
    constructor <;> intro r <;> omega
   .exact Iff.rfl
  .unfold eu;rw [aJ _ _ e]
 .refine ⟨fun h=>absurd h (by simp),fun r=>?_⟩
  obtain ⟨g,e,t,v,z⟩:=r;rcases rh e with ⟨rfl,e2⟩|⟨e1,e⟩
  .cases e2
   rw [y] at v
   split at v
   .omega
   .have:=(L.pg k id' j).2 ⟨h,hN,t,v,z⟩
    rw [u] at this;simp at this;omega
  .have:=(L.pg k id' j).2 ⟨g,e,t,v,z⟩
   rw [u] at this;simp at this;omega
theorem jl.TI (L:jl n own N) (hN:N id=Y h) (h0:h.n.rw≠0) (hz:∀ i,16<=i->i<256->h.aL i=0):jl n (dp own h.n.rw.toNat mI) (dp N id (Y (h.dw 0))):=by
 have o:=(L.ok _ _ hN).2.2;have d0:=o.xH;have e0:=o.zI;obtain ⟨k,y⟩:∃ k:Nat,h.n.rw=(k:Int):=⟨h.n.rw.toNat,by omega⟩
 have t:=L.ui hN h0;rw [y,J2] at t ⊢;have b0:k≠0:=by omega
 have v:∀ b id' j,eu (dp N id (Y (h.dw 0))) b id' j↔eu N b id' j:=fun b id' j=>lB hN fun _ _=>Iff.rfl;refine L.fA b0 (by omega) (by decide) (L.JU hN ?_) (fun b _=>gh hN) ?_ (fun b id' hb=>?_) (fun id'=>?_) (fun b id i _=>v b id i) (fun id' j=>?_)
 .exact ⟨o.fit,o.id,o.kd,o.Gq,o.Jd,o.Je,o.Np,Int.le_refl _,show (0:Int)<n by omega,o.pg,fun _=>hz⟩
 .rw [gh hN]
  refine ⟨fun h=>absurd h (by simp),fun r=>?_⟩;have:=(L.nd k).2 r;rw [t] at this;cases this
 .by_cases e:id'=id
  .subst e
   refine lH hN fun c0=>?_;rw [y];show (0:Int)=b↔_;constructor <;> intro r <;> omega
  .unfold eo;rw [aJ _ _ e]
 .refine ⟨fun h=>absurd h (by simp),fun r=>?_⟩
  obtain ⟨g,e,u,T⟩:=r;rcases rh e with ⟨rfl,z⟩|⟨e1,e⟩
  .cases z
   exact absurd (show (0:Int)=k from u) (by omega)
  .have:=(L.rw k id').2 ⟨g,e,u,T⟩
   rw [t] at this;simp at this;omega
 .rw [v];exact ⟨fun h=>absurd h (by simp),fun h=>absurd h (L.xS t (by simp) id' j)⟩
theorem jl.gone (L:jl n own N) (hN:N id=Y h) (h0:h.n.rw=0) (hz:∀ i,i<256->h.aL i=0):jl n (dp own id mI) (dp N id U):=by
 have T:=(L.ok _ _ hN)
 have t:=L.tq hN
 have hR:∀ b id',eo (dp N id U) b id'↔eo N b id':=by
  intro b id'
  by_cases e:id'=id
  .subst e
   unfold eo;rw [bA,hN];constructor
   .rintro ⟨g,e,_⟩;cases e
   .rintro ⟨g,e,o,u⟩;cases e;rw [h0] at o;exact absurd o (by omega)
  .unfold eo;rw [aJ _ _ e]
 have r:∀ b id' j,eu (dp N id U) b id' j↔eu N b id' j:=by
  intro b id' j
  by_cases e:id'=id
  .subst e
   unfold eu;rw [bA,hN];constructor
   .rintro ⟨g,e,_⟩;cases e
   .rintro ⟨g,e,z,o,u⟩;cases e;rw [hz j z] at o;exact absurd o (by omega)
  .unfold eu;rw [aJ _ _ e]
 refine L.fA (by omega) T.2.1 (by decide) ?_ (fun b v=>by rw [aJ _ _ v]) (by rw [bA];simp) (fun b id _=>hR b id) (fun id'=>?_) (fun b id' j _=>r b id' j) (fun id' j=>?_)
 .intro id' g y
  rcases rh y with ⟨rfl,e⟩|⟨_,e⟩
  .cases e
  .exact L.ok _ _ e
 .rw [hR];exact ⟨fun h=>absurd h (by simp),fun h=>absurd h (L.AS t (by simp) id')⟩
 .rw [r];exact ⟨fun h=>absurd h (by simp),fun h=>absurd h (L.xS t (by simp) id' j)⟩
theorem jl.set (L:jl n own N) (hN:N id=Y h) (r:h'.Ok n id) (hr:h'.n.rw=h.n.rw) (t:∀ i,i<256->h'.aL i=h.aL i):jl n own (dp N id (Y h')):=by
 refine ⟨L.bm,L.out,L.JU hN r,fun b=>?_,fun b id'=>?_,fun b id' j=>?_⟩
 .rw [gh hN];exact L.nd b
 .rw [lH hN fun _=>by rw [hr]];exact L.rw b id'
 .rw [lB hN fun o _=>by rw [t j o]];exact L.pg b id' j
end
def jo (V:Nat->List UInt8) (h:Hd) (p:Nat):UInt8:=if h.aL (p/480)=0 then 0 else (V (h.aL (p/480)).toNat).getD (p%480) 0
structure xN (V:Nat->List UInt8) (h:Hd):Prop where
 dec:kp (V h.id)=(h.n,0)
 row:h.n.rw≠0->lf (V h.n.rw.toNat)=(h.row,0)
structure Hd.Fin (h:Hd):Prop where
 hi:∀ i:Nat,i<256->aY h.n.sz<=i->h.aL i=0
 SA:h.n.rw≠0->∃ i,16<=i/\i<256/\h.aL i≠0
def z7 (V:Nat->List UInt8) (h:Hd):Prop:=∀ p:Nat,p<122880->h.n.sz<=p->jo V h p=0
structure ta (n:Nat) (a:Aw) (own:Nat->Own) (N:Nat->Option Hd) (id:Nat):Prop where
 lay:jl n own N
 bm:Bm n own a.B
 len:∀ b,0<b->b<n->(a.V b).length=480
 rest:∀ id' h,id'≠id->N id'=some h->h.Fin/\xN a.V h/\z7 a.V h
section
variable {n id k i:Nat} {own:Nat->Own} {N:Nat->Option Hd} {h h':Hd} {a:Aw} {V V':Nat->List UInt8}
theorem jl.U2 (L:jl n own N):N 0=U:=by
 cases hN:N 0 with
 | none=>rfl
 | some h=>exact absurd (L.ok 0 h hN).1 (by omega)
theorem ke (V:Nat->List UInt8) (k:Nat) (l:List UInt8):zH V k l k=l:=if_pos rfl
theorem fH (V:Nat->List UInt8) {k b:Nat} (l:List UInt8) (h:b≠k):zH V k l b=V b:=if_neg h
theorem xN.frame (L:jl n own N) (hN:N id=Y h) (o:xN V h) (j:∀ b,b=id\/own b=Jc id->V' b=V b):xN V' h:=by
 have r:=(L.ok _ _ hN).2.2;refine ⟨?_,fun h0=>?_⟩
 .rw [j _ (.inl r.id)];exact o.dec
 .rw [j _ (.inr (L.ui hN h0))];exact o.row h0
theorem nZ (L:jl n own N) (hN:N id=Y h) (j:∀ b i,own b=EB id i->V' b=V b) {p:Nat} (o:p<122880):jo V' h p=jo V h p:=by
 unfold jo
 split
 .rfl
 .rename_i h0
  rw [j _ _ (L.z8 hN (by omega) h0)]
theorem z7.frame (L:jl n own N) (hN:N id=Y h) (t:z7 V h) (r:∀ b i,own b=EB id i->V' b=V b):z7 V' h:=fun p j o=>by
 rw [nZ L hN r j];exact t p j o
def GH (own:Nat->Own) (id k:Nat):Prop:=own k=mI\/(own k=PF/\k=id)\/own k=Jc id\/∃ i,own k=EB id i
theorem vP {id':Nat} (L:jl n own N) (hN:N id'=Y h) (u:id'≠id) (t:GH own id k):k≠id'/\own k≠Jc id'/\∀ i,own k≠EB id' i:=by
 have:=L.tq hN;refine ⟨?_,?_,?_⟩
 .rintro rfl
  rcases t with o|⟨_,o⟩|o|⟨i,o⟩
  .rw [this] at o;cases o
  .exact u o
  .rw [this] at o;cases o
  .rw [this] at o;cases o
 .intro r
  rcases t with o|⟨o,_⟩|o|⟨i,o⟩
  .rw [r] at o;cases o
  .rw [r] at o;cases o
  .rw [r] at o;simp at o;exact u o
  .rw [r] at o;cases o
 .intro j r
  rcases t with o|⟨o,_⟩|o|⟨i,o⟩
  .rw [r] at o;cases o
  .rw [r] at o;cases o
  .rw [r] at o;cases o
  .rw [r] at o;simp at o;exact u o.1
theorem ta.PE (S:ta n a own N id) {id':Nat} (r:id'≠id) (hN:N id'=Y h) (t:∀ b,¬ GH own id b->V' b=a.V b):h.Fin/\xN V' h/\z7 V' h:=by
 obtain ⟨u,v,y⟩:=S.rest id' h r hN;refine ⟨u,v.frame S.lay hN fun b j=>t b fun o=>?_,y.frame S.lay hN fun b i j=>t b fun o=>?_⟩
 .have:=vP S.lay hN r o
  rcases j with rfl|j
  .exact this.1 rfl
  .exact this.2.1 j
 .exact (vP S.lay hN r o).2.2 i j
theorem xT (L:jl n own N) {id':Nat} (t:id'≠id) (hN:N id'=Y h) (j:∀ b,¬ GH own id b->V' b=V b) {p:Nat} (u:p<122880):jo V' h p=jo V h p:=
 nZ L hN (fun b i o=>j b fun r=>(vP L hN t r).2.2 i o) u
theorem ta.fw (S:ta n a own N 0) (id:Nat):ta n a own N id:=⟨S.lay,S.bm,S.len,fun id' h j hN=>S.rest id' h (by rintro rfl;rw [S.lay.U2] at hN;cases hN) hN⟩
theorem ta.write (S:ta n a own N id) (o:GH own id k) {l:List UInt8} (r:l.length=480):ta n { a with V:=zH a.V k l } own N id:=by
 refine ⟨S.lay,S.bm,fun b h0 j=>?_,fun id' h u hN=>S.PE u hN fun b t=>fH _ _ (by rintro rfl;exact t o)⟩
 by_cases e:b=k
 .subst e;show (zH a.V b l b).length=480;rw [ke];exact r
 .show (zH a.V k l b).length=480;rw [fH _ _ e];exact S.len b h0 j
theorem ta.step (S:ta n a own N id) {o:Nat->Own} {j:Nat->Option Hd} {r:List UInt8} (u:jl n o j) (y:Bm n o r) (hN:∀ id',id'≠id->j id'=N id'):ta n { a with B:=r } o j id:=
 ⟨u,y,S.len,fun id' h t v=>S.rest id' h t ((hN id' t).symm.trans v)⟩
theorem ta.shut (S:ta n a own N id) (j:∀ h,N id=Y h->h.Fin/\xN a.V h/\z7 a.V h):ta n a own N 0:=
 ⟨S.lay,S.bm,S.len,fun id' h _ hN=>by
  by_cases e:id'=id
  .subst e;exact j h hN
  .exact S.rest id' h e hN⟩
theorem Hd.Ok.ok (j:h.Ok n id) (hn:n<=3840) (r:h.Fin):h.n.ok=Q:=by
 have u:∀ i,i<16->h.aL i=h.n.dr.getD i 0:=fun i hi=>by unfold Hd.aL;rw [if_pos hi]
 unfold Nd.ok
 have v:h.n.dr.all cZ=Q:=by
  rw [B3];intro p hp;obtain ⟨i,hi,rfl⟩:=D3 hp;have T:i<16:=by have:=j.fit.1;omega
  have h1:=j.pg i (by omega);have t:=u i T;rw [E2,R2 hi] at t;simp only [Option.getD_some] at t;unfold cZ;simp only [N2,decide_eq_true_eq];omega
 have y:cZ h.n.rw=Q:=by
  have:=j.xH;have:=j.zI;unfold cZ;simp only [N2,decide_eq_true_eq];omega
 have z:(16<aY h.n.sz)\/h.n.rw=0:=by
  by_cases h0:h.n.rw=0
  .exact .inr h0
  .obtain ⟨i,i1,i2,i3⟩:=r.SA h0
   left
   by_cases o:aY h.n.sz<=i
   .exact absurd (r.hi i i2 o) i3
   .omega
 have L:((H2 16).all fun i=>decide ((i:Int)<aY h.n.sz) || decide (h.n.dr.getD i 0=0))=Q:=by
  rw [B3];intro i hi;have hi:=List.mem_range.1 hi;simp only [P2,decide_eq_true_eq]
  by_cases o:aY h.n.sz<=i
  .right;rw [<- u i hi];exact r.hi i (by omega) o
  .left;omega
 rw [v,y,L];have:=j.kd;have:=j.Gq;have:=j.Jd;have:=j.Je;have:=j.Np;simp only [N2,P2,decide_eq_true_eq];exact ⟨⟨⟨⟨⟨⟨⟨⟨j.kd,j.Gq⟩,j.Jd⟩,j.Je⟩,j.Np⟩,trivial⟩,trivial⟩,z⟩,trivial⟩
theorem Hd.Ok.row (o:h.Ok n id) (hn:n<=3840):h.row.all cZ=Q/\h.row.all (fun x=>decide (x<n))=Q:=by
 have r:∀ x ∈ h.row,0<=x/\x<n:=by
  intro x j;obtain ⟨i,hi,rfl⟩:=D3 j;have v:=o.fit.2;have t:=o.pg (16+i) (by omega)
  have u:h.aL (16+i)=h.row[i]:=by
   unfold Hd.aL;rw [if_neg (by omega),show 16+i-16=i by omega,E2,R2 hi];rfl
  omega
 constructor
 .rw [B3];intro x j;have:=r x j;unfold cZ;simp only [N2,decide_eq_true_eq];omega
 .rw [B3];intro x j;have:=r x j;simp only [decide_eq_true_eq];omega
theorem Hd.Ok.dr (j:h.Ok n id):h.n.dr.all (fun x=>decide (x<n))=Q:=by
 rw [B3];intro x o;obtain ⟨i,hi,rfl⟩:=D3 o;have t:=j.fit.1;have r:=j.pg i (by omega)
 have u:h.aL i=h.n.dr[i]:=by
  unfold Hd.aL;rw [if_pos (by omega),E2,R2 hi];rfl
 simp only [decide_eq_true_eq];omega
theorem Hd.Ok.Uy (o:h.Ok n id) (h0:h.n.rw=0):h.row=L2 240 0:=by
 rw [L4];refine ⟨o.fit.2,fun x r=>?_⟩;obtain ⟨i,hi,rfl⟩:=D3 r;have t:=o.fit.2;have j:=o.rz h0 (16+i) (by omega) (by omega);unfold Hd.aL at j;rw [if_neg (by omega),show 16+i-16=i by omega,E2,R2 hi] at j;exact j
end
section
variable {σ:Type} {n id:Nat} {own:Nat->Own} {N:Nat->Option Hd} {h:Hd} {a:Aw} {V0:Nat->List UInt8} {I:σ->Prop} {ask:cI σ} {E:Int->Prop}
theorem aI.within {l:List Int} (j:l.all (fun x=>decide (x<n))=Q):aI n V0 I (eD n l) a (fun _ a'=>a'=a) E:=
 aI.congr (m':=WM.pure ()) (aI.pure rfl) fun st=>by unfold eD WM.pure;rw [if_pos j]
theorem aI.load (hr:pP ask n V0 I) (hn:n<=3840) (S:ta n a own N 0) (hN:N id=Y h):aI n V0 I (fT ask n (id:Int)) a (fun x a'=>x=h/\a'=a) E:=by
 obtain ⟨y,z,j⟩:=S.lay.ok _ _ hN;obtain ⟨T,u,ht⟩:=S.rest id h (by omega) hN
 have r:∀ a,aI n V0 I (iS n id h.n h.row) a (fun x a'=>x=h/\a'=a) E:=by
  intro a;refine (aI.within j.dr).bind fun _ a' e=>?_;subst e;refine (aI.within (j.row hn).2).bind fun _ a' e=>?_;subst e;exact aI.pure ⟨by rw [<- j.id],rfl⟩
 refine aI.congr (m':=WM.bind (cS ask (id:Int)) fun L=>RN (kp L) (kU ask n id)) ?_ fun st=>if_pos ⟨by omega,by omega⟩;refine (aI.read hr y z).bind fun L a' e=>?_;obtain ⟨rfl,-,rfl⟩:=e;have t:=u.dec;rw [j.id] at t;rw [t];refine aI.congr (m':=kU ask n id h.n) ?_ fun st=>if_pos rfl
 by_cases h0:h.n.rw=0
 .refine aI.congr (m':=iS n id h.n h.row) (r _) fun st=>?_
  rw [j.Uy h0];exact if_pos h0
 .have r0:=j.xH
  have r1:=j.zI;obtain ⟨k,v⟩:∃ k:Nat,h.n.rw=(k:Int):=⟨h.n.rw.toNat,by omega⟩
  have o:=u.row h0;refine aI.congr (m':=WM.bind (eD n [h.n.rw]) fun _=>WM.bind (cS ask h.n.rw) fun L=>JE (lf L) (iS n id h.n)) ?_ fun st=>if_neg h0;refine (aI.within (by simp;omega)).bind fun _ a' e=>?_;subst e;rw [v] at o ⊢;refine (aI.read hr (by omega) (by omega)).bind fun L a' e=>?_;obtain ⟨rfl,-,rfl⟩:=e;rw [J2] at o;rw [o];exact (r _).congr fun st=>if_pos rfl
def kV (V:Nat->List UInt8) (h:Hd):Nat->List UInt8:=if h.n.rw=0 then zH V h.id (iH h.n) else zH (zH V h.id (iH h.n)) h.n.rw.toNat (jF h.row)
theorem aI.save (o:0<h.id) (r:h.id<n) (z:h.n.rw<n) (y:0<=h.n.rw) (u:h.n.ok=Q) (v:h.row.all cZ=Q) (j:h.row.length=240):aI n V0 I (dQ h) a (fun _ a'=>a'={ a with V:=kV a.V h }) E:=by
 refine aI.congr (m':=WM.bind (bL (h.id:Int) (iH h.n)) fun _=>MH h) ?_ fun st=>if_pos u;refine (aI.write o r (qL _)).bind fun _ a' e=>?_;subst e
 by_cases h0:h.n.rw=0
 .refine aI.congr (m':=WM.pure ()) (aI.pure ?_) fun st=>if_pos h0
  unfold kV;rw [if_pos h0]
 .obtain ⟨k,t⟩:∃ k:Nat,h.n.rw=(k:Int):=⟨h.n.rw.toNat,by omega⟩
  refine aI.congr (m':=bL h.n.rw (jF h.row)) ?_ fun st=>(if_neg h0).trans (if_pos v);unfold kV;rw [if_neg h0];rw [t,J2];exact aI.write (by omega) (by omega) (by rw [iM,j])
theorem pj {V:Nat->List UInt8} {b:Nat} (j:b≠h.id) (o:h.n.rw≠0->b≠h.n.rw.toNat):kV V h b=V b:=by
 unfold kV
 split
 .exact fH _ _ j
 .rename_i h0;rw [fH _ _ (o h0),fH _ _ j]
theorem ta.saved (S:ta n a own N id) (hn:n<=3840) (hN:N id=Y h) (v:h.Fin) (ht:z7 a.V h):ta n { a with V:=kV a.V h } own N 0/\∀ p,p<122880->jo (kV a.V h) h p=jo a.V h p:=by
 obtain ⟨i0,i1,o⟩:=S.lay.ok _ _ hN;have r:=o.id
 have L:∀ b,¬ GH own id b->kV a.V h b=a.V b:=by
  intro b j;refine pj ?_ fun h0=>?_
  .rintro rfl;exact j (.inr (.inl ⟨by rw [r];exact S.lay.tq hN,r⟩))
  .rintro rfl;exact j (.inr (.inr (.inl (S.lay.ui hN h0))))
 have y:∀ b i,own b=EB id i->kV a.V h b=a.V b:=by
  intro b i j;refine pj ?_ fun h0=>?_
  .rintro rfl;rw [r,S.lay.tq hN] at j;cases j
  .rintro rfl;rw [S.lay.ui hN h0] at j;cases j
 refine ⟨⟨S.lay,S.bm,fun b h0 j=>?_,fun id' g _ t=>?_⟩,fun p T=>nZ S.lay hN y T⟩
 .show (kV a.V h b).length=480
  unfold kV
  have u:(zH a.V h.id (iH h.n) b).length=480:=by
   by_cases e:b=h.id
   .subst e;rw [ke];exact qL _
   .rw [fH _ _ e];exact S.len b h0 j
  split
  .exact u
  .by_cases e:b=h.n.rw.toNat
   .subst e;rw [ke,iM,o.fit.2]
   .rw [fH _ _ e];exact u
 .by_cases e:id'=id
  .subst e
   rw [hN] at t;cases t
   refine ⟨v,⟨?_,fun h0=>?_⟩,ht.frame S.lay hN y⟩
   .show kp (kV a.V h h.id)=_
    have e:kV a.V h h.id=iH h.n:=by
     unfold kV
     split
     .exact ke _ _ _
     .rename_i h0
      rw [fH _ _ ?_,ke];intro z;have:=S.lay.ui hN h0;rw [<- z,r,S.lay.tq hN] at this;cases this
    rw [e];exact MU o.fit.1 (o.ok hn v)
   .show lf (kV a.V h h.n.rw.toNat)=_
    unfold kV;rw [if_neg h0,ke];exact MD o.fit.2 (o.row hn).1
  .exact S.PE e t L
end
structure AF where
 kd:Int
 lk:Int
 sz:Nat
 tF:Nat->UInt8
 pr:Nat->Bool
def dS (h:Hd) (i:Nat):Bool:=decide (i<256) && decide (h.aL i≠0)
def gy (V:Nat->List UInt8) (h:Hd):AF:=⟨h.n.kd,h.n.lk,h.n.sz.toNat,fun p=>if p<122880 then jo V h p else 0,dS h⟩
def jY (pr:Nat->Bool):Nat:=(H2 256).countP pr
def Cy (pr:Nat->Bool):Bool:=(H2 256).any fun i=>decide (16<=i) && pr i
def bE (pr:Nat->Bool):Nat:=1+jY pr+if Cy pr=Q then 1 else 0
def Hd.lJ (h:Hd):Nat:=1+jY (dS h)+if h.n.rw=0 then 0 else 1
theorem gx {pr:Nat->Bool}:Cy pr=Q↔∃ i,16<=i/\i<256/\pr i=Q:=by
 unfold Cy;rw [List.any_eq_true];constructor
 .rintro ⟨i,hi,h⟩
  simp only [N2,decide_eq_true_eq] at h;exact ⟨i,h.1,List.mem_range.1 hi,h.2⟩
 .rintro ⟨i,j,o,r⟩
  exact ⟨i,List.mem_range.2 o,by simp only [N2,decide_eq_true_eq];exact ⟨j,r⟩⟩
theorem pO {p q:Nat->Bool} (h:∀ i,i<256->p i=q i):jY p=jY q:=by
 unfold jY;exact Y3 fun i hi=>by rw [h i (List.mem_range.1 hi)]
theorem sU {p q:Nat->Bool} (h:∀ i,i<256->p i=q i):bE p=bE q:=by
 have e:Cy p=Cy q:=by
  cases t:Cy q with
  | true=>
   obtain ⟨i,o,j,r⟩:=gx.1 t;exact gx.2 ⟨i,o,j,by rw [h i j];exact r⟩
  | false=>
   cases u:Cy p with
   | false=>rfl
   | true=>
    obtain ⟨i,o,j,r⟩:=gx.1 u;rw [gx.2 ⟨i,o,j,by rw [<- h i j];exact r⟩] at t;cases t
 unfold bE;rw [pO h,e]
theorem vr (p q:Nat->Bool) (k:Nat) (h:∀ i,i≠k->p i=q i):∀ m,k<m->(H2 m).countP p+(if q k=Q then 1 else 0)=(H2 m).countP q+if p k=Q then 1 else 0
 | m+1,j=>by
  rw [W3,Z2,Z2];simp only [X3,List.countP_nil,Z3]
  by_cases e:k=m
  .subst e
   have:(H2 k).countP p=(H2 k).countP q:=Y3 fun i hi=>by rw [h i (by have:=List.mem_range.1 hi;omega)]
   omega
  .have:=vr p q k h m (by omega)
   rw [h m (Ne.symm e)];omega
theorem uE {p q:Nat->Bool} {k:Nat} (j:k<256) (h:∀ i,i≠k->p i=q i):jY p+(if q k=Q then 1 else 0)=jY q+if p k=Q then 1 else 0:=vr p q k h 256 j
theorem qe {p q:Nat->Bool}:∀ m,(∀ i,i<m->p i=Q->q i=Q)->(H2 m).countP p<=(H2 m).countP q
 | 0,_=>D2 _
 | m+1,h=>by
  rw [W3,Z2,Z2];simp only [X3,List.countP_nil,Z3];have:=qe m fun i hi=>h i (by omega);have j:=h m (by omega)
  split
  .rename_i e;rw [if_pos (j e)];omega
  .split <;> omega
theorem N5 {p q:Nat->Bool} (h:∀ i,i<256->p i=Q->q i=Q):jY p<=jY q:=qe 256 h
theorem OO {p q:Nat->Bool} {k:Nat} (t:k<256) (h:∀ i,i<256->p i=Q->q i=Q) (o:p k=H) (r:q k=Q):jY p+1<=jY q:=by
 have e:=uE (p:=fun i=>if i=k then Q else p i) (q:=p) t fun i hi=>if_neg hi;rw [if_neg (by rw [o];decide),if_pos (if_pos rfl)] at e
 have:=N5 (p:=fun i=>if i=k then Q else p i) (q:=q) fun i hi j=>by
  by_cases e:i=k
  .subst e;exact r
  .rw [if_neg e] at j;exact h i hi j
 omega
section
variable {n id k i:Nat} {own:Nat->Own} {N:Nat->Option Hd} {h h':Hd} {a:Aw} {V V':Nat->List UInt8}
theorem eL:dS h i=Q↔i<256/\h.aL i≠0:=by unfold dS;simp
theorem gP (hi:i<256):dS h i=H↔h.aL i=0:=by
 unfold dS;simp [hi]
theorem qC (o:h.fit) (hi:i<256) (b:Int) (j:Nat):dS (h.put i b) j=if j=i then decide (b≠0) else dS h j:=by
 unfold dS;rw [Hd.jd o hi]
 by_cases e:j=i
 .subst e;rw [if_pos rfl,if_pos rfl];simp [hi]
 .rw [if_neg e,if_neg e]
theorem Hd.Ok.lJ (v:h.Ok n id) (u:h.Fin):h.lJ=bE (dS h):=by
 unfold Hd.lJ bE;congr 1
 by_cases h0:h.n.rw=0
 .rw [if_pos h0,if_neg]
  intro t;obtain ⟨i,o,j,r⟩:=gx.1 t;exact (eL.1 r).2 (v.rz h0 i o j)
 .obtain ⟨i,o,j,r⟩:=u.SA h0
  rw [if_neg h0,if_pos (gx.2 ⟨i,o,j,eL.2 ⟨j,r⟩⟩)]
def Has (n:Nat) (a:Aw) (A:Nat->Option AF) (k:Nat):Prop:=∃ own N,ta n a own N 0/\wE own n=k/\∀ id,A id=(N id).map (gy a.V)
theorem Has.at {A:Nat->Option AF} {f:AF} (o:∀ id,A id=(N id).map (gy a.V)) (j:A id=Y f):∃ h,N id=Y h/\f=gy a.V h:=by
 rw [o id] at j
 cases hN:N id with
 | none=>rw [hN] at j;cases j
 | some h=>rw [hN] at j;exact ⟨h,rfl,by cases j;rfl⟩
structure AF.Wf (f:AF):Prop where
 kd:f.kd=1\/f.kd=2
 Gq:0<=f.lk
 Jd:f.lk<=65535
 sz:f.sz<=122880
 tail:∀ p,f.sz<=p->f.tF p=0
 hole:∀ p,f.pr (p/480)=false->f.tF p=0
 Pt:∀ i,f.pr i=true->480*i<f.sz
theorem ta.wf (S:ta n a own N 0) (hN:N id=Y h):(gy a.V h).Wf:=by
 obtain ⟨L,T,j⟩:=S.lay.ok _ _ hN;obtain ⟨v,z,y⟩:=S.rest id h (by omega) hN;have z0:=j.Je;have z1:=j.Np;refine ⟨j.kd,j.Gq,j.Jd,show h.n.sz.toNat<=122880 by omega,fun p r=>?_,fun p r=>?_,fun i hi=>?_⟩
 .show (if p<122880 then jo a.V h p else 0)=0
  split
  .rename_i o;exact y p o (by have:h.n.sz.toNat<=p:=r;omega)
  .rfl
 .show (if p<122880 then jo a.V h p else 0)=0
  split
  .rename_i o
   unfold jo;rw [if_pos ((gP (by omega)).1 r)]
  .rfl
 .obtain ⟨o,u⟩:=eL.1 (show dS h i=Q from hi)
  show 480*i<h.n.sz.toNat
  by_cases t:aY h.n.sz<=i
  .exact absurd (v.hi i o t) u
  .unfold aY at t;omega
theorem Has.wf {A:Nat->Option AF} {f:AF} (r:Has n a A k) (o:A id=Y f):f.Wf/\0<id/\id<n:=by
 obtain ⟨own,N,S,_,j⟩:=r;obtain ⟨h,hN,rfl⟩:=Has.at j o;exact ⟨S.wf hN,(S.lay.ok _ _ hN).1,(S.lay.ok _ _ hN).2.1⟩
end
section
variable {σ α:Type} {n id k:Nat} {own:Nat->Own} {N:Nat->Option Hd} {h:Hd} {a:Aw} {V0:Nat->List UInt8} {I:σ->Prop} {ask:cI σ} {E:Int->Prop} {A:Nat->Option AF} {f:AF}
theorem aI.node (hr:pP ask n V0 I) (hn:n<=3840) (r:Has n a A k) (o:A id=Y f):aI n V0 I (re ask n (id:Int)) a (fun x a'=>x.kd=f.kd/\x.lk=f.lk/\x.sz=f.sz/\a'=a) E:=by
 obtain ⟨own,N,S,_,j⟩:=r;obtain ⟨h,hN,rfl⟩:=Has.at j o;have t:=(S.lay.ok _ _ hN).2.2;refine (aI.load hr hn S hN).bind fun x a' e=>?_;obtain ⟨rfl,rfl⟩:=e;have:=t.Je;exact aI.pure ⟨rfl,rfl,show x.n.sz=(x.n.sz.toNat:Int) by omega,rfl⟩
theorem aI.left (hr:pP ask n V0 I) (h0:0<n) (r:Has n a A k):aI n V0 I (oS ask n) a (fun x a'=>x=k/\a'=a) E:=by
 obtain ⟨own,N,S,t,z⟩:=r;intro st u;obtain ⟨v,j,o,y⟩:=aI.bits hr h0 st u;have e:oS ask n st=(.ok (n-(dg a.B n).length),v):=WM.aX j;rw [e];exact ⟨a,o,by rw [S.bm.left,t],rfl⟩
theorem pF {l d:List UInt8} {o:Nat} (h:o+d.length<=l.length) (j:Nat):(putAt l o d).getD j 0=if o<=j/\j<o+d.length then d.getD (j-o) 0 else l.getD j 0:=by
 unfold putAt;have r:(l.take o++d).length=o+d.length:=by rw [V3,W2];omega
 have t:(l.take o).length=o:=by rw [W2];omega
 simp only [E2]
 by_cases u:j<o
 .rw [if_neg (by omega),J4 (by rw [r];omega),J4 (by rw [t];exact u),H3,if_pos u]
 .by_cases h4:j<o+d.length
  .rw [if_pos ⟨by omega,h4⟩,J4 (by rw [r];omega),N4 (by rw [t];omega),t]
  .rw [if_neg (by omega),N4 (by rw [r];omega),r,J3,show o+d.length+(j-(o+d.length))=j by omega]
theorem aI.rd (hr:pP ask n V0 I) (S:ta n a own N 0) (hN:N id=Y h) (off m:Nat) (hm:off+m<=122880):∀ (f done:Nat) (L:List UInt8),L.length=m->m-done<=f->(∀ j,j<m->L.getD j 0=if j<done then jo a.V h (off+j) else 0) ->
  aI n V0 I (Co ask h off f done L) a (fun x a'=>x.length=m/\(∀ j,j<m->x.getD j 0=jo a.V h (off+j))/\a'=a) E:=by
 intro f
 induction f with
 | zero=>intro done L t hf u;exact aI.pure ⟨t,fun j o=>by rw [u j o,if_pos (by omega)],rfl⟩
 | succ f ih=>
  intro done L t hf u;obtain ⟨i0,i1,ho⟩:=S.lay.ok _ _ hN
  by_cases hd:done<m
  .obtain ⟨l,v⟩:∃ l,iB (L.length-done) (off+done)=l:=⟨_,rfl⟩
   have c0:l=min (m-done) (480-(off+done)%480):=by rw [<- v,t];rfl
   have b0:∀ j,done<=j->j<done+l->(off+j)/480=(off+done)/480/\(off+j)%480=(off+done)%480+(j-done):=fun j o r=>by omega
   by_cases h0:h.aL ((off+done)/480)=0
   .refine aI.congr (m':=Co ask h off f (done+l) L) ?_ fun st=>by rw [<- v];exact Pu (by omega) h0 st
    refine ih (done+l) L t (by omega) fun j o=>?_;rw [u j o]
    by_cases r:j<done
    .rw [if_pos r,if_pos (by omega)]
    .rw [if_neg r]
     split
     .unfold jo;rw [(b0 j (by omega) (by omega)).1,if_pos h0]
     .rfl
   .have hp:=ho.pg ((off+done)/480) (by omega)
    obtain ⟨b,hb⟩:∃ b:Nat,h.aL ((off+done)/480)=(b:Int):=⟨(h.aL ((off+done)/480)).toNat,by omega⟩
    refine aI.congr (m':=WM.bind (cS ask (b:Int)) fun z=>Co ask h off f (done+l) (putAt L done ((z.drop ((off+done)%480)).take l))) ?_ fun st=>by
     refine (if_pos (by omega)).trans ((if_neg h0).trans ?_);rw [v,hb]
    refine (aI.read hr (by omega) (by omega)).bind fun z a' e=>?_;obtain ⟨rfl,hX,e3⟩:=e;rw [e3];have y:(((a.V b).drop ((off+done)%480)).take l).length=l:=by rw [W2,S3,hX];omega
    refine ih (done+l) _ (by rw [gg (by rw [y];omega)];exact t) (by omega) fun j o=>?_;rw [pF (by rw [y];omega),y]
    by_cases r:done<=j/\j<done+l
    .rw [if_pos r,if_pos (by omega)]
     obtain ⟨e1,e2⟩:=b0 j r.1 r.2;unfold jo;rw [e1,if_neg h0,hb,e2,J2];simp only [E2];rw [H3,if_pos (by omega),J3]
    .rw [if_neg r,u j o]
     by_cases T:j<done
     .rw [if_pos T,if_pos (by omega)]
     .rw [if_neg T,if_neg (by omega)]
  .refine aI.congr (m':=WM.pure L) (aI.pure ⟨t,fun j o=>by rw [u j o,if_pos (by omega)],rfl⟩) fun st=>if_neg (by omega)
def AF.sub (f:AF) (off o:Nat):List UInt8:=(H2 (min o (f.sz-off))).map fun j=>f.tF (off+j)
theorem aI.QS (hr:pP ask n V0 I) (hn:n<=3840) (hh:Has n a A k) (hf:A id=Y f) (off o:Nat):aI n V0 I (jA ask n (id:Int) (off:Int) (o:Int)) a (fun x a'=>x=f.sub off o/\a'=a) E:=by
 obtain ⟨own,N,S,_,T⟩:=hh;obtain ⟨h,hN,rfl⟩:=Has.at T hf;obtain ⟨i0,i1,v⟩:=S.lay.ok _ _ hN;have z0:=v.Je;have z1:=v.Np;refine (aI.load hr hn S hN).bind fun x a' e=>?_;obtain ⟨rfl,rfl⟩:=e;have y:(gy a'.V x).sz=x.n.sz.toNat:=rfl
 by_cases t:x.n.sz<=(off:Int)
 .refine aI.congr (m':=WM.pure []) (aI.pure ⟨?_,rfl⟩) fun st=>(if_pos ⟨by omega,by omega⟩).trans (if_pos t)
  unfold AF.sub;rw [y,show min o (x.n.sz.toNat-off)=0 by omega];rfl
 .obtain ⟨m,hm⟩:∃ m,(min (o:Int) (x.n.sz-(off:Int))).toNat=m:=⟨_,rfl⟩
  refine aI.congr (m':=Co ask x off m 0 (zs m)) ?_ fun st=>by
   refine (if_pos ⟨by omega,by omega⟩).trans ((if_neg t).trans ?_);rw [hm,J2]
  refine (aI.rd hr S hN off m (by omega) m 0 (zs m) (bh m) (by omega) fun j hj=>?_).mono (fun d0 c0 e=>?_) fun _ h=>h
  .rw [if_neg (by omega)]
   show (L2 m 0).getD j 0=0
   simp only [E2,V2];split <;> rfl
  .obtain ⟨r,z,L⟩:=e
   refine ⟨?_,L⟩;have b0:min o ((gy a'.V x).sz-off)=m:=by rw [y];omega
   unfold AF.sub;rw [b0];apply List.ext_getElem
   .simp [r]
   .intro j u h3
    rw [r] at u;have:=z j u;rw [E2,R2 (by omega)] at this;simp only [Option.getD_some] at this;rw [this,List.getElem_map,List.getElem_range];show _=if off+j<122880 then jo a'.V x (off+j) else 0
    rw [if_pos (by omega)]
end
structure bp (n:Nat) (a0:Aw) (N0:Nat->Option Hd) (id:Nat) (K:Nat) (a:Aw) (own:Nat->Own) (N:Nat->Option Hd) (h:Hd):Prop where
 sp:ta n a own N id
 hN:N id=some h
 RU:∀ id',id'≠id->N id'=N0 id'
 El:∀ id' g,id'≠id->N0 id'=some g->∀ p,p<122880->jo a.V g p=jo a0.V g p
 cons:wE own n+h.lJ=K
section
variable {n id k i K:Nat} {own:Nat->Own} {N N0:Nat->Option Hd} {h h':Hd} {a a0:Aw} {V V':Nat->List UInt8}
theorem bp.start (S:ta n a own N 0) (hN:N id=Y h):bp n a N id (wE own n+h.lJ) a own N h:=
 ⟨S.fw id,hN,fun _ _=>rfl,fun _ _ _ _ _ _=>rfl,rfl⟩
theorem bp.ok (T:bp n a0 N0 id K a own N h):h.Ok n id:=(T.sp.lay.ok _ _ T.hN).2.2
theorem bp.write (T:bp n a0 N0 id K a own N h) (r:GH own id k) {l:List UInt8} (v:l.length=480):bp n a0 N0 id K { a with V:=zH a.V k l } own N h:=
 ⟨T.sp.write r v,T.hN,T.RU,fun id' g j o p t=>by
  have u:N id'=Y g:=(T.RU id' j).trans o;rw [<- T.El id' g j o p t];exact xT T.sp.lay j u (fun b y=>fH _ _ (by rintro rfl;exact y r)) t,T.cons⟩
theorem bp.step (T:bp n a0 N0 id K a own N h) {o:Nat->Own} {r:List UInt8} (t:jl n o (dp N id (Y h'))) (u:Bm n o r) (v:wE o n+h'.lJ=K):bp n a0 N0 id K { a with B:=r } o (dp N id (Y h')) h':=
 ⟨T.sp.step t u fun id' j=>aJ _ _ j,bA _ _ _,fun id' j=>(aJ _ _ j).trans (T.RU id' j),T.El,v⟩
theorem Jp (o:h.fit) (hi:i<256) {b:Int} (h0:h.aL i=0) (r:b≠0):(h.put i b).lJ=h.lJ+1:=by
 unfold Hd.lJ;rw [Hd.gO];have:=uE (p:=dS (h.put i b)) (q:=dS h) hi fun j t=>by rw [qC o hi,if_neg t]
 rw [qC o hi,if_pos rfl,(gP hi).2 h0] at this;simp only [r,ne_eq,not_false_eq_true,decide_true,if_true,Bool.false_eq_true,if_false] at this;omega
theorem MA (o:h.fit) (hi:i<256) (h0:h.aL i≠0):(h.put i 0).lJ+1=h.lJ:=by
 unfold Hd.lJ;rw [Hd.gO];have:=uE (p:=dS (h.put i 0)) (q:=dS h) hi fun j r=>by rw [qC o hi,if_neg r]
 rw [qC o hi,if_pos rfl,eL.2 ⟨hi,h0⟩] at this;simp only [ne_eq,not_true_eq_false,decide_false,if_true,Bool.false_eq_true,if_false] at this;omega
theorem Ln (h0:h.n.rw=0) {b:Int} (j:b≠0):(h.dw b).lJ=h.lJ+1:=by
 unfold Hd.lJ;have e:dS (h.dw b)=dS h:=rfl;rw [e,if_pos h0,if_neg (show (h.dw b).n.rw≠0 from j)]
theorem KL (h0:h.n.rw≠0):(h.dw 0).lJ+1=h.lJ:=by
 unfold Hd.lJ;have e:dS (h.dw 0)=dS h:=rfl;rw [e,if_neg h0,if_pos (show (h.dw 0).n.rw=0 from rfl)]
theorem bp.Lw (T:bp n a0 N0 id K a own N h) (hn:n<=3840) (j:own k=mI) (o:k<n) (hi:i<256) (h0:h.aL i=0) (hr:16<=i->h.n.rw≠0) :
  bp n a0 N0 id K { a with B:=dY a.B k Q } (dp own k (EB id i)) (dp N id (Y (h.put i (k:Int)))) (h.put i (k:Int)):=by
 have r:=T.sp.lay.jx j;refine T.step (T.sp.lay.aL T.hN j o hi h0 hr) (T.sp.bm.set hn o _ _ (by simp)) ?_;have:=lO (own:=own) (x:=EB id i) o;rw [if_pos j,if_neg (by simp)] at this;rw [Jp T.ok.fit hi h0 (by omega)];have:=T.cons;omega
theorem bp.Nt (T:bp n a0 N0 id K a own N h) (hn:n<=3840) (j:own k=mI) (o:k<n) (h0:h.n.rw=0) :
  bp n a0 N0 id K { a with B:=dY a.B k Q } (dp own k (Jc id)) (dp N id (Y (h.dw (k:Int)))) (h.dw (k:Int)):=by
 have r:=T.sp.lay.jx j;refine T.step (T.sp.lay.row T.hN j o h0) (T.sp.bm.set hn o _ _ (by simp)) ?_;have:=lO (own:=own) (x:=Jc id) o;rw [if_pos j,if_neg (by simp)] at this;rw [Ln h0 (by omega)];have:=T.cons;omega
theorem bp.Bn (T:bp n a0 N0 id K a own N h) (hn:n<=3840) (hi:i<256) (h0:h.aL i≠0) :
  bp n a0 N0 id K { a with B:=dY a.B (h.aL i).toNat H } (dp own (h.aL i).toNat mI) (dp N id (Y (h.put i 0))) (h.put i 0):=by
 have o:=T.ok.pg i hi;refine T.step (T.sp.lay.RL T.hN hi h0) (T.sp.bm.set hn (by omega) _ _ (by simp)) ?_;have:=lO (own:=own) (x:=mI) (show (h.aL i).toNat<n by omega);rw [T.sp.lay.z8 T.hN hi h0,if_pos rfl,if_neg (by simp)] at this;have j:=MA T.ok.fit hi h0;have:=T.cons;omega
theorem bp.FC (T:bp n a0 N0 id K a own N h) (hn:n<=3840) (h0:h.n.rw≠0) (j:∀ i,16<=i->i<256->h.aL i=0) :
  bp n a0 N0 id K { a with B:=dY a.B h.n.rw.toNat H } (dp own h.n.rw.toNat mI) (dp N id (Y (h.dw 0))) (h.dw 0):=by
 have r:=T.ok.xH;have t:=T.ok.zI;refine T.step (T.sp.lay.TI T.hN h0 j) (T.sp.bm.set hn (by omega) _ _ (by simp)) ?_;have:=lO (own:=own) (x:=mI) (show h.n.rw.toNat<n by omega);rw [T.sp.lay.ui T.hN h0,if_pos rfl,if_neg (by simp)] at this;have o:=KL h0;have:=T.cons;omega
theorem bp.set (T:bp n a0 N0 id K a own N h) (o:h'.Ok n id) (hr:h'.n.rw=h.n.rw) (j:∀ i,i<256->h'.aL i=h.aL i):bp n a0 N0 id K a own (dp N id (Y h')) h':=by
 refine T.step (T.sp.lay.set T.hN o hr j) T.sp.bm ?_
 have:h'.lJ=h.lJ:=by
  unfold Hd.lJ;rw [hr,pO (p:=dS h') (q:=dS h) fun i hi=>by unfold dS;rw [j i hi]]
 rw [this];exact T.cons
theorem bp.done (T:bp n a0 N0 id K a own N h) (hn:n<=3840) (r:h.Fin) (ht:z7 a.V h) {A:Nat->Option AF} (hA:∀ id,A id=(N0 id).map (gy a0.V)) (f:AF) (L:h.n.kd=f.kd) (h2:h.n.lk=f.lk) (h3:h.n.sz=f.sz)
  (h4:∀ p,p<122880->jo a.V h p=f.tF p) (b0:∀ p,122880<=p->f.tF p=0) (o:∀ i,i<256->dS h i=f.pr i) (c0:∀ i,256<=i->f.pr i=H):Has n { a with V:=kV a.V h } (dp A id (Y f)) (K-bE f.pr):=by
 obtain ⟨S,hb⟩:=T.sp.saved hn T.hN r ht;have d0:=T.ok.lJ r;rw [sU o] at d0;refine ⟨own,N,S,by have:=T.cons;omega,fun id'=>?_⟩
 by_cases e:id'=id
 .subst e
  rw [bA,T.hN];show Y f=Y (gy (kV a.V h) h)
  congr 1;obtain ⟨kd,lk,sz,tF,pr⟩:=f;dsimp only at *;unfold gy;have v:sz=h.n.sz.toNat:=by omega
  have y:tF=fun p=>if p<122880 then jo (kV a.V h) h p else 0:=by
   funext p
   split
   .rename_i j;rw [hb p j];exact (h4 p j).symm
   .rename_i j;exact b0 p (by omega)
  have z:pr=dS h:=by
   funext i
   by_cases hi:i<256
   .exact (o i hi).symm
   .rw [c0 i (by omega)];unfold dS;simp [hi]
  rw [L,h2,<- v,<- y,<- z]
 .rw [aJ _ _ e,hA id',<- T.RU id' e]
  cases t:N id' with
  | none=>rfl
  | some g=>
   show Y (gy a0.V g)=Y (gy (kV a.V h) g)
   congr 1;have h0:N0 id'=Y g:=(T.RU id' e).symm.trans t;unfold gy;congr 1;funext p
   split
   .rename_i j
    rw [<- T.El id' g e h0 p j];refine (xT T.sp.lay e t (fun b u=>pj ?_ fun h0=>?_) j).symm
    .rintro rfl;exact u (.inr (.inl ⟨by rw [T.ok.id];exact T.sp.lay.tq T.hN,T.ok.id⟩))
    .rintro rfl;exact u (.inr (.inr (.inl (T.sp.lay.ui T.hN h0))))
   .rfl
end
section
variable {σ α:Type} {n id k K:Nat} {own:Nat->Own} {N N0:Nat->Option Hd} {h:Hd} {a a0:Aw} {V0:Nat->List UInt8} {I:σ->Prop} {ask:cI σ} {E:Int->Prop} {A:Nat->Option AF} {f:AF}
theorem aI.nz (T:bp n a0 N0 id K a own N h) (hn:n<=3840) (o:h.Fin):aI n V0 I (dQ h) a (fun _ a'=>a'={ a with V:=kV a.V h }) E:=by
 have j:=T.ok;exact aI.save (by rw [j.id];exact (T.sp.lay.ok _ _ T.hN).1) (by rw [j.id];exact (T.sp.lay.ok _ _ T.hN).2.1) j.zI j.xH (j.ok hn o) (j.row hn).1 j.fit.2
def kr (kd:Int):AF:=⟨kd,1,0,fun _=>0,fun _=>H⟩
theorem fW (id:Nat) (kd:Int) (i:Nat):(dh id kd).aL i=0:=by
 unfold dh Hd.aL
 split
 .show (L2 16 (0:Int)).getD i 0=0
  simp only [E2,V2];split <;> rfl
 .show (L2 240 (0:Int)).getD (i-16) 0=0
  simp only [E2,V2];split <;> rfl
theorem Mm {kd:Int} (j:kd=1\/kd=2) (h0:0<n):(dh id kd).Ok n id:=
 ⟨⟨rfl,rfl⟩,rfl,j,(by decide:(0:Int)<=1),(by decide:(1:Int)<=65535),(by decide:(0:Int)<=0),(by decide:(0:Int)<=122880),(by decide:(0:Int)<=0),show (0:Int)<n by omega,fun i _=>by rw [fW];exact ⟨by omega,by omega⟩,fun _ i _ _=>fW _ _ _⟩
theorem nV (id:Nat) (kd:Int):(dh id kd).Fin:=⟨fun i _ _=>fW _ _ _,fun h=>absurd rfl h⟩
theorem nY (V:Nat->List UInt8) (id:Nat) (kd:Int) (p:Nat):jo V (dh id kd) p=0:=by unfold jo;rw [if_pos (fW _ _ _)]
theorem xl (id:Nat) (kd:Int):(dh id kd).lJ=1:=by
 unfold Hd.lJ
 have e:jY (dS (dh id kd))=0:=by
  unfold jY;rw [P3];intro i _ h;exact (eL.1 h).2 (fW _ _ _)
 rw [e,if_pos (show (dh id kd).n.rw=0 from rfl)]
theorem vI:bE (fun _=>H)=1:=by
 unfold bE;have e:jY (fun _=>H)=0:=by unfold jY;rw [P3];intro i _ h;cases h
 rw [e,if_neg];intro o;obtain ⟨i,_,_,j⟩:=gx.1 o;cases j
theorem bp.made (S:ta n a own N 0) (hn:n<=3840) (j:own k=mI) (o:k<n) {kd:Int} (t:kd=1\/kd=2) :
  bp n a N k (wE own n) { a with B:=dY a.B k Q } (dp own k PF) (dp N k (Y (dh k kd))) (dh k kd):=by
 have u:=S.lay.jx j;refine ⟨(S.fw k).step (S.lay.new j o (Mm t (by omega)) (fun i _=>fW _ _ _) rfl) (S.bm.set hn o _ _ (by simp)) fun id' r=>aJ _ _ r,bA _ _ _,fun id' r=>aJ _ _ r,fun _ _ _ _ _ _=>rfl,?_⟩;have:=lO (own:=own) (x:=PF) o;rw [if_pos j,if_neg (by simp)] at this;rw [xl];omega
theorem aI.new (hr:pP ask n V0 I) (h0:0<n) (hn:n<=3840) (hh:Has n a A k) {kd:Int} (t:kd=1\/kd=2) :
  aI n V0 I (wW ask n kd) a (fun x a'=>A x=U/\0<x/\x<n/\0<k/\Has n a' (dp A x (Y (kr kd))) (k-1)) (fun c=>c=7/\k=0):=by
 obtain ⟨own,N,S,r,o⟩:=hh;refine aI.congr (m':=WM.bind (iG ask n) (EJ kd)) ?_ fun st=>if_pos t;refine (aI.take hr h0 fun L=>⟨rfl,by rw [<- r,S.bm.ie L]⟩).bind fun x a' e=>?_;obtain ⟨v,rfl⟩:=e;obtain ⟨u,j⟩:=S.bm.rG v;have c0:=S.lay.jx j;have T:=bp.made S hn j u t
 have b0:0<k:=by
  have z:=T.cons;rw [xl] at z;omega
 refine (aI.nz T hn (nV _ _)).bind fun _ a' e=>?_;subst e;refine aI.pure ⟨by rw [o,S.lay.ie j];rfl,by omega,u,b0,?_⟩;have:=T.done hn (nV _ _) (fun p _ _=>nY _ _ _ _) o (kr kd) rfl rfl rfl (fun p _=>nY _ _ _ _) (fun _ _=>rfl) (fun i hi=>(gP hi).2 (fW _ _ _)) fun _ _=>rfl;have y:bE (kr kd).pr=1:=vI;rw [y,r] at this;exact this
theorem aI.Sl (hr:pP ask n V0 I) (hn:n<=3840) (hh:Has n a A k) (hf:A id=Y f) (d:Int) :
  aI n V0 I (kL ask n (id:Int) d) a (fun _ a'=>(0<=wrap64 (f.lk+d)/\wrap64 (f.lk+d)<=65535)/\Has n a' (dp A id (Y { f with lk:=wrap64 (f.lk+d) })) k) (fun c=>c=1/\¬ (0<=wrap64 (f.lk+d)/\wrap64 (f.lk+d)<=65535)):=by
 obtain ⟨own,N,S,hk,u⟩:=hh;obtain ⟨h,hN,rfl⟩:=Has.at u hf;obtain ⟨i0,i1,j⟩:=S.lay.ok _ _ hN;obtain ⟨r,hs,ht⟩:=S.rest id h (by omega) hN;refine (aI.load hr hn S hN).bind fun x a' e=>?_;obtain ⟨rfl,rfl⟩:=e;show aI n V0 I (tV x (wrap64 (x.n.lk+d))) a' (fun _ t=>(0<=wrap64 (x.n.lk+d)/\wrap64 (x.n.lk+d)<=65535)/\Has n t (dp A id (Y { gy a'.V x with lk:=wrap64 (x.n.lk+d) })) k) (fun c=>c=1/\¬ (0<=wrap64 (x.n.lk+d)/\wrap64 (x.n.lk+d)<=65535))
 generalize wrap64 (x.n.lk+d)=z
 by_cases o:0<=z/\z<=65535
 .refine aI.congr (m':=dQ (x.oQ z)) ?_ fun st=>if_pos o
  have b0:(x.oQ z).Ok n id:=⟨j.fit,j.id,j.kd,o.1,o.2,j.Je,j.Np,j.xH,j.zI,j.pg,j.rz⟩
  have T:=(bp.start S hN).set b0 rfl fun _ _=>rfl;have v:(x.oQ z).Fin:=⟨r.hi,r.SA⟩
  refine (aI.nz T hn v).mono (fun _ t e=>?_) fun _ h=>h;subst e;refine ⟨o,?_⟩;have z0:=j.Je
  have:=T.done hn v (fun p L h2=>ht p L h2) u { gy a'.V x with lk:=z } rfl rfl (show x.n.sz=(x.n.sz.toNat:Int) by omega) (fun p y=>by show jo a'.V x p=if p<122880 then jo a'.V x p else 0;rw [if_pos y])
   (fun p y=>if_neg (by omega)) (fun i _=>rfl) (fun i hi=>by show dS x i=H;unfold dS;simp;omega)
  have e:bE ({ gy a'.V x with lk:=z }:AF).pr=x.lJ:=(j.lJ r).symm;rw [e,Nat.add_sub_cancel,hk] at this;exact this
 .exact (aI.bad ⟨rfl,o⟩).congr fun st=>if_neg o
theorem aI.format (hr:pP ask n V0 I) (h0:4<=n) (hn:n<=3840) (d0:∀ b,0<b->b<n->(a.V b).length=480) :
  aI n V0 I (ja ask) a (fun _ a'=>Has n a' (fun id=>if id=1 then Y (kr 2) else U) (n-2)) E:=by
 have hz:∀ b,dU (zs 480) b=H:=by
  intro b;unfold dU
  have e:(zs 480).getD (b/8) 0=0:=by
   show (L2 480 (0:UInt8)).getD (b/8) 0=0
   simp only [E2,V2];split <;> rfl
  rw [e];show decide ((0:UInt8).toNat/2 ^ (b%8)%2=1)=H
  have:(0:UInt8).toNat=0:=rfl;rw [this,Nat.zero_div];decide
 obtain ⟨j,o⟩:∃ e0:Nat->Own,e0=fun b=>if b=0 then JC else mI:=⟨_,rfl⟩
 have v:jl n j (fun _=>U):=by
  subst o;refine ⟨fun b=>?_,fun b hb=>if_neg (by omega),fun id h r=>(by cases r),fun b=>?_,fun b id=>?_,fun b id i=>?_⟩
  .show (if b=0 then JC else mI)=JC↔b=0
   split
   .rename_i e;exact ⟨fun _=>e,fun _=>rfl⟩
   .rename_i e;exact ⟨fun h=>(by cases h),fun h=>absurd h e⟩
  .show (if b=0 then JC else mI)=PF↔_
   split <;> simp
  .show (if b=0 then JC else mI)=Jc id↔_
   unfold eo
   split <;> simp
  .show (if b=0 then JC else mI)=EB id i↔_
   unfold eu
   split <;> simp
 have u:Bm n j (dY (zs 480) 0 Q):=by
  subst o;refine ⟨by rw [fg];exact bh 480,fun b hb=>?_⟩;rw [yg (by rw [bh];omega),hz]
  by_cases e:b=0
  .subst e;simp
  .rw [if_neg e,if_neg e];simp
 have b0:wE j n=n-1:=by
  subst o
  have:∀ m,0<m->wE (fun b=>if b=0 then JC else mI) m=m-1:=by
   intro m
   induction m with
   | zero=>intro h;omega
   | succ m ih=>
    intro _;rw [qg]
    by_cases e:m=0
    .subst e;rfl
    .rw [ih (by omega),if_neg e,if_pos rfl];omega
  exact this n (by omega)
 have y:ta n ⟨a.V,dY (zs 480) 0 Q⟩ j (fun _=>U) 0:=⟨v,u,d0,fun id' h _ r=>(by cases r)⟩
 have c0:j 1=mI:=by subst o;rfl
 have T:=bp.made y hn c0 (by omega) (.inr rfl)
 have hD:aI n V0 I (WM.bind (cG ask 1 Q) fun _=>dQ (dh 1 2)) ⟨a.V,dY (zs 480) 0 Q⟩ (fun _ a'=>Has n a' (fun id=>if id=1 then Y (kr 2) else U) (n-2)) E:=by
  refine (aI.mark hr (by omega)).bind fun _ a' e=>?_;subst e;refine (aI.nz T hn (nV _ _)).mono (fun _ a' e=>?_) fun _ h=>h;subst e;have:=T.done hn (nV _ _) (fun p _ _=>nY _ _ _ _) (A:=fun _=>U) (fun _=>rfl) (kr 2) rfl rfl rfl (fun p _=>nY _ _ _ _) (fun _ _=>rfl) (fun i hi=>(gP hi).2 (fW _ _ _)) fun _ _=>rfl;have z:bE (kr 2).pr=1:=vI;rw [z,b0] at this;exact this
 intro st t;have L:cG ask 0 Q { st with bits:=Y (zs 480) }=(.ok (),{ st with bits:=Y (dY (zs 480) 0 Q),dt:=Q }):=rfl;have e:ja ask st=(WM.bind (cG ask 1 Q) fun _=>dQ (dh 1 2)) { st with bits:=Y (dY (zs 480) 0 Q),dt:=Q }:=WM.aX L;rw [e];exact hD _ ⟨t.gr,t.view,.inl rfl,fun h=>by simp at h,by rw [fg];exact bh 480⟩
end
def cR (off m i:Nat):Bool:=decide (0<m) && (decide (480*i<off+m) && decide (off<480*i+480))
theorem cF {off m i:Nat}:cR off m i=Q↔0<m/\480*i<off+m/\off<480*i+480:=by
 unfold cR;simp only [N2,decide_eq_true_eq]
def AF.wr (f:AF) (off:Nat) (d:List UInt8):AF:=
 { f with sz:=if d.length=0 then f.sz else max f.sz (off+d.length),tF:=fun p=>if off<=p/\p<off+d.length then d.getD (p-off) 0 else f.tF p,pr:=fun i=>f.pr i || cR off d.length i }
def yr (h h':Hd):Prop:=h.n.kd=h'.n.kd/\h.n.lk=h'.n.lk/\h.n.sz=h'.n.sz
section
variable {n id k q K:Nat} {own:Nat->Own} {N N0:Nat->Option Hd} {h h' h0:Hd} {a a0:Aw}
theorem xr (h:Hd) (i:Nat) (b:Int):yr (h.put i b) h:=by unfold Hd.put yr;split <;> exact ⟨rfl,rfl,rfl⟩
theorem Bc {V:Nat->List UInt8} {p:Nat} (e:h.aL (p/480)=h'.aL (p/480)):jo V h p=jo V h' p:=by unfold jo;rw [e]
theorem bp.xx (T:bp n a0 N0 id K a own N h) (u:q<256) {b:Nat} (o:h.aL q=(b:Int)) (v:0<b) {l:List UInt8} (t:l.length=480) :
  bp n a0 N0 id K { a with V:=zH a.V b l } own N h/\∀ p,p<122880->jo (zH a.V b l) h p=if p/480=q then l.getD (p%480) 0 else jo a.V h p:=by
 have j:=T.sp.lay.z8 T.hN u (show h.aL q≠0 by omega);rw [o,J2] at j;refine ⟨T.write (.inr (.inr (.inr ⟨q,j⟩))) t,fun p y=>?_⟩
 by_cases e:p/480=q
 .rw [if_pos e]
  unfold jo;rw [e,if_neg (by omega),o,J2,ke]
 .rw [if_neg e]
  unfold jo
  split
  .rfl
  .rename_i h0
   rw [fH];intro r;have:=T.sp.lay.z8 T.hN (show p/480<256 by omega) h0;rw [r,j] at this;simp only [Prod.mk.injEq] at this;exact e this.2.2.symm
end
section
variable {σ α:Type} {n id k q K:Nat} {own:Nat->Own} {N N0:Nat->Option Hd} {h h0:Hd} {a a0:Aw} {V0:Nat->List UInt8} {I:σ->Prop} {ask:cI σ} {E:Int->Prop} {A:Nat->Option AF} {f:AF}
def FG (n:Nat) (a0:Aw) (N0:Nat->Option Hd) (id K:Nat) (a:Aw) (h:Hd) (q:Nat) (j:Bool) (p:Hd × Int × List UInt8) (a':Aw):Prop:=
 ∃ own N,bp n a0 N0 id K a' own N p.1/\a'.V=a.V/\(∃ b:Nat,p.2.1=(b:Int)/\p.1.aL q=(b:Int)/\0<b)/\(∀ i,i≠q->p.1.aL i=h.aL i)/\yr p.1 h/\(p.1.n.rw≠0->h.n.rw≠0\/16<=q) /\
  p.2.2.length=480/\(j=H->∀ r,r<480->p.2.2.getD r 0=jo a.V h (480*q+r))
def EE (K:Nat) (h:Hd) (q:Nat) (c:Int):Prop:=c=7/\∃ j:Hd,j.lJ=K/\(∀ i,j.aL i=h.aL i)/\h.aL q=0/\(j.n.rw≠0->h.n.rw≠0\/16<=q)
theorem Fh (m r:Nat):(zs m).getD r 0=0:=by
 show (L2 m (0:UInt8)).getD r 0=0
 simp only [E2,V2];split <;> rfl
theorem aI.PK (hr:pP ask n V0 I) (hn:n<=3840) (T:bp n a0 N0 id K a own N h) (u:q<256) (t:h.aL q=0) (c0:16<=q->h.n.rw≠0) {h1:Hd} {V1:Nat->List UInt8} (hV:a.V=V1) (j:∀ i,h.aL i=h1.aL i) (o:yr h h1) (v:h.n.rw≠0->h1.n.rw≠0\/16<=q) (wh:Bool) :
  aI n V0 I (ph ask n h q) a (fun p a'=>FG n a0 N0 id K ⟨V1,[]⟩ h1 q wh p a') (EE K h1 q):=by
 have h0:0<n:=by have:=(T.sp.lay.ok _ _ T.hN);omega
 have L:eZ a.B n=U->EE K h1 q 7:=fun hf=>⟨rfl,h,by have:=T.cons;have:=T.sp.bm.ie hf;omega,j,by rw [<- j];exact t,v⟩
 refine (aI.take hr h0 L).bind fun b a' e=>?_
 .obtain ⟨hb,rfl⟩:=e
  obtain ⟨b0,y⟩:=T.sp.bm.rG hb;have d0:=T.sp.lay.jx y;have z:=T.Lw hn y b0 u t c0;refine aI.pure ⟨_,_,z,hV,⟨b,rfl,?_,by omega⟩,fun i hi=>?_,?_,?_,bh 480,fun _ r e0=>?_⟩
  .show (h.put q (b:Int)).aL q=b
   rw [Hd.jd T.ok.fit u,if_pos rfl]
  .show (h.put q (b:Int)).aL i=_
   rw [Hd.jd T.ok.fit u,if_neg hi];exact j i
  .obtain ⟨s1,s2,s3⟩:=xr h q (b:Int)
   exact ⟨s1.trans o.1,s2.trans o.2.1,s3.trans o.2.2⟩
  .show (h.put q (b:Int)).n.rw≠0->_
   rw [Hd.gO];exact v
  .show (zs 480).getD r 0=_
   rw [Fh];unfold jo;rw [show (480*q+r)/480=q by omega,if_pos (by rw [<- j];exact t)]
theorem aI.open (hr:pP ask n V0 I) (hn:n<=3840) (T:bp n a0 N0 id K a own N h) (y:q<256) (u:Bool) :
  aI n V0 I (mE ask n h q u) a (FG n a0 N0 id K a h q u) (EE K h q):=by
 have h0:0<n:=by have:=(T.sp.lay.ok _ _ T.hN);omega
 have z:∀ p a',FG n a0 N0 id K ⟨a.V,[]⟩ h q u p a'->FG n a0 N0 id K a h q u p a':=fun p a' h=>h
 by_cases t:h.aL q=0
 .by_cases v:16<=q/\h.n.rw=0
  .refine aI.congr (m':=WM.bind (iG ask n) fun r=>ph ask n (h.dw (r:Int)) q) ?_ fun st=>(if_pos t).trans (if_pos v)
   have hE:eZ a.B n=U->EE K h q 7:=fun hf=>⟨rfl,h,by have:=T.cons;have:=T.sp.bm.ie hf;omega,fun _=>rfl,t,fun j=>absurd v.2 j⟩
   refine (aI.take hr h0 hE).bind fun b a' e=>?_
   .obtain ⟨o,rfl⟩:=e
    obtain ⟨d0,b0⟩:=T.sp.bm.rG o;have e0:=T.sp.lay.jx b0;have T':=T.Nt hn b0 d0 v.2;exact (aI.PK hr hn T' y t (fun _=>show (b:Int)≠0 by omega) (h1:=h) (V1:=a.V) rfl (fun _=>rfl) ⟨rfl,rfl,rfl⟩ (fun _=>.inr v.1) u).mono z fun _ h=>h
  .refine aI.congr (m':=ph ask n h q) ?_ fun st=>(if_pos t).trans (if_neg v)
   exact (aI.PK hr hn T y t (fun j c0=>v ⟨j,c0⟩) (h1:=h) (V1:=a.V) rfl (fun _=>rfl) ⟨rfl,rfl,rfl⟩ (fun j=>.inl j) u).mono z fun _ h=>h
 .have f0:=T.ok.pg q y
  obtain ⟨b,o⟩:∃ b:Nat,h.aL q=(b:Int):=⟨(h.aL q).toNat,by omega⟩
  cases u with
  | true=>
   refine aI.congr (m':=WM.pure (h,h.aL q,zs 480)) (aI.pure ?_) fun st=>(if_neg t).trans (if_pos rfl);exact ⟨own,N,T,rfl,⟨b,o,o,by omega⟩,fun _ _=>rfl,⟨rfl,rfl,rfl⟩,fun j=>.inl j,bh 480,fun j=>by cases j⟩
  | false=>
   refine aI.congr (m':=WM.bind (cS ask (b:Int)) fun L=>WM.pure (h,h.aL q,L)) ?_ fun st=>by
    refine ((if_neg t).trans (if_neg (by decide))).trans ?_;rw [o]
   refine (aI.read hr (by omega) (by omega)).bind fun L a' e=>?_;obtain ⟨rfl,hL,e3⟩:=e;rw [e3];refine aI.pure ⟨own,N,T,rfl,⟨b,o,o,by omega⟩,fun _ _=>rfl,⟨rfl,rfl,rfl⟩,fun j=>.inl j,hL,fun _ r g0=>?_⟩;unfold jo;rw [show (480*q+r)/480=q by omega,if_neg t,o,show (480*q+r)%480=r by omega,J2]
structure UD (n:Nat) (a0:Aw) (N0:Nat->Option Hd) (id K:Nat) (h0:Hd) (off:Nat) (d:List UInt8) (done:Nat) (a:Aw) (h:Hd):Prop where
 st:∃ own N,bp n a0 N0 id K a own N h
 same:yr h h0
 El:∀ p,p<122880->jo a.V h p=if off<=p/\p<off+done then d.getD (p-off) 0 else jo a0.V h0 p
 Pt:∀ i,i<256->dS h i=(dS h0 i || cR off done i)
 rw:h.n.rw≠0->h0.n.rw≠0\/∃ i,16<=i/\i<256/\cR off done i=true
theorem aI.wr (hr:pP ask n V0 I) (hn:n<=3840) (o0:h0.Fin) (off:Nat) (d:List UInt8) (hm:off+d.length<=122880):∀ (f done:Nat) (a:Aw) (h:Hd),done<=d.length->d.length-done<=f->UD n a0 N0 id K h0 off d done a h->(done<d.length->done=0\/(off+done)%480=0) ->
  aI n V0 I (xM ask n off d f done h) a (fun h' a'=>UD n a0 N0 id K h0 off d d.length a' h') (fun c=>c=7/\K<bE fun i=>dS h0 i || cR off d.length i):=by
 intro f
 induction f with
 | zero=>
  intro done a h hd hf T _;obtain rfl:done=d.length:=by omega
  exact aI.pure T
 | succ f ih=>
  intro done a h hd hf T u0
  by_cases g0:done<d.length
  .obtain ⟨k,hk⟩:∃ k,iB (d.length-done) (off+done)=k:=⟨_,rfl⟩
   have p0:k=min (d.length-done) (480-(off+done)%480):=by rw [<- hk];rfl
   obtain ⟨q,hq⟩:∃ q,(off+done)/480=q:=⟨_,rfl⟩
   obtain ⟨r,l0⟩:∃ r,(off+done)%480=r:=⟨_,rfl⟩
   have D0:off+done=480*q+r:=by omega
   have F0:r<480:=by omega
   have u:q<256:=by omega
   rw [l0] at p0
   refine aI.congr (m':=WM.bind (mE ask n h q (k == 480)) (zv (xM ask n off d f) done off k d)) ?_ fun st=>by
    rw [<- hq,<- hk];exact if_pos g0
   obtain ⟨own,N,T0⟩:=T.st;have m0:cR off d.length q=Q:=cF.2 ⟨by omega,by omega,by omega⟩
   have i0:∀ i,cR off done i=Q->cR off d.length i=Q:=fun i hi=>by
    obtain ⟨z,o,t⟩:=cF.1 hi;exact cF.2 ⟨by omega,by omega,t⟩
   refine ((aI.open hr hn T0 u (k == 480)).mono (fun _ _ h=>h) fun c hE=>?_).bind fun p a' hP=>?_
   .obtain ⟨rfl,hx,x1,x2,x3,x4⟩:=hE
    refine ⟨rfl,?_⟩;rw [<- x1];unfold Hd.lJ bE
    have x0:jY (dS hx)+1<=jY fun i=>dS h0 i || cR off d.length i:=by
     refine OO u (fun i hi z=>?_) ((gP u).2 (by rw [x2];exact x3)) (by simp only [m0,K4])
     have o:dS h i=Q:=by
      obtain ⟨t,h4⟩:=eL.1 z;rw [x2] at h4;exact eL.2 ⟨t,h4⟩
     rw [T.Pt i hi,P2] at o;rw [P2];rcases o with o|o
     .exact .inl o
     .exact .inr (i0 i o)
    by_cases f0:hx.n.rw=0
    .rw [if_pos f0];omega
    .rw [if_neg f0,if_pos]
     .omega
     .rw [gx]
      rcases x4 f0 with j|j
      .rcases T.rw j with j|⟨i,i1,v,i3⟩
       .obtain ⟨i,i1,v,i3⟩:=o0.SA j
        exact ⟨i,i1,v,by rw [P2];exact .inl (eL.2 ⟨v,i3⟩)⟩
       .exact ⟨i,i1,v,by rw [P2];exact .inr (i0 i i3)⟩
      .exact ⟨q,j,u,by rw [P2];exact .inr m0⟩
   .obtain ⟨h',bI,c0⟩:=p
    obtain ⟨r0,N',T1,hV,⟨b,p1,p2,p3⟩,p4,p5,p6,p7,p8⟩:=hP;dsimp only at T1 p1 p2 p4 p5 p6 p7 p8;subst p1;obtain ⟨b0,d0⟩:∃ s,(d.drop done).take k=s:=⟨_,rfl⟩
    have e0:b0.length=k:=by rw [<- d0,W2,S3];omega
    have k0:(putAt c0 r b0).length=480:=by rw [gg (by rw [e0,p7];omega)];exact p7
    refine aI.congr (m':=WM.bind (bL (b:Int) (putAt c0 r b0)) fun _=>xM ask n off d f (done+k) h') ?_ fun st=>by
     unfold zv;dsimp only;rw [l0,d0]
    refine (aI.write p3 (by have j:=(T1.ok.pg q (by omega)).2;rw [p2] at j;omega) k0).bind fun _ s0 e=>?_;rw [e];obtain ⟨T2,hb⟩:=T1.xx u p2 p3 k0;refine ih (done+k) _ h' (by omega) (by omega) ⟨⟨r0,N',T2⟩,⟨p5.1.trans T.same.1,p5.2.1.trans T.same.2.1,p5.2.2.trans T.same.2.2⟩,fun p hp=>?_,fun i hi=>?_,fun j=>?_⟩ (fun _=>by right;omega)
    .show jo (zH a'.V b (putAt c0 r b0)) h' p=_
     rw [hb p hp]
     by_cases e:p/480=q
     .rw [if_pos e,pF (by rw [e0,p7];omega),e0]
      by_cases e2:r<=p%480/\p%480<r+k
      .rw [if_pos e2,if_pos (by omega),<- d0]
       simp only [E2];rw [H3,if_pos (by omega),J3,show done+(p%480-r)=p-off by omega]
      .have hw:(k == 480)=H:=by
        cases q0:(k == 480) with
        | false=>rfl
        | true=>
         have:k=480:=by simpa using q0
         omega
       rw [if_neg e2,p8 hw _ (by omega),show 480*q+p%480=p by omega,T.El p hp]
       by_cases y:off<=p/\p<off+done
       .rw [if_pos y,if_pos (by omega)]
       .rw [if_neg y,if_neg (by omega)]
     .rw [if_neg e,Bc (p4 _ e),hV,T.El p hp]
      by_cases y:off<=p/\p<off+done
      .rw [if_pos y,if_pos (by omega)]
      .rw [if_neg y,if_neg (by omega)]
    .by_cases e:i=q
     .subst e
      rw [eL.2 ⟨hi,by omega⟩];have:cR off (done+k) i=Q:=cF.2 ⟨by omega,by omega,by omega⟩;rw [this,K4]
     .have e1:dS h' i=dS h i:=by unfold dS;rw [p4 i e]
      rw [e1,T.Pt i hi];congr 1
      cases j:cR off done i with
      | true=>
       obtain ⟨z,o,t⟩:=cF.1 j;exact (cF.2 ⟨by omega,by omega,t⟩).symm
      | false=>
       cases L:cR off (done+k) i with
       | false=>rfl
       | true=>
        obtain ⟨z,o,t⟩:=cF.1 L;have:cR off done i=Q:=cF.2 ⟨by omega,by omega,t⟩;rw [this] at j;cases j
    .rcases p6 j with L|L
     .rcases T.rw L with n0|⟨i,i1,v,i3⟩
      .exact .inl n0
      .obtain ⟨z,o,t⟩:=cF.1 i3
       exact .inr ⟨i,i1,v,cF.2 ⟨by omega,by omega,t⟩⟩
     .exact .inr ⟨q,L,u,cF.2 ⟨by omega,by omega,by omega⟩⟩
  .obtain rfl:done=d.length:=by omega
   refine aI.congr (m':=WM.pure h) (aI.pure T) fun st=>if_neg g0
theorem Kq {A:Nat->Option AF} (j:A id=Y f):dp A id (Y f)=A:=by
 funext b
 by_cases e:b=id
 .subst e;rw [bA,j]
 .exact aJ _ _ e
theorem AF.RM (f:AF) (off:Nat) {d:List UInt8} (j:d.length=0):f.wr off d=f:=by
 obtain ⟨kd,lk,sz,tF,pr⟩:=f;unfold AF.wr;rw [if_pos j,j];congr 1
 .funext p;rw [if_neg (by omega)]
 .funext i
  have:cR off 0 i=H:=by unfold cR;simp
  rw [this,Bool.or_false]
theorem aI.Ny (hr:pP ask n V0 I) (hn:n<=3840) (hh:Has n a A k) (hf:A id=Y f) (off:Nat) (d:List UInt8) (hd:d.length<=4096) (hm:off+d.length<=122880) :
  aI n V0 I (gz ask n (id:Int) (off:Int) d) a (fun _ a'=>Has n a' (dp A id (Y (f.wr off d))) (k+bE f.pr-bE (f.wr off d).pr)/\bE (f.wr off d).pr<=k+bE f.pr) (fun c=>c=7/\k+bE f.pr<bE (f.wr off d).pr):=by
 have l0:=hh;obtain ⟨own,N,S,hk,hA⟩:=hh;obtain ⟨h,hN,rfl⟩:=Has.at hA hf;obtain ⟨i0,T,ho⟩:=S.lay.ok _ _ hN;obtain ⟨L,hs,ht⟩:=S.rest id h (by omega) hN;have z0:=ho.Je;have z1:=ho.Np;refine (aI.load hr hn S hN).bind fun x a' e=>?_;obtain ⟨rfl,rfl⟩:=e
 by_cases v:d.length=0
 .rw [AF.RM _ _ v]
  refine aI.congr (m':=WM.pure ()) (aI.pure ⟨?_,by omega⟩) fun st=>(if_pos ⟨by omega,hd,by omega⟩).trans (if_pos v);rw [Kq hf,Nat.add_sub_cancel];exact l0
 .refine aI.congr (m':=WM.bind (xM ask n off d d.length 0 x) (GL off d)) ?_ fun st=>by
   refine ((if_pos ⟨by omega,hd,by omega⟩).trans (if_neg v)).trans ?_;rw [J2]
  have g0:bE (gy a'.V x).pr=x.lJ:=(ho.lJ L).symm
  have W0:UD n a' N id (wE own n+x.lJ) x off d 0 a' x:=⟨⟨own,N,bp.start S hN⟩,⟨rfl,rfl,rfl⟩,fun p _=>by rw [if_neg (by omega)],fun i _=>by
   have:cR off 0 i=H:=by unfold cR;simp
   rw [this,Bool.or_false],fun o=>.inl o⟩
  refine ((aI.wr hr hn L off d hm d.length 0 a' x (Nat.zero_le _) (by omega) W0 (fun _=>.inl rfl)).mono (fun _ _ h=>h) fun c hc=>⟨hc.1,by rw [g0,<- hk];exact hc.2⟩).bind fun h' b0 j=>?_
  .obtain ⟨o0,N',d0⟩:=j.st
   obtain ⟨s1,s2,s3⟩:=j.same;obtain ⟨z,hz⟩:∃ z,max h'.n.sz ((off+d.length:Nat):Int)=z:=⟨_,rfl⟩
   show aI n V0 I (dQ (h'.cJ (max h'.n.sz ((off+d.length:Nat):Int)))) b0 _ _
   rw [hz];have n0:z=max x.n.sz ((off+d.length:Nat):Int):=by rw [<- hz,s3]
   have r:=d0.ok;have k0:(h'.cJ z).Ok n id:=⟨r.fit,r.id,r.kd,r.Gq,r.Jd,show 0<=z by omega,show z<=122880 by omega,r.xH,r.zI,r.pg,r.rz⟩
   have T':=d0.set k0 rfl fun _ _=>rfl
   have c0:(h'.cJ z).Fin:=by
    refine ⟨fun i hi hb=>?_,fun o=>?_⟩
    .have e0:aY z<=i:=hb
     show h'.aL i=0
     rw [<- gP hi,j.Pt i hi];have e1:dS x i=H:=(gP hi).2 (L.hi i hi (by unfold aY at e0 ⊢;omega))
     have e2:cR off d.length i=H:=by
      cases o:cR off d.length i with
      | false=>rfl
      | true=>
       obtain ⟨t,y,h3⟩:=cF.1 o;unfold aY at e0;omega
     rw [e1,e2];rfl
    .rcases j.rw o with o|⟨i,T,u,i3⟩
     .obtain ⟨i,T,u,i3⟩:=L.SA o
      refine ⟨i,T,u,?_⟩;have:dS h' i=Q:=by rw [j.Pt i u,eL.2 ⟨u,i3⟩];rfl
      exact (eL.1 this).2
     .refine ⟨i,T,u,?_⟩
      have:dS h' i=Q:=by rw [j.Pt i u,i3,K4]
      exact (eL.1 this).2
   have f0:∀ p,p<122880->jo b0.V (h'.cJ z) p=((gy a'.V x).wr off d).tF p:=fun p hp=>by
    show jo b0.V h' p=if off<=p/\p<off+d.length then d.getD (p-off) 0 else if p<122880 then jo a'.V x p else 0
    rw [j.El p hp,if_pos hp]
   refine (aI.nz T' hn c0).mono (fun _ b e=>?_) fun _ h=>h;subst e;have:=T'.done hn c0 (fun p t y=>?_) hA ((gy a'.V x).wr off d) s1 s2 ?_ f0 (fun p hp=>?_) (fun i hi=>j.Pt i hi) fun i hi=>?_
   .rw [<- hk,g0]
    refine ⟨this,?_⟩;have t:=T'.cons;have y:=k0.lJ c0;have h3:bE ((gy a'.V x).wr off d).pr=bE (dS (h'.cJ z)):=sU fun i hi=>(j.Pt i hi).symm;omega
   .have m0:z<=p:=y
    rw [f0 p t];show (if off<=p/\p<off+d.length then d.getD (p-off) 0 else if p<122880 then jo a'.V x p else 0)=0
    rw [if_neg (by omega),if_pos t];exact ht p t (by omega)
   .show z=(((if d.length=0 then x.n.sz.toNat else max x.n.sz.toNat (off+d.length)):Nat):Int)
    rw [if_neg v];omega
   .show (if off<=p/\p<off+d.length then d.getD (p-off) 0 else if p<122880 then jo a'.V x p else 0)=0
    rw [if_neg (by omega),if_neg (by omega)]
   .show (dS x i || cR off d.length i)=H
    have e1:dS x i=H:=by unfold dS;simp;omega
    have e2:cR off d.length i=H:=by
     cases o:cR off d.length i with
     | false=>rfl
     | true=>
      obtain ⟨t,y,h3⟩:=cF.1 o;omega
    rw [e1,e2];rfl
end
def AF.cut (f:AF) (j:Nat):AF:={ f with sz:=j,tF:=fun p=>if p<j then f.tF p else 0,pr:=fun i=>f.pr i && decide (480*i<j) }
section
variable {σ α:Type} {n id k q K:Nat} {own:Nat->Own} {N N0:Nat->Option Hd} {h h0:Hd} {a a0:Aw} {V0:Nat->List UInt8} {I:σ->Prop} {ask:cI σ} {E:Int->Prop} {A:Nat->Option AF} {f:AF}
theorem BY (o:h.fit):h.row=L2 240 0↔∀ i,16<=i->i<256->h.aL i=0:=by
 constructor
 .intro e i v y
  unfold Hd.aL;rw [if_neg (by omega),e];simp only [E2,V2];split <;> rfl
 .intro t
  rw [L4];refine ⟨o.2,fun x r=>?_⟩;obtain ⟨i,hi,rfl⟩:=D3 r;have u:=o.2;have j:=t (16+i) (by omega) (by omega);unfold Hd.aL at j;rw [if_neg (by omega),show 16+i-16=i by omega,E2,R2 hi] at j;exact j
theorem aI.Un (hr:pP ask n V0 I) (T:bp n a0 N0 id K a own N h) {j:Nat} (hs:h.n.sz=(j:Int)) (k0:j<=122880) (hp:∀ i,i<256->j<=480*i->h.aL i=0) :
  aI n V0 I (wM ask h) a (fun _ a'=>bp n a0 N0 id K a' own N h/\∀ p,p<122880->jo a'.V h p=if p<j then jo a.V h p else 0) E:=by
 have v:(h.n.sz/480).toNat=j/480:=by rw [hs];omega
 have e2:(h.n.sz%480).toNat=j%480:=by rw [hs];omega
 have L:∀ p,p<122880->¬ p<j->p/480≠j/480\/j%480=0->h.aL (p/480)=0:=fun p u o r=>hp _ (by omega) (by omega)
 by_cases u:h.n.sz%480=0
 .refine aI.congr (m':=WM.pure ()) (aI.pure ⟨T,fun p o=>?_⟩) fun st=>if_pos u
  split
  .rfl
  .rename_i r
   unfold jo;rw [if_pos (L p o r (.inr (by omega)))]
 .by_cases o:h.aL (h.n.sz/480).toNat=0
  .refine aI.congr (m':=WM.pure ()) (aI.pure ⟨T,fun p r=>?_⟩) fun st=>(if_neg u).trans (if_pos o)
   split
   .rfl
   .rename_i h4
    unfold jo;rw [if_pos]
    by_cases t:p/480=j/480
    .rw [t,<- v];exact o
    .exact L p r h4 (.inl t)
  .have d0:=o
   rw [v] at d0;have hq:j/480<256:=by omega
   have i0:=T.ok.pg _ hq;obtain ⟨b,z⟩:∃ b:Nat,h.aL (j/480)=(b:Int):=⟨(h.aL (j/480)).toNat,by omega⟩
   refine aI.congr (m':=WM.bind (cS ask (b:Int)) fun c0=>bL (b:Int) (putAt c0 (j%480) (zs (480-j%480)))) ?_ fun st=>by
    refine ((if_neg u).trans (if_neg o)).trans ?_;rw [v,e2,z];rfl
   refine (aI.read hr (by omega) (by omega)).bind fun c0 a' e=>?_;obtain ⟨rfl,y,e3⟩:=e;rw [e3];have b0:(zs (480-j%480)).length=480-j%480:=bh _;have e0:(putAt (a.V b) (j%480) (zs (480-j%480))).length=480:=by rw [gg (by rw [b0,y];omega)];exact y
   obtain ⟨T2,f0⟩:=T.xx hq z (by omega) e0;refine (aI.write (by omega) (by omega) e0).mono (fun _ g0 e=>?_) fun _ h=>h;subst e;refine ⟨T2,fun p r=>?_⟩;show jo (zH a.V b _) h p=_
   rw [f0 p r]
   by_cases h4:p/480=j/480
   .rw [if_pos h4,pF (by rw [b0,y];omega),b0]
    by_cases t:p<j
    .rw [if_neg (by omega),if_pos t]
     unfold jo;rw [h4,if_neg d0,z,J2]
    .rw [if_pos (by omega),if_neg t,Fh]
   .rw [if_neg h4]
    split
    .rfl
    .rename_i t
     unfold jo;rw [if_pos (L p r t (.inl h4))]
structure U7 (n:Nat) (a0:Aw) (N0:Nat->Option Hd) (id K:Nat) (h0:Hd) (bl k:Nat) (a:Aw) (h:Hd):Prop where
 st:∃ own N,bp n a0 N0 id K a own N h
 V:a.V=a0.V
 same:yr h h0
 rw:h.n.rw=h0.n.rw
 pg:∀ i,i<256->h.aL i=if bl<=i/\i<k then 0 else h0.aL i
def Ra (n:Nat) (id K:Nat) (A:Nat->Option AF) (f:AF) (j:Nat) (a':Aw):Prop:=Has n a' (dp A id (Y (f.cut j))) (K-bE (f.cut j).pr)
theorem aI.UL (hr:pP ask n V0 I) (hn:n<=3840) {j:Nat} (hs:j<=122880) (hA:∀ id,A id=(N0 id).map (gy a0.V)) (T:bp n a0 N0 id K a own N h) (hV:a.V=a0.V) (r:h.n.kd=h0.n.kd/\h.n.lk=h0.n.lk/\h.n.sz=(j:Int))
  (v:∀ i,i<256->h.aL i=if (aY j).toNat<=i/\i<256 then 0 else h0.aL i) (b0:h.n.rw≠0->∃ i,16<=i/\i<256/\h.aL i≠0) :
  aI n V0 I (AG ask h) a (fun _ a'=>Ra n id K A (gy a0.V h0) j a') E:=by
 have c0:(aY j).toNat=(j+479)/480:=by unfold aY;omega
 have L:∀ i,i<256->j<=480*i->h.aL i=0:=fun i o t=>by rw [v i o,if_pos ⟨by omega,o⟩]
 have z:h.Fin:=⟨fun i hi u=>L i hi (by rw [r.2.2] at u;unfold aY at u;omega),b0⟩
 refine (aI.Un hr T r.2.2 hs L).bind fun _ a1 e=>?_;obtain ⟨y,u⟩:=e;refine (aI.nz y hn z).mono (fun _ a2 e=>?_) fun _ h=>h;subst e;have d0:(gy a0.V h0).sz=h0.n.sz.toNat:=rfl;refine y.done hn z (fun p o t=>?_) hA ((gy a0.V h0).cut j) r.1 r.2.1 r.2.2 (fun p o=>?_) (fun p o=>?_) (fun i hi=>?_) fun i hi=>?_
 .rw [u p o,if_neg (by rw [r.2.2] at t;omega)]
 .rw [u p o]
  show _=if p<j then (if p<122880 then jo a0.V h0 p else 0) else 0
  rw [if_pos o]
  split
  .rename_i t
   rw [hV];refine Bc ?_;rw [v _ (by omega),if_neg (by omega)]
  .rfl
 .show (if p<j then (if p<122880 then jo a0.V h0 p else 0) else 0)=0
  rw [if_neg (by omega)]
 .show dS h i=(dS h0 i && decide (480*i<j))
  unfold dS;rw [v i hi]
  by_cases t:(aY j).toNat<=i
  .rw [if_pos ⟨t,hi⟩,decide_eq_false (show ¬ 480*i<j by omega)];simp
  .rw [if_neg (by omega),decide_eq_true (show 480*i<j by omega),Bool.and_true]
 .show (dS h0 i && decide (480*i<j))=H
  unfold dS;simp;omega
theorem aI.U4 (hr:pP ask n V0 I) (hn:n<=3840) (d0:0<n) {o:Nat} (hs:o<=122880) (hA:∀ id,A id=(N0 id).map (gy a0.V)) (l0:h0.Fin):∀ (j:Nat) (a:Aw) (h:Hd),j<=256-(aY o).toNat->U7 n a0 N0 id K h0 (aY o).toNat (256-j) a h ->
  aI n V0 I (pI ask o j h) a (fun _ a'=>Ra n id K A (gy a0.V h0) o a') E:=by
 have k0:(aY o).toNat=(o+479)/480:=by unfold aY;omega
 intro j
 induction j with
 | zero=>
  intro a h _ T;obtain ⟨own,N,y⟩:=T.st;have r:=y.ok;obtain ⟨s1,s2,s3⟩:=T.same
  by_cases hc:h.n.rw≠0/\h.row=L2 240 0
  .obtain ⟨v,t⟩:=hc
   have hz:=(BY r.fit).1 t;have z:=y.FC hn v hz;refine aI.congr (m':=WM.bind (cG ask h.n.rw.toNat H) fun _=>AG ask ((h.dw 0).cJ o)) ?_ fun st=>if_pos ⟨v,t⟩;refine (aI.mark hr d0).bind fun _ a' e=>?_;subst e;have u:=z.ok;have T2:=z.set (h':=(h.dw 0).cJ o) ⟨u.fit,u.id,u.kd,u.Gq,u.Jd,show (0:Int)<=(o:Int) by omega,show (o:Int)<=122880 by omega,u.xH,u.zI,u.pg,u.rz⟩ rfl fun _ _=>rfl;exact aI.UL hr hn hs hA T2 T.V ⟨s1,s2,rfl⟩ T.pg fun h9=>absurd rfl h9
  .refine aI.congr (m':=AG ask (h.cJ o)) ?_ fun st=>if_neg hc
   have T2:=y.set (h':=h.cJ o) ⟨r.fit,r.id,r.kd,r.Gq,r.Jd,show (0:Int)<=(o:Int) by omega,show (o:Int)<=122880 by omega,r.xH,r.zI,r.pg,r.rz⟩ rfl fun _ _=>rfl;refine aI.UL hr hn hs hA T2 T.V ⟨s1,s2,rfl⟩ T.pg fun h9=>?_;have e0:h.n.rw≠0:=h9;have f0:¬ ∀ i,16<=i->i<256->h.aL i=0:=fun hz=>hc ⟨e0,(BY r.fit).2 hz⟩;refine Classical.byContradiction fun g0=>f0 fun i i1 i2=>Classical.byContradiction fun i0=>g0 ⟨i,i1,i2,i0⟩
 | succ j ih=>
  intro a h hj T;obtain ⟨own,N,y⟩:=T.st;obtain ⟨k,L⟩:∃ k,256-(j+1)=k:=⟨_,rfl⟩
  have b0:k<256:=by omega
  have c0:(aY o).toNat<=k:=by omega
  rw [L] at T
  by_cases v:h.aL k=0
  .refine aI.congr (m':=pI ask o j h) ?_ fun st=>if_pos (by rw [L];exact v)
   refine ih a h (by omega) ⟨T.st,T.V,T.same,T.rw,fun i hi=>?_⟩;rw [T.pg i hi,show 256-j=k+1 by omega]
   by_cases e:i=k
   .subst e
    have:=T.pg i hi;rw [if_neg (by omega),v] at this;rw [if_neg (by omega),if_pos ⟨c0,by omega⟩];exact this.symm
   .by_cases t:(aY o).toNat<=i/\i<k
    .rw [if_pos t,if_pos ⟨t.1,by omega⟩]
    .rw [if_neg t,if_neg (by omega)]
  .refine aI.congr (m':=WM.bind (cG ask (h.aL k).toNat H) fun _=>pI ask o j (h.put k 0)) ?_ fun st=>by
    refine (if_neg (by rw [L];exact v)).trans ?_;rw [L]
   refine (aI.mark hr d0).bind fun _ a' e=>?_;subst e;have z:=y.Bn hn b0 v;obtain ⟨s1,s2,s3⟩:=xr h k 0;obtain ⟨t1,t2,t3⟩:=T.same;refine ih _ (h.put k 0) (by omega) ⟨⟨_,_,z⟩,T.V,⟨s1.trans t1,s2.trans t2,s3.trans t3⟩,by rw [Hd.gO];exact T.rw,fun i hi=>?_⟩;rw [Hd.jd y.ok.fit b0,show 256-j=k+1 by omega]
   by_cases e:i=k
   .subst e;rw [if_pos rfl,if_pos ⟨c0,by omega⟩]
   .rw [if_neg e,T.pg i hi]
    by_cases t:(aY o).toNat<=i/\i<k
    .rw [if_pos t,if_pos ⟨t.1,by omega⟩]
    .rw [if_neg t,if_neg (by omega)]
theorem aI.SX (hr:pP ask n V0 I) (hn:n<=3840) (u:Has n a A k) (t:A id=Y f) (j:Nat) (L:j<=122880) :
  aI n V0 I (mu ask n (id:Int) (j:Int)) a (fun _ a'=>Ra n id (k+bE f.pr) A f j a') E:=by
 obtain ⟨own,N,S,v,o⟩:=u;obtain ⟨h,hN,rfl⟩:=Has.at o t;obtain ⟨i0,i1,z⟩:=S.lay.ok _ _ hN;obtain ⟨r,b0,ht⟩:=S.rest id h (by omega) hN;refine (aI.load hr hn S hN).bind fun x a' e=>?_;obtain ⟨rfl,rfl⟩:=e;have y:bE (gy a'.V x).pr=x.lJ:=(z.lJ r).symm;have T:(aY j).toNat=(j+479)/480:=by unfold aY;omega
 refine aI.congr (m':=pI ask j (256-(aY j).toNat) x) ?_ fun st=>if_pos ⟨by omega,by omega⟩;rw [y,<- v];refine aI.U4 hr hn (by omega) L o r (256-(aY j).toNat) a' x (by omega) ⟨⟨own,N,bp.start S hN⟩,rfl,⟨rfl,rfl,rfl⟩,rfl,fun i hi=>?_⟩;rw [if_neg (by omega)]
theorem aI.SM (hr:pP ask n V0 I) (hn:n<=3840) (c0:0<n) {P:Unit->Aw->Prop} (b0:h0.fit) (hP:∀ a own N h,bp n a0 N0 id K a own N h->a.V=a0.V->h.n.rw=h0.n.rw->(∀ i,i<256->h.aL i=0)->P () a) :
  ∀ (j:Nat) (a:Aw) (own:Nat->Own) (N:Nat->Option Hd) (h:Hd),j<=256->bp n a0 N0 id K a own N h->a.V=a0.V->h.n.rw=h0.n.rw->(∀ i,i<256->h.aL i=if i<256-j then 0 else h0.aL i)->aI n V0 I (ir ask (h0.ib.drop (256-j))) a P E:=by
 intro j
 induction j with
 | zero=>
  intro a own N h _ T u y o;rw [List.drop_of_length_le (by rw [Hd.jy b0];omega)];exact aI.pure (hP a own N h T u y fun i hi=>by rw [o i hi,if_pos (by omega)])
 | succ j ih=>
  intro a own N h hj T u y o;obtain ⟨k,hk⟩:∃ k,256-(j+1)=k:=⟨_,rfl⟩
  have v:k<256:=by omega
  rw [hk] at o ⊢;rw [Hd.lW b0 v];have z:=o k v;rw [if_neg (by omega)] at z;have L:k+1=256-j:=by omega
  by_cases t:h0.aL k=0
  .refine aI.congr (m':=ir ask (h0.ib.drop (k+1))) ?_ fun st=>if_pos t
   rw [L];refine ih a own N h (by omega) T u y fun i hi=>?_;rw [o i hi]
   by_cases e:i=k
   .subst e;rw [if_neg (by omega),if_pos (by omega),t]
   .by_cases r:i<k
    .rw [if_pos r,if_pos (by omega)]
    .rw [if_neg r,if_neg (by omega)]
  .refine aI.congr (m':=WM.bind (cG ask (h0.aL k).toNat H) fun _=>ir ask (h0.ib.drop (k+1))) ?_ fun st=>if_neg t
   refine (aI.mark hr c0).bind fun _ a' e=>?_;subst e;rw [<- z,L];refine ih _ _ _ (h.put k 0) (by omega) (T.Bn hn v (by rw [z];exact t)) u (by rw [Hd.gO];exact y) fun i hi=>?_;rw [Hd.jd T.ok.fit v]
   by_cases e:i=k
   .subst e;rw [if_pos rfl,if_pos (by omega)]
   .rw [if_neg e,o i hi]
    by_cases r:i<k
    .rw [if_pos r,if_pos (by omega)]
    .rw [if_neg r,if_neg (by omega)]
theorem J1 (o:∀ i,i<256->h.aL i=0) (hr:h.n.rw=0):h.lJ=1:=by
 unfold Hd.lJ
 have e:jY (dS h)=0:=by
  unfold jY;rw [P3];intro i hi j;exact (eL.1 j).2 (o i (List.mem_range.1 hi))
 rw [e,if_pos hr]
theorem bp.gone (T:bp n a0 N0 id K a own N h) (hn:n<=3840) (y:a.V=a0.V) (v:∀ id,A id=(N0 id).map (gy a0.V)) (r:h.n.rw=0) (o:∀ i,i<256->h.aL i=0):Has n { a with B:=dY a.B id H } (dp A id U) K:=by
 obtain ⟨i0,t,L⟩:=T.sp.lay.ok _ _ T.hN;refine ⟨dp own id mI,dp N id U,(T.sp.step (T.sp.lay.gone T.hN r o) (T.sp.bm.set hn t _ _ (by simp)) fun id' z=>aJ _ _ z).shut fun g j=>(by rw [bA] at j;cases j),?_,fun id'=>?_⟩
 .have:=lO (own:=own) (x:=mI) t
  rw [T.sp.lay.tq T.hN,if_pos rfl,if_neg (by simp)] at this;have u:=T.cons;rw [J1 o r] at u;omega
 .by_cases e:id'=id
  .subst e;rw [bA,bA];rfl
  .rw [aJ _ _ e,aJ _ _ e,v id',<- T.RU id' e]
   show _=(N id').map (gy a.V)
   rw [y]
theorem aI.free (hr:pP ask n V0 I) (hn:n<=3840) (hh:Has n a A k) (hf:A id=Y f) :
  aI n V0 I (qH ask n (id:Int)) a (fun _ a'=>Has n a' (dp A id U) (k+bE f.pr)) E:=by
 obtain ⟨own,N,S,hk,y⟩:=hh;obtain ⟨h,hN,rfl⟩:=Has.at y hf;obtain ⟨i0,i1,z⟩:=S.lay.ok _ _ hN;obtain ⟨c0,e0,ht⟩:=S.rest id h (by omega) hN;refine (aI.load hr hn S hN).bind fun x a' e=>?_;obtain ⟨rfl,rfl⟩:=e;have d0:bE (gy a'.V x).pr=x.lJ:=(z.lJ c0).symm;rw [d0,<- hk];refine aI.bind (P:=fun _ j=>∃ v t h',bp n a' N id (wE own n+x.lJ) j v t h'/\j.V=a'.V/\h'.n.rw=x.n.rw/\∀ i,i<256->h'.aL i=0) ?_ fun _ j e=>?_
 .have:=aI.SM (E:=E) hr hn (by omega) (P:=fun _ j=>∃ v t h',bp n a' N id (wE own n+x.lJ) j v t h'/\j.V=a'.V/\h'.n.rw=x.n.rw/\∀ i,i<256->h'.aL i=0) z.fit
   (fun a own N h T u r o=>⟨own,N,h,T,u,r,o⟩) 256 a' own N x (D2 _) (bp.start S hN) rfl rfl fun i hi=>by rw [if_neg (by omega)]
  rw [Nat.sub_self,List.drop_zero] at this;exact this
 .obtain ⟨v,t,h',T,u,r,o⟩:=e
  have b0:=z.id
  by_cases h0:x.n.rw=0
  .refine aI.congr (m':=cG ask x.id H) ?_ fun st=>if_pos h0
   rw [b0];refine (aI.mark hr (by omega)).mono (fun _ a3 e=>?_) fun _ h=>h;subst e;exact T.gone hn u y (by rw [r];exact h0) o
  .refine aI.congr (m':=WM.bind (cG ask x.n.rw.toNat H) fun _=>cG ask x.id H) ?_ fun st=>if_neg h0
   rw [b0];refine (aI.mark hr (by omega)).bind fun _ a3 e=>?_;subst e;refine (aI.mark hr (by omega)).mono (fun _ a4 e=>?_) fun _ h=>h;subst e;have L:=T.FC hn (by rw [r];exact h0) fun i _ hi=>o i hi;rw [r] at L;exact L.gone hn u y rfl o
end
section
variable {σ α:Type} {n id k:Nat} {own:Nat->Own} {N:Nat->Option Hd} {a a':Aw} {V0:Nat->List UInt8} {I:σ->Prop} {ask:cI σ} {E:Int->Prop} {P:α->Aw->Prop} {A:Nat->Option AF} {f:AF} {M:gD σ} {m:WM σ α}
theorem Has.congr (h:Has n a A k) (u:∀ i,0<i->i<n->a'.V i=a.V i) (hB:a'.B=a.B):Has n a' A k:=by
 obtain ⟨own,N,S,hk,T⟩:=h
 have v:∀ id g,N id=Y g->(∀ b,b=id\/own b=Jc id->a'.V b=a.V b)/\∀ b i,own b=EB id i->a'.V b=a.V b:=by
  intro id g o;obtain ⟨i0,i1,ho⟩:=S.lay.ok _ _ o
  have y:∀ b,own b≠mI->own b≠JC->a'.V b=a.V b:=fun b r t=>by
   refine u b ?_ ?_
   .rcases Nat.eq_zero_or_pos b with e|e
    .subst e;exact absurd S.lay.zero t
    .exact e
   .refine Nat.lt_of_not_le fun L=>r (S.lay.out b L)
  refine ⟨fun b j=>?_,fun b i j=>y b (by rw [j];simp) (by rw [j];simp)⟩;rcases j with rfl|j
  .exact u b i0 i1
  .exact y b (by rw [j];simp) (by rw [j];simp)
 refine ⟨own,N,⟨S.lay,by rw [hB];exact S.bm,fun b h0 j=>by rw [u b h0 j];exact S.len b h0 j,fun id g b0 o=>?_⟩,hk,fun id=>?_⟩
 .obtain ⟨r,t,z⟩:=S.rest id g b0 o
  exact ⟨r,t.frame S.lay o (v id g o).1,z.frame S.lay o (v id g o).2⟩
 .rw [T id]
  cases o:N id with
  | none=>rfl
  | some g=>
   show Y (gy a.V g)=Y (gy a'.V g)
   congr 1;unfold gy;congr 1;funext p
   split
   .rename_i hp;exact (nZ S.lay o (v id g o).2 hp).symm
   .rfl
structure n8 (n:Nat) (V0:Nat->List UInt8) (I:σ->Prop) (M:gD σ) (A:Nat->Option AF) (k:Nat):Prop where
 gr:Good n V0 I M
 has:Has n (Lv V0 M) A k
theorem n8.reader (h:n8 n V0 I M A k) {s:σ} (j:I s):n8 n V0 I { M with s:=s } A k:=⟨⟨h.gr.err,j,h.gr.wr,h.gr.rd,h.gr.keys⟩,h.has⟩
theorem n8.run (hr:pP ask n V0 I) (h0:0<n) (h:n8 n V0 I M A k) (v:aI n V0 I m (Lv V0 M) P E) :
  (∃ x M' a',dK m M=(.ok x,M')/\P x a'/\∀ A' k',Has n a' A' k'->n8 n V0 I M' A' k')\/∃ c j,dK m M=(.bad c,{ M with s:=j })/\E c/\n8 n V0 I { M with s:=j } A k:=by
 rcases aI.run hr h0 h.gr v with ⟨x,M',a',o,r,t,h4,u⟩|⟨c,j,o,r,t⟩
 .exact .inl ⟨x,M',a',o,t,fun A' k' y=>⟨r,y.congr u h4⟩⟩
 .exact .inr ⟨c,j,o,t,h.reader r⟩
variable (hr:pP ask n V0 I) (h0:0<n) (hn:n<=3840)
include hr h0
theorem Cv (h4:4<=n) (hn:n<=3840) (t:Good n V0 I M):∃ M',dK (ja ask) M=(.ok (),M')/\n8 n V0 I M' (fun id=>if id=1 then Y (kr 2) else U) (n-2):=by
 rcases aI.run hr h0 t (aI.format (E:=fun _=>False) hr h4 hn fun b _ v=>t.O4 hr v) with ⟨x,M',a',o,r,j,h4,u⟩|⟨c,y,o,r,j⟩
 .exact ⟨M',o,r,j.congr u h4⟩
 .exact j.elim
include hn
theorem Kw (h:n8 n V0 I M A k) (v:A id=Y f):∃ x M',dK (re ask n (id:Int)) M=(.ok x,M')/\x.kd=f.kd/\x.lk=f.lk/\x.sz=f.sz/\n8 n V0 I M' A k:=by
 rcases h.run hr h0 (aI.node (E:=fun _=>False) hr hn h.has v) with ⟨x,M',a',o,⟨j,r,h4,t⟩,u⟩|⟨c,y,o,j,r⟩
 .exact ⟨x,M',o,j,r,h4,u _ _ (by rw [t];exact h.has)⟩
 .exact j.elim
theorem C7 (h:n8 n V0 I M A k) (v:A id=Y f) (off j:Nat):∃ M',dK (jA ask n (id:Int) (off:Int) (j:Int)) M=(.ok (f.sub off j),M')/\n8 n V0 I M' A k:=by
 rcases h.run hr h0 (aI.QS (E:=fun _=>False) hr hn h.has v off j) with ⟨x,M',a',r,⟨o,t⟩,u⟩|⟨c,z,r,o,y⟩
 .exact ⟨M',by rw [r,o],u _ _ (by rw [t];exact h.has)⟩
 .exact o.elim
theorem E6 (h:n8 n V0 I M A k) {kd:Int} (z:kd=1\/kd=2) :
  (∃ id M',dK (wW ask n kd) M=(.ok id,M')/\A id=U/\0<id/\id<n/\0<k/\n8 n V0 I M' (dp A id (Y (kr kd))) (k-1))\/(∃ j,dK (wW ask n kd) M=(.bad 7,{ M with s:=j })/\k=0/\n8 n V0 I { M with s:=j } A k):=by
 rcases h.run hr h0 (aI.new hr h0 hn h.has z) with ⟨x,M',a',o,⟨r,t,h4,u,v⟩,y⟩|⟨c,j,o,⟨rfl,r⟩,t⟩
 .exact .inl ⟨x,M',o,r,t,h4,u,y _ _ v⟩
 .exact .inr ⟨j,o,r,t⟩
theorem FP (h:n8 n V0 I M A k) (v:A id=Y f) (d:Int) :
  (∃ M',dK (kL ask n (id:Int) d) M=(.ok (),M')/\(0<=wrap64 (f.lk+d)/\wrap64 (f.lk+d)<=65535)/\n8 n V0 I M' (dp A id (Y { f with lk:=wrap64 (f.lk+d) })) k) \/
  (∃ j,dK (kL ask n (id:Int) d) M=(.bad 1,{ M with s:=j })/\¬ (0<=wrap64 (f.lk+d)/\wrap64 (f.lk+d)<=65535)/\n8 n V0 I { M with s:=j } A k):=by
 rcases h.run hr h0 (aI.Sl hr hn h.has v d) with ⟨x,M',a',o,⟨r,t⟩,u⟩|⟨c,j,o,⟨rfl,r⟩,t⟩
 .exact .inl ⟨M',o,r,u _ _ t⟩
 .exact .inr ⟨j,o,r,t⟩
theorem Gl (h:n8 n V0 I M A k) (u:A id=Y f) (j:Nat) (v:j<=122880) :
  ∃ M',dK (mu ask n (id:Int) (j:Int)) M=(.ok (),M')/\n8 n V0 I M' (dp A id (Y (f.cut j))) (k+bE f.pr-bE (f.cut j).pr):=by
 rcases h.run hr h0 (aI.SX (E:=fun _=>False) hr hn h.has u j v) with ⟨x,M',a',r,o,t⟩|⟨c,z,r,o,y⟩
 .exact ⟨M',r,t _ _ o⟩
 .exact o.elim
theorem Lc (h:n8 n V0 I M A k) (t:A id=Y f):∃ M',dK (qH ask n (id:Int)) M=(.ok (),M')/\n8 n V0 I M' (dp A id U) (k+bE f.pr):=by
 rcases h.run hr h0 (aI.free (E:=fun _=>False) hr hn h.has t) with ⟨x,M',a',o,j,r⟩|⟨c,v,o,j,u⟩
 .exact ⟨M',o,r _ _ j⟩
 .exact j.elim
theorem sS (h:n8 n V0 I M A k) (y:A id=Y f) (off:Nat) (d:List UInt8) (v:d.length<=4096) (z:off+d.length<=122880) :
  (∃ M',dK (gz ask n (id:Int) (off:Int) d) M=(.ok (),M')/\bE (f.wr off d).pr<=k+bE f.pr/\n8 n V0 I M' (dp A id (Y (f.wr off d))) (k+bE f.pr-bE (f.wr off d).pr)) \/
  (∃ j,dK (gz ask n (id:Int) (off:Int) d) M=(.bad 7,{ M with s:=j })/\k+bE f.pr<bE (f.wr off d).pr/\n8 n V0 I { M with s:=j } A k):=by
 rcases h.run hr h0 (aI.Ny hr hn h.has y off d v z) with ⟨x,M',a',o,⟨r,t⟩,u⟩|⟨c,j,o,⟨rfl,r⟩,t⟩
 .exact .inl ⟨M',o,t,u _ _ r⟩
 .exact .inr ⟨j,o,r,t⟩
omit hn in
theorem Jk (h:n8 n V0 I M A k):∃ M',dK (oS ask n) M=(.ok k,M')/\n8 n V0 I M' A k:=by
 rcases h.run hr h0 (aI.left (E:=fun _=>False) hr h0 h.has) with ⟨x,M',a',o,⟨j,r⟩,t⟩|⟨c,v,o,j,u⟩
 .exact ⟨M',by rw [o,j],t _ _ (by rw [r];exact h.has)⟩
 .exact j.elim
end
variable {σ α β:Type} {m:WM σ α} {k:α->WM σ β} {ask:cI σ} {c d n:Nat}
def bK (m:WM σ α) (c:Nat):Prop:=∀ st a j,m st=(.ok a,j)->j.b.W.length<=st.b.W.length+c
theorem bK.bind (h:bK m c) (o:∀ a,bK (k a) d):bK (WM.bind m k) (c+d):=by
 intro st a y e;unfold WM.bind at e
 cases j:m st with
 | mk r v=>
  rw [j] at e
  cases r with
  | ok x=>have t:=h _ _ _ j;have u:=o x _ _ _ e;omega
  | bad c=>cases e
theorem bK.fB (h:bK m 0) (j:∀ a,bK (k a) d):bK (WM.bind m k) d:=by
 have:=h.bind j;rwa [Z3] at this
theorem bK.mono (h:bK m c) (j:c<=d):bK m d:=fun st a o e=>by have:=h _ _ _ e;omega
theorem bK.pure (a:α):bK (WM.pure a:WM σ α) 0:=fun st b j e=>by cases e;exact D2 _
theorem bK.ite {p:Prop} [Decidable p] {j:WM σ α} (h:bK m c) (h':bK j c):bK (fun st=>if p then m st else j st) c:=fun st a o e=>by
 simp only at e;split at e;exact h _ _ _ e;exact h' _ _ _ e
theorem bK.stop (z:Int):bK (fun st=>(.bad z,st):WM σ α) 0:=fun st a j e=>by cases e
theorem bK.skip (a:α):bK (fun st=>(.ok a,st):WM σ α) 0:=fun st b j e=>by cases e;exact D2 _
theorem DV (b:gD σ) (id:Int):(fY ask b id).2.W=b.W:=by
 unfold fY
 split
 .rfl
 .split
  .rfl
  .split
   .rfl
   .unfold sk;split <;> rfl
theorem jK (id:Int):bK (cS ask id) 0:=fun st a j e=>by
 unfold cS at e
 split at e
 .cases e
 .split at e
  .cases e
  .cases e;show (fY ask st.b id).2.W.length<=_;rw [DV];omega
theorem jO (id:Int) (l:List UInt8):bK (bL id l:WM σ Unit) 1:=fun st a j e=>by
 unfold bL at e
 split at e
 .cases e
  show (SL.fA st.b.W id l).length<=_
  rw [vu];split <;> omega
 .cases e
theorem sw:bK (jm ask) 0:=fun st a j e=>by
 unfold jm at e
 split at e
 .cases e;exact D2 _
 .split at e
  .rename_i h;cases e;have:=jK 0 _ _ _ h;exact this
  .cases e
theorem ia (id:Nat) (t:Bool):bK (cG ask id t) 0:=sw.fB fun l st a j e=>by cases e;exact D2 _
theorem oE:bK (iG ask n) 0:=sw.fB fun l st a o e=>by
 unfold sF at e
 cases j:eZ l n with
 | none=>rw [j] at e;cases e
 | some k=>rw [j] at e;cases e;exact D2 _
theorem nF (l:List Int):bK (eD n l:WM σ Unit) 0:=fun st a j e=>by
 unfold eD at e;split at e <;> cases e;exact D2 _
theorem uU (id:Nat) (nd:Nd) (row:List Int):bK (iS n id nd row:WM σ Hd) 0:=(nF _).fB fun _=>(nF _).fB fun _=>bK.pure _
theorem n9 (id:Int):bK (fT ask n id) 0:=by
 refine bK.ite ((jK _).fB fun L=>bK.ite (bK.ite (uU _ _ _) ((nF _).fB fun _=>(jK _).fB fun L=>bK.ite (uU _ _ _) (bK.stop _))) (bK.stop _)) (bK.stop _)
theorem lE (h:Hd):bK (dQ h:WM σ Unit) 2:=by
 refine bK.ite ((jO _ _).bind (d:=1) fun _=>bK.ite ((bK.skip _).mono (by omega)) (bK.ite (jO _ _) ((bK.stop _).mono (by omega)))) ((bK.stop _).mono (by omega))
def Still (m:WM σ α):Prop:=∀ st a j,m st=(.ok a,j)->j.b.W.length<=st.b.W.length/\j.dt=st.dt
theorem Still.bind (h:Still m) (u:∀ a,Still (k a)):Still (WM.bind m k):=by
 intro st a y e;unfold WM.bind at e
 cases t:m st with
 | mk r v=>
  rw [t] at e
  cases r with
  | ok x=>have j:=h _ _ _ t;have o:=u x _ _ _ e;exact ⟨K2 o.1 j.1,o.2.trans j.2⟩
  | bad c=>cases e
theorem Still.pure (a:α):Still (WM.pure a:WM σ α):=fun st b j e=>by cases e;exact ⟨D2 _,rfl⟩
theorem Still.ite {p:Prop} [Decidable p] {j:WM σ α} (h:Still m) (h':Still j):Still (fun st=>if p then m st else j st):=fun st a o e=>by
 simp only at e;split at e;exact h _ _ _ e;exact h' _ _ _ e
theorem Still.stop (z:Int):Still (fun st=>(.bad z,st):WM σ α):=fun st a j e=>by cases e
theorem Still.skip (a:α):Still (fun st=>(.ok a,st):WM σ α):=fun st b j e=>by cases e;exact ⟨D2 _,rfl⟩
theorem lM (id:Int):Still (cS ask id):=fun st a j e=>by
 refine ⟨jK id _ _ _ e,?_⟩;unfold cS at e
 split at e
 .cases e
 .split at e <;> cases e
  rfl
theorem Ef:Still (jm ask):=fun st a j e=>by
 refine ⟨sw _ _ _ e,?_⟩;unfold jm at e
 split at e
 .cases e;rfl
 .split at e
  .rename_i h;cases e;exact (lM 0 _ _ _ h).2
  .cases e
theorem mj (l:List Int):Still (eD n l:WM σ Unit):=fun st a j e=>by
 unfold eD at e;split at e <;> cases e;exact ⟨D2 _,rfl⟩
theorem td (id:Nat) (nd:Nd) (row:List Int):Still (iS n id nd row:WM σ Hd):=(mj _).bind fun _=>(mj _).bind fun _=>Still.pure _
theorem uQ (id:Int):Still (fT ask n id):=
 Still.ite ((lM _).bind fun L=>Still.ite (Still.ite (td _ _ _) ((mj _).bind fun _=>(lM _).bind fun L=>Still.ite (td _ _ _) (Still.stop _))) (Still.stop _)) (Still.stop _)
theorem Dp (node:Int):Still (re ask n node):=(uQ _).bind fun _=>Still.pure _
theorem wz (h:Hd) (off:Nat):∀ (f done:Nat) (L:List UInt8),Still (Co ask h off f done L)
 | 0,_,L=>Still.pure L
 | f+1,done,L=>Still.ite (Still.ite (wz h off f _ L) ((lM _).bind fun _=>wz h off f _ _)) (Still.skip _)
theorem zg (node off j:Int):Still (jA ask n node off j):=(uQ _).bind fun h=>Still.ite (Still.ite (Still.skip _) (wz _ _ _ _ _)) (Still.stop _)
theorem CK:Still (oS ask n):=Ef.bind fun _=>Still.pure _
theorem Still.run (h:Still m) {M M':gD σ} {x:α} (e:dK m M=(.ok x,M')):M'.W.length<=M.W.length:=by
 cases j:m ⟨M,U,H⟩ with
 | mk r st=>
  cases r with
  | ok y=>
   have o:=h _ _ _ j;rw [oB j o.2] at e;cases e;exact o.1
  | bad z=>rw [kZ j] at e;cases e
theorem bK.run (h:bK m c) {M M':gD σ} {x:α} (e:dK m M=(.ok x,M')):M'.W.length<=M.W.length+(c+1):=by
 unfold dK at e
 have t:bK (nu:WM σ Unit) 1:=fun st a u e=>by
  unfold nu at e
  split at e
  .exact jO _ _ st a u e
  .cases e;omega
 have o:bK (WM.bind m fun a=>WM.bind nu fun _=>WM.pure a) (c+1):=h.bind fun a=>t.bind (d:=0) fun _=>bK.pure a
 cases j:(WM.bind m fun a=>WM.bind nu fun _=>WM.pure a) ⟨M,U,H⟩ with
 | mk r st=>
  rw [j] at e
  cases r with
  | ok y=>cases e;exact o _ _ _ j
  | bad z=>cases e
theorem Mf (kd:Int):bK (wW ask n kd) 2:=bK.ite (oE.fB fun id=>(lE _).bind (d:=0) fun _=>bK.pure _) ((bK.stop _).mono (by omega))
theorem C8 (node j:Int):bK (kL ask n node j) 2:=(n9 _).fB fun h=>bK.ite (lE _) ((bK.stop _).mono (by omega))
theorem pU:∀ j:List Int,bK (ir ask j) 0
 | []=>bK.pure _
 | p :: j=>bK.ite (pU j) ((ia _ _).fB fun _=>pU j)
theorem Gn (node:Int):bK (qH ask n node) 0:=(n9 _).fB fun h=>(pU _).fB fun _=>bK.ite (ia _ _) ((ia _ _).fB fun _=>ia _ _)
theorem Jm (h:Hd):bK (wM ask h) 1:=bK.ite ((bK.skip _).mono (by omega)) (bK.ite ((bK.skip _).mono (by omega)) ((jK _).fB fun L=>jO _ _))
theorem AR (h:Hd):bK (AG ask h) 3:=(Jm h).bind (d:=2) fun _=>lE h
theorem KW (j:Int) (h:Hd):bK (Qe ask j h) 3:=bK.ite ((ia _ _).fB fun _=>AR _) (AR _)
theorem vt (o:Int):∀ (j:Nat) (h:Hd),bK (pI ask o j h) 3
 | 0,h=>KW o h
 | j+1,h=>bK.ite (vt o j h) ((ia _ _).fB fun _=>vt o j _)
theorem Eu (node j:Int):bK (mu ask n node j) 3:=(n9 _).fB fun h=>bK.ite (vt _ _ _) ((bK.stop _).mono (by omega))
theorem IL (h:Hd) (i:Nat) (j:Bool):bK (mE ask n h i j) 0:=
 bK.ite (bK.ite (oE.fB fun r=>oE.fB fun _=>bK.pure _) (oE.fB fun _=>bK.pure _)) (bK.ite (bK.skip _) ((jK _).fB fun _=>bK.pure _))
def AH (off l done:Nat):Nat:=if done<l then (off+l-1)/480-(off+done)/480+1 else 0
theorem F7 {off l done:Nat} (h:done<l):1+AH off l (done+iB (l-done) (off+done))<=AH off l done:=by
 have r:AH off l done=(off+l-1)/480-(off+done)/480+1:=if_pos h;rw [r]
 by_cases j:done+iB (l-done) (off+done)<l
 .have o:AH off l (done+iB (l-done) (off+done))=(off+l-1)/480-(off+(done+iB (l-done) (off+done)))/480+1:=if_pos j
  rw [o];have t:iB (l-done) (off+done)=480-(off+done)%480:=by unfold iB at j ⊢;omega
  rw [t] at j ⊢;omega
 .have o:AH off l (done+iB (l-done) (off+done))=0:=if_neg j
  rw [o];omega
theorem Fm (off:Nat) (dt:List UInt8):∀ (f done:Nat) (h:Hd),bK (xM ask n off dt f done h) (AH off dt.length done)
 | 0,_,h=>(bK.pure h).mono (by omega)
 | f+1,done,h=>by
  by_cases o:done<dt.length
  .have r:bK (WM.bind (mE ask n h ((off+done)/480) (iB (dt.length-done) (off+done) == 480)) (zv (xM ask n off dt f) done off (iB (dt.length-done) (off+done)) dt)) (1+AH off dt.length (done+iB (dt.length-done) (off+done))):=
    (IL _ _ _).fB fun p=>(jO _ _).bind fun _=>Fm off dt f _ _
   intro st a t e;have j:xM ask n off dt (f+1) done h st=(WM.bind (mE ask n h ((off+done)/480) (iB (dt.length-done) (off+done) == 480)) (zv (xM ask n off dt f) done off (iB (dt.length-done) (off+done)) dt)) st:=if_pos o;rw [j] at e;have u:=r _ _ _ e;have h4:=F7 (off:=off) o;omega
  .intro st a t e
   have j:xM ask n off dt (f+1) done h st=(.ok h,st):=if_neg o;rw [j] at e;cases e
   omega
theorem y7 (node off:Int) (dt:List UInt8):bK (gz ask n node off dt) (dt.length/480+4):=by
 refine (n9 _).fB fun h=>bK.ite (bK.ite ((bK.skip _).mono (by omega)) (((Fm _ _ _ _ _).mono (d:=dt.length/480+2) ?_).bind fun _=>lE _)) ((bK.stop _).mono (by omega));unfold AH
 split <;> omega
theorem Cj:bK (ja ask) 2:=fun st a j e=>((ia 0 Q).fB fun _=>(ia 1 Q).fB fun _=>lE _) { st with bits:=Y (zs 480) } a j e
end Go.SL
namespace Go.SL
open Go.RowKit
theorem Ry {α:Type} (f:Nat->α) (k:Nat) (x y:α):dp (dp f k x) k y=dp f k y:=by
 funext b;unfold dp;split <;> rfl
end Go.SL
namespace Go.Proofs.Fs
open Go.RowKit Go.SL Go.Proofs.Ba
structure Fx (n:Nat) where
 σ:Type
 c:Cx σ
 V0:Nat->List UInt8
 I:σ->Prop
 ok:c.Ok
 Jf:pP c.ask n V0 I
 h4:4<=n
 hn:n<=3840
 R:Hp->ai
 hR:∀ S S',Ext S S'->∀ h,R S h->R S' h
 C:Nat
@[reducible] def Fx.more {n:Nat} (x:Fx n) (m:Nat):Fx n:=⟨x.σ,x.c,x.V0,x.I,x.ok,x.Jf,x.h4,x.hn,x.R,x.hR,x.C+m⟩
def Qa {n:Nat} (x:Fx n) (b:Nat) (M:gD x.σ):ai:=ex fun S=>cE x.c S b M*(ak S*x.R S)
abbrev wR {n:Nat} (x:Fx n) (M:gD x.σ) (A:Nat->Option AF) (k:Nat):Prop:=n8 n x.V0 x.I M A k/\M.W.length<=x.C
def dF {n:Nat} (x:Fx n) (b:Nat) (A:Nat->Option AF) (k:Nat):ai:=ex fun M=>fact (wR x M A k)*Qa x b M
section
variable {n:Nat} {x:Fx n} {b k:Nat} {A:Nat->Option AF} {M:gD x.σ} {w w':G} {F:ai}
theorem ag.mH (h:ag w (Qa x b M*F)):∃ S,ag w (cE x.c S b M*(ak S*(x.R S*F))):=by
 obtain ⟨S,j⟩:=ag.aw.1 h;exact ⟨S,j.to (by ac_rfl)⟩
theorem ag.rq {S S':Hp} (o:Ext S S') (h:ag w (cE x.c S' b M*(ak S'*(x.R S*F)))):ag w (Qa x b M*F):=by
 have j:=(h.to (by ac_rfl:_=x.R S*(cE x.c S' b M*(ak S'*F)))).fw (x.hR S S' o);exact ag.aw.2 ⟨S',j.to (by ac_rfl)⟩
theorem ag.kz (h:ag w (dF x b A k*F)):∃ M,wR x M A k/\ag w (Qa x b M*F):=by
 obtain ⟨M,j⟩:=ag.aw.1 h;obtain ⟨o,r⟩:=ag.aq.1 (j.to (ax _ _ _));exact ⟨M,o,r⟩
theorem ag.nh (j:wR x M A k) (h:ag w (Qa x b M*F)):ag w (dF x b A k*F):=
 ag.aw.2 ⟨M,(ag.aq.2 ⟨j,h⟩:ag w (fact (wR x M A k)*(Qa x b M*F))).to (ax _ _ _).symm⟩
theorem ag.sV (m:Nat) (h:ag w (dF x b A k*F)):ag w (dF (x.more m) b A k*F):=by
 obtain ⟨M,j,o⟩:=ag.kz h;exact ag.nh (x:=x.more m) ⟨j.1,K2 j.2 (Nat.le_add_right _ _)⟩ o
def YI {n:Nat} (x:Fx n) (b:Nat) (A:Nat->Option AF) (k:Nat) (v c:Int) (F:ai) (w:G) (e:Ending) (w':G):Prop:=
 e = Z' (.tuple #[Z .i64 v,Z .i64 c])/\aj w w'/\ag w' (dF x b A k*F)
def YE {n:Nat} (x:Fx n) (b:Nat) (A:Nat->Option AF) (k:Nat) (c:Int) (F:ai) (w:G) (e:Ending) (w':G):Prop:=
 e = Z' (Z .i64 c)/\aj w w'/\ag w' (dF x b A k*F)
def YB {n:Nat} (x:Fx n) (b:Nat) (A:Nat->Option AF) (k:Nat) (l:List UInt8) (F:ai) (w:G) (e:Ending) (w':G):Prop:=
 ∃ v,e = Z' (.tuple #[v,Z .i64 0])/\aj w w'/\ag w' (bs 5 v l*(dF x b A k*F))
def YN {n:Nat} (x:Fx n) (b:Nat) (A:Nat->Option AF) (k:Nat) (f:AF) (F:ai) (w:G) (e:Ending) (w':G):Prop:=
 ∃ y:Nd,e = Z' (.tuple #[.agg (ints y.l),Z .i64 0])/\y.dr.length=16/\y.kd=f.kd/\y.lk=f.lk/\y.sz=f.sz/\aj w w'/\ag w' (dF x b A k*F)
def Ud {n:Nat} (x:Fx n) (b:Nat) (A:Nat->Option AF) (k:Nat) (kd:Int) (F:ai) (w:G) (e:Ending) (w':G):Prop:=
 ∃ id:Nat,e = Z' (.tuple #[Z .i64 (id:Int),Z .i64 0])/\A id=U/\0<id/\id<n/\aj w w'/\ag w' (dF x b (dp A id (Y (kr kd))) (k-1)*F)
section
variable {S:Hp} {c:Int} {M':gD x.σ} {A':Nat->Option AF} {k':Nat} {e:Ending}
theorem JQ.ye {p:Rs Unit × gD x.σ} (h:JQ x.c b S (x.R S*F) w p e w') (t:p=(.ok (),M')) (j:wR x M' A' k'):YE x b A' k' 0 F w e w':=by
 subst t;obtain ⟨S',o,d,r,u⟩:=h;exact ⟨r,d,ag.nh j (ag.rq o u)⟩
theorem JQ.no {p:Rs Unit × gD x.σ} (h:JQ x.c b S (x.R S*F) w p e w') (t:p=(.bad c,M')) (j:wR x M' A' k'):YE x b A' k' c F w e w':=by
 subst t;obtain ⟨S',o,d,r,u⟩:=h;exact ⟨r,d,ag.nh j (ag.rq o u)⟩
theorem RY.ye {p:Rs Nat × gD x.σ} {v:Nat} (h:RY x.c b S (x.R S*F) w p e w') (t:p=(.ok v,M')) (j:wR x M' A' k'):YI x b A' k' v 0 F w e w':=by
 subst t;obtain ⟨S',o,d,r,u⟩:=h;exact ⟨r,d,ag.nh j (ag.rq o u)⟩
theorem RY.no {p:Rs Nat × gD x.σ} (h:RY x.c b S (x.R S*F) w p e w') (t:p=(.bad c,M')) (j:wR x M' A' k'):YI x b A' k' 0 c F w e w':=by
 subst t;obtain ⟨S',o,d,r,u⟩:=h;exact ⟨r,d,ag.nh j (ag.rq o u)⟩
end
variable (h:ag w (dF x b A k*F))
include h
theorem Te {kd:Int} (z:kd=1\/kd=2) (hk:0<k):Calls W 68 #[fJ b n,Z .i64 kd] w (Ud (x.more 3) b A k kd F w):=by
 obtain ⟨M,o,h0⟩:=ag.kz h;obtain ⟨S,u⟩:=ag.mH h0;refine (Jz x.c x.ok n x.h4 x.hn b M w S kd (x.R S*F) u).mono fun e w' r=>?_;rcases E6 x.Jf (by have:=x.h4;omega) x.hn o.1 z with ⟨id,M1,j,r1,T,i1,-,t⟩|⟨s',-,h0,-⟩
 .rw [j] at r
  obtain ⟨S',v,d,y,L⟩:=r;exact ⟨id,y,r1,T,i1,d,ag.nh (x:=x.more 3) ⟨t,K2 ((Mf kd).run j) (G3 o.2 3)⟩ (ag.rq (x:=x.more 3) v L)⟩
 .omega
theorem Qv {kd:Int} (u:kd=1\/kd=2) (z:k=0):Calls W 68 #[fJ b n,Z .i64 kd] w (YI x b A k 0 7 F w):=by
 obtain ⟨M,r,h0⟩:=ag.kz h;obtain ⟨S,t⟩:=ag.mH h0;refine (Jz x.c x.ok n x.h4 x.hn b M w S kd (x.R S*F) t).mono fun e w' v=>?_;rcases E6 x.Jf (by have:=x.h4;omega) x.hn r.1 u with ⟨id,y,o,r1,T,i1,L,j⟩|⟨s',o,-,j⟩
 .omega
 .exact v.no o ⟨j,r.2⟩
theorem Ru:Calls W 48 #[fJ b n] w (YI x b A k k 0 F w):=by
 obtain ⟨M,o,h0⟩:=ag.kz h;obtain ⟨S,t⟩:=ag.mH h0;refine (Pg x.c x.ok n x.h4 x.hn b M w S (x.R S*F) t).mono fun e w' u=>?_;obtain ⟨v,j,r⟩:=Jk x.Jf (by have:=x.h4;omega) o.1;exact u.ye j ⟨r,K2 (CK.run j) o.2⟩
theorem Kj {id:Nat} {f:AF} (u:A id=Y f):Calls W 39 #[fJ b n,Z .i64 (id:Int)] w (YE (x.more 1) b (dp A id U) (k+bE f.pr) 0 F w):=by
 obtain ⟨M,o,h0⟩:=ag.kz h;obtain ⟨S,t⟩:=ag.mH h0;refine (Pm x.c x.ok n x.h4 x.hn b M w S id (x.R S*F) t).mono fun e w' v=>?_;obtain ⟨y,j,r⟩:=Lc x.Jf (by have:=x.h4;omega) x.hn o.1 u;exact v.ye (x:=x.more 1) j ⟨r,K2 ((Gn _).run j) (G3 o.2 1)⟩
theorem EU {id:Nat} {f:AF} (v:A id=Y f) (j:Nat) (z:j<=122880):Calls W 137 #[fJ b n,Z .i64 (id:Int),Z .i64 (j:Int)] w (YE (x.more 4) b (dp A id (Y (f.cut j))) (k+bE f.pr-bE (f.cut j).pr) 0 F w):=by
 obtain ⟨M,r,h0⟩:=ag.kz h;obtain ⟨S,u⟩:=ag.mH h0;refine (KO x.c x.ok n x.h4 x.hn b M w S id j (x.R S*F) u).mono fun e w' y=>?_;obtain ⟨L,o,t⟩:=Gl x.Jf (by have:=x.h4;omega) x.hn r.1 v j z;exact y.ye (x:=x.more 4) o ⟨t,K2 ((Eu _ _).run o) (G3 r.2 4)⟩
theorem Ju {id:Nat} {f:AF} (hf:A id=Y f) (off j:Nat):Calls W 92 #[fJ b n,Z .i64 (id:Int),Z .i64 (off:Int),Z .i64 (j:Int)] w (YB x b A k (f.sub off j) F w):=by
 obtain ⟨M,v,h0⟩:=ag.kz h;obtain ⟨S,z⟩:=ag.mH h0;refine (Gj x.c x.ok n x.h4 x.hn b M w S id off j (x.R S*F) z).mono fun e w' y=>?_;obtain ⟨r,t,o⟩:=C7 x.Jf (by have:=x.h4;omega) x.hn v.1 hf off j;have o:wR x r A k:=⟨o,K2 ((zg _ _ _).run t) v.2⟩
 rw [t] at y;obtain ⟨S',u,T,d,he,hs⟩:=y;refine ⟨u,he,d,?_⟩;have L:=ag.nh o (ag.rq T (hs.to (by unfold fX;ac_rfl:_=cE x.c S' b r*(ak S'*(x.R S*(bs 5 u (f.sub off j)*F))))));exact L.ah
theorem CZ {id:Nat} {f:AF} (hf:A id=Y f):Calls W 91 #[fJ b n,Z .i64 (id:Int)] w (YN x b A k f F w):=by
 obtain ⟨M,r,h0⟩:=ag.kz h;obtain ⟨S,v⟩:=ag.mH h0;refine (Oi x.c x.ok n x.h4 x.hn b M w S id (x.R S*F) v).mono fun e w' t=>?_;obtain ⟨b0,u,o,y1,y2,y3,j⟩:=Kw x.Jf (by have:=x.h4;omega) x.hn r.1 hf;have j:wR x u A k:=⟨j,K2 ((Dp _).run o) r.2⟩
 rw [o] at t;obtain ⟨S',c0,L,d,T,hs⟩:=t;obtain ⟨⟨rfl,y⟩,z⟩:=ag.aq.1 hs;exact ⟨b0,T,y,y1,y2,y3,d,ag.nh j (ag.rq L z)⟩
theorem Fp {id:Nat} {f:AF} (y:A id=Y f) (d:Int) (h0:0<=wrap64 (f.lk+d)/\wrap64 (f.lk+d)<=65535):Calls W 38 #[fJ b n,Z .i64 (id:Int),Z .i64 d] w (YE (x.more 3) b (dp A id (Y { f with lk:=wrap64 (f.lk+d) })) k 0 F w):=by
 obtain ⟨M,o,t⟩:=ag.kz h;obtain ⟨S,u⟩:=ag.mH t;refine (MI x.c x.ok n x.h4 x.hn b M w S id d (x.R S*F) u).mono fun e w' z=>?_;rcases FP x.Jf (by have:=x.h4;omega) x.hn o.1 y d with ⟨L,j,-,r⟩|⟨T,-,v,-⟩
 .exact z.ye (x:=x.more 3) j ⟨r,K2 ((C8 _ _).run j) (G3 o.2 3)⟩
 .exact absurd h0 v
omit h
variable {D:ai} {va:Option Addr} {cap:Nat} {l:List UInt8}
theorem y5 {id:Nat} {f:AF} (L:A id=Y f) (off:Nat) (y:∀ j P,ag j (D*P)->Rd j (J va l.length cap) l) (z:l.length<=cap) (T:l.length<=4096) (hm:off+l.length<=122880) (hk:bE (f.wr off l).pr<=k+bE f.pr) (h:ag w (dF x b A k*(D*F))) :
  Calls W 42 #[fJ b n,Z .i64 (id:Int),Z .i64 (off:Int),J va l.length cap] w (YE (x.more (l.length/480+5)) b (dp A id (Y (f.wr off l))) (k+bE f.pr-bE (f.wr off l).pr) 0 (D*F) w):=by
 obtain ⟨M,r,h0⟩:=ag.kz h;obtain ⟨S,v⟩:=ag.mH h0;refine (vQ x.c x.ok n x.h4 x.hn b M w S id off l va cap D y z (by omega) (x.R S*F) (v.to (by ac_rfl))).mono fun e w' t=>?_;rw [aF] at t;rcases sS x.Jf (by have:=x.h4;omega) x.hn r.1 L off l T hm with ⟨M1,o,-,u⟩|⟨s',-,h9,-⟩
 .exact t.ye (x:=x.more (l.length/480+5)) o ⟨u,K2 ((y7 _ _ _).run o) (G3 r.2 (l.length/480+5))⟩
 .omega
theorem MW {id:Nat} {f:AF} (L:A id=Y f) (off:Nat) (y:∀ o P,ag o (D*P)->Rd o (J va l.length cap) l) (z:l.length<=cap) (T:l.length<=4096) (hm:off+l.length<=122880) (hk:k+bE f.pr<bE (f.wr off l).pr) (h:ag w (dF x b A k*(D*F))) :
  Calls W 42 #[fJ b n,Z .i64 (id:Int),Z .i64 (off:Int),J va l.length cap] w (YE x b A k 7 (D*F) w):=by
 obtain ⟨M,t,h0⟩:=ag.kz h;obtain ⟨S,v⟩:=ag.mH h0;refine (vQ x.c x.ok n x.h4 x.hn b M w S id off l va cap D y z (by omega) (x.R S*F) (v.to (by ac_rfl))).mono fun e w' u=>?_;rw [aF] at u;rcases sS x.Jf (by have:=x.h4;omega) x.hn t.1 L off l T hm with ⟨M1,r,h9,j⟩|⟨s',r,-,j⟩
 .omega
 .exact u.no r ⟨j,t.2⟩
end
theorem qO (w:G) (v:Value) (l:List UInt8) (h:Rd w v l):(convert 37 9 v).run W w = .ok (.string (str l)) w:=by
 have vy:∀ (l:List UInt8) (s:ByteArray),(l.map fun x=>(x.toNat:Int)).foldl (fun r n=>r.push (UInt8.ofNat n.toNat)) s=⟨s.data++l.toArray⟩:=by
  intro l
  induction l with
  | nil=>intro s;simp
  | cons a l t=>intro s;simp only [List.map_cons,List.foldl_cons,t];simp [ByteArray.push]
 obtain ⟨_,hr⟩:=h;rcases hr with ⟨rfl,h0⟩|⟨a,c,rfl,o⟩
 .have:l=[]:=List.eq_nil_of_length_eq_zero h0
  subst this;rw [run_convert_bytes_string w _ _ 5 U 0 0 underlying37 underlying5 underlying9]
  rfl
 .rw [run_convert_bytes_string w _ _ 5 (Y a) _ c underlying37 underlying5 underlying9]
  have j:=run_loadCells_list (P:=W) (w:=w) a (l.map u8) o;rw [X2] at j
  have:=run_bytesToString (P:=W) w a l.length c (l.map fun x=>(x.toNat:Int)) (by
   rw [j];simp [u8,Function.comp_def])
  rw [this,vy];simp [str]
end Go.Proofs.Fs

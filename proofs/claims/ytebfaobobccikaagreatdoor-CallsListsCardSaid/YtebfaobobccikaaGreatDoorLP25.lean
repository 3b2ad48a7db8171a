/- Steps. -/
import Derived.Test.YtebfaobobccikaaGreatDoorLP24
import Derived.DataElems
import Derived.Deep.RegionLaw
set_option linter.all false
set_option maxRecDepth 99999
set_option maxHeartbeats 0
open Go.SL
open Go.Value renaming int->Z,slice->J,pointer->O
open Go.Obj renaming cells->X
open Go.Ending renaming returned->Z'
open Go renaming World->G
open Go.Proofs.Tryz renaming prog->W
open Option renaming some->Y,none->U
open Bool renaming true->Q,false->H
open Go.Proofs.Tryz
open Nat renaming le_refl->A2,le_trans->J2,add_le_add_right->Z2,zero_add->R3
open List renaming getD->B2,range->D2,replicate->H2,getElem?_eq_getElem->O2,getElem?_replicate->P2,length_take->R2,length_map->U2,drop_left'->V2,countP_append->W2,all_eq_true->X2,getElem_of_mem->Y2,getElem?_take->A3,getElem?_drop->B3,append_assoc->D3,drop_drop->G3,countP_eq_zero->H3,length_drop->J3,range_succ->K3,countP_cons->L3,countP_congr->P3,getElem?_append_left->S3,eq_replicate_iff->W3,getElem?_append_right->X3
open Int renaming toNat_natCast->E2
open Bool renaming and_eq_true->K2,or_eq_true->N2,or_true->V3
open Go.World renaming size_alloc->L2
namespace Go.SL
open RowKit
section
variable {σ:Type}
def pO (ask:cO σ) (n:Nat) (h:Hd) (i:Nat):WM σ (Hd × Int × List UInt8):=WM.bind (iL ask n) fun b=>WM.pure (h.put i (b:Int),(b:Int),zs 480)
def mI (ask:cO σ) (n:Nat) (h:Hd) (i:Nat) (j:Bool):WM σ (Hd × Int × List UInt8):=fun st=>
 if h.aN i=0 then (if 16<=i/\h.n.rw=0 then (WM.bind (iL ask n) fun r=>pO ask n (h.dy (r:Int)) i) st else pO ask n h i st)
 else if j=Q then (.ok (h,h.aN i,zs 480),st) else (WM.bind (cU ask (h.aN i)) fun L=>WM.pure (h,h.aN i,L)) st
end
end Go.SL
namespace Go.Proofs.Fs
open RowKit SL Proofs.Ba
section
variable {σ α:Type}
def vD (x:Wk σ) (o:Nat) (S:Hp) (F:ai) (w:G):Rs (Hd × Int × List UInt8) × eB σ->Ending->G->Prop
 | (.ok p,j),e,w'=>∃ S' v,Ext S S'/\aj w w'/\p.2.2.length=480/\e = Z' (.tuple #[Z .i64 p.2.1,v])/\ag w' (bs 5 v p.2.2*(aO o p.1*(aF x S' j*(aq S'*F))))
 | (.bad c,j),e,w'=>∃ S' h',Ext S S'/\aj w w'/\e = .panicked (Ji c)/\ag w' (aO o h'*(aF x S' j*(aq S'*F)))
theorem nH (x:Wk σ) (hc:x.c.Ok) (hn:x.n<=3840) (w:G) (S:Hp) (st:eB σ) (j:Nat) (h:Hd) (i:Nat) (wh:Bool) (F:ai) (hi:i<256) (hs:ag w (aO j h*(aF x S st*(aq S*F)))) :
  Calls W 105 #[O (Y ⟨x.k,0,U⟩),O (Y ⟨j,0,U⟩),Z .i64 (i:Int),.bool wh] w (vD x j S F w (mI x.c.ask x.n h i wh st)):=by
 refine aJ fun q0 HQ=>?_;have d0:=nJ w j h _ hs i hi;unfold Kc at d0;have u0:(i:Int)<256:=by omega
 obtain ⟨k0,z⟩:∃ k0,mI x.c.ask x.n h i wh st=k0:=⟨_,rfl⟩
 rw [z] at HQ;have x0:∀ w,(Instr.makeSlice 22 (Z .i64 480) (Z .i64 480)).run W w = .ok (J (Y ⟨w.heap.size,0,U⟩) 480 480) (w.alloc (X (dP (zs 480)) 5 (0,0))):=fh 480 (by omega);have hf:=(ag.held.1 hs).1;have g0:w.cell? ⟨j,20,U⟩=Y (Z .i64 h.n.rw):=qi hf (ag.held.1 hs).2;have Hs:=ae hs;have Hf:=ae hf;clear hs hf
 by_cases h0:h.aN i=0
 .rw [h0] at d0
  by_cases hr:16<=i/\h.n.rw=0
  .have y:(WM.bind (iL x.c.ask x.n) fun e0=>pO x.c.ask x.n (h.dy (e0:Int)) i) st=k0:=((if_pos h0).trans (if_pos hr)).symm.trans z
   have n0:16<=(i:Int):=by omega
   have ht:=oC x hc hn w S st _ (Hs.out.to (by ac_rfl:_=aF x S st*(aq S*(aO j h*F))));obtain ⟨⟨r1,aR⟩,L⟩:∃ p,iL x.c.ask x.n st=p:=⟨_,rfl⟩
   rw [L] at ht;rw [hr.2] at g0
   cases r1 with
   | bad cN=>
    have t:=ae ((WM.bf L).symm.trans y);clear z y h0 hr L
    go_enter func105,ntmps105
    go_wp2_with fail
    (with_reducible refine d0.mono ?_)
    rintro e w2 ⟨rfl,rfl⟩
    go_wp2_with fail
    (with_reducible refine ht.mono ?_)
    rintro e w2 ⟨S',hS,d2,rfl,h2⟩
    go_wp2_with fail
    exact ⟨rfl,HQ.out _ _ (by rw [<- t.out];exact ⟨S',h,hS,d2,rfl,h2.to (by ac_rfl)⟩)⟩
   | ok e0=>
    have t:=ae ((WM.aX L).symm.trans y);clear z y h0 hr L
    go_enter func105,ntmps105
    go_wp2_with fail
    (with_reducible refine d0.mono ?_)
    rintro e w2 ⟨rfl,rfl⟩
    go_wp2_with fail
    (with_reducible refine ht.mono ?_)
    rintro e w2 ⟨S',v,hS,d2,rfl,h2⟩;obtain ⟨rfl,h3⟩:=ag.au.1 h2;have h4:=h3.to (by ac_rfl:_=aO j h*(aF x S' aR*(aq S'*F)));have r0:=(cV h4 (j:=20) (by decide)).1;have s0:=(cV h4 (j:=20) (by decide)).2;generalize h.l.getD 20 0=F0 at *;have h5:=jU (h':=h.dy (e0:Int)) h4 (j:=20) (z:=(e0:Int)) Hf.out (Hd.Fz Hf.out _);have d5:=d2.setCell ⟨j,20,U⟩ (Z .i64 (e0:Int));have f0:=oC x hc hn _ S' aR _ (h5.to (by ac_rfl:_=aF x S' aR*(aq S'*(aO j (h.dy (e0:Int))*F))));have c0:=ae f0;clear h2 h3 h4 ht f0 g0
    go_wp2_with fail
    generalize w2.setCell ⟨j,20,U⟩ (Z .i64 (e0:Int))=w3 at *;clear h5;refine c0.out.mono ?_;generalize h.dy (e0:Int)=hk at *;obtain ⟨⟨r6,j0⟩,r⟩:∃ p,iL x.c.ask x.n aR=p:=⟨_,rfl⟩
    rw [r]
    cases r6 with
    | bad cN=>
     have T:=ae ((WM.bf r).symm.trans t.out);rintro e w6 ⟨o,b0,d6,rfl,u⟩;clear c0 r
     go_wp2_with fail
     exact ⟨rfl,HQ.out _ _ (by rw [<- T.out];exact ⟨o,hk,hS.trans b0,d5.trans d6,rfl,u.to (by ac_rfl)⟩)⟩
    | ok b=>
     have T:=ae ((WM.aX r).symm.trans t.out);rintro e w6 ⟨o,v6,b0,d6,rfl,u⟩;obtain ⟨rfl,h7⟩:=ag.au.1 u;have i0:=p9 w6 j hk _ (h7.to (by ac_rfl:_=aO j hk*(aF x o j0*(aq o*F)))) i hi (b:Int);clear c0 r u h7
     go_wp2_with fail
     (with_reducible refine i0.mono ?_)
     rintro e w7 ⟨rfl,h8,d8⟩
     go_wp2_with fail
     have hB:=oA 480 (by decide) h8.drew;have D9:=ae ((((d5.trans d6).trans d8).drew).alloc (X (dP (zs 480)) 5 (0,0)));have HB:=ae hB;clear h8 hB
     go_region_held3 (fun _=>True) (trivial) (fail)
     all_goals
      go_wp2_with fail
      exact HQ.out _ _ (by rw [<- T.out];exact ⟨o,_,hS.trans b0,D9.out,bh 480,rfl,HB.out⟩)
  .have y:pO x.c.ask x.n h i st=k0:=((if_pos h0).trans (if_neg hr)).symm.trans z
   have t:=ae y;have f0:=oC x hc hn w S st _ (Hs.out.to (by ac_rfl:_=aF x S st*(aq S*(aO j h*F))));have c0:=ae f0;obtain ⟨bb,l0⟩:∃ b,b=decide (16<=(i:Int)):=⟨_,rfl⟩
   cases bb with
   | false=>
    have n0:¬ 16<=(i:Int):=by simpa using l0
    clear z y h0 hr f0 l0
    go_enter func105,ntmps105
    go_wp2_with fail
    (with_reducible refine d0.mono ?_)
    rintro e w2 ⟨rfl,rfl⟩
    go_wp2_with fail
    refine c0.out.mono ?_;obtain ⟨⟨r6,j0⟩,r⟩:∃ p,iL x.c.ask x.n st=p:=⟨_,rfl⟩
    rw [r]
    cases r6 with
    | bad cN=>
     have T:=ae ((WM.bf r).symm.trans t.out);rintro e w6 ⟨o,b0,d6,rfl,u⟩;clear c0 r
     go_wp2_with fail
     exact ⟨rfl,HQ.out _ _ (by rw [<- T.out];exact ⟨o,h,b0,d6,rfl,u.to (by ac_rfl)⟩)⟩
    | ok b=>
     have T:=ae ((WM.aX r).symm.trans t.out);rintro e w6 ⟨o,v6,b0,d6,rfl,u⟩;obtain ⟨rfl,h7⟩:=ag.au.1 u;have i0:=p9 w6 j h _ (h7.to (by ac_rfl:_=aO j h*(aF x o j0*(aq o*F)))) i hi (b:Int);clear c0 r u h7
     go_wp2_with fail
     (with_reducible refine i0.mono ?_)
     rintro e w7 ⟨rfl,h8,d8⟩
     go_wp2_with fail
     have hB:=oA 480 (by decide) h8.drew;have D9:=ae (((d6.trans d8).drew).alloc (X (dP (zs 480)) 5 (0,0)));have HB:=ae hB;clear h8 hB
     go_region_held3 (fun _=>True) (trivial) (fail)
     all_goals
      go_wp2_with fail
      exact HQ.out _ _ (by rw [<- T.out];exact ⟨o,_,b0,D9.out,bh 480,rfl,HB.out⟩)
   | true=>
    have n0:16<=(i:Int):=by simpa using l0
    have D0:(h.n.rw == 0)=H:=by simp only [beq_eq_false_iff_ne];intro h9;exact hr ⟨by omega,h9⟩
    clear z y h0 hr f0 l0;generalize h.n.rw=xN at *
    go_enter func105,ntmps105
    go_wp2_with fail
    (with_reducible refine d0.mono ?_)
    rintro e w2 ⟨rfl,rfl⟩
    go_wp2_with fail
    refine c0.out.mono ?_;obtain ⟨⟨r6,j0⟩,r⟩:∃ p,iL x.c.ask x.n st=p:=⟨_,rfl⟩
    rw [r]
    cases r6 with
    | bad cN=>
     have T:=ae ((WM.bf r).symm.trans t.out);rintro e w6 ⟨o,b0,d6,rfl,u⟩;clear c0 r
     go_wp2_with fail
     exact ⟨rfl,HQ.out _ _ (by rw [<- T.out];exact ⟨o,h,b0,d6,rfl,u.to (by ac_rfl)⟩)⟩
    | ok b=>
     have T:=ae ((WM.aX r).symm.trans t.out);rintro e w6 ⟨o,v6,b0,d6,rfl,u⟩;obtain ⟨rfl,h7⟩:=ag.au.1 u;have i0:=p9 w6 j h _ (h7.to (by ac_rfl:_=aO j h*(aF x o j0*(aq o*F)))) i hi (b:Int);clear c0 r u h7
     go_wp2_with fail
     (with_reducible refine i0.mono ?_)
     rintro e w7 ⟨rfl,h8,d8⟩
     go_wp2_with fail
     have hB:=oA 480 (by decide) h8.drew;have D9:=ae (((d6.trans d8).drew).alloc (X (dP (zs 480)) 5 (0,0)));have HB:=ae hB;clear h8 hB
     go_region_held3 (fun _=>True) (trivial) (fail)
     all_goals
      go_wp2_with fail
      exact HQ.out _ _ (by rw [<- T.out];exact ⟨o,_,b0,D9.out,bh 480,rfl,HB.out⟩)
 .have h1:(h.aN i != 0)=Q:=by simpa using h0
  cases wh with
  | true=>
   have t:=ae (((if_neg h0).trans (if_pos rfl)).symm.trans z);have hB:=oA 480 (by decide) Hs.out.drew;have D9:=ae (((aj.refl w).drew).alloc (X (dP (zs 480)) 5 (0,0)));have HB:=ae hB;clear z h0 hB g0;generalize h.aN i=o0 at *
   go_enter func105,ntmps105
   go_wp2_with fail
   (with_reducible refine d0.mono ?_)
   rintro e w2 ⟨rfl,rfl⟩
   go_wp2_with fail
   go_region_held3 (fun _=>True) (trivial) (fail)
   all_goals
    go_wp2_with fail
    exact HQ.out _ _ (by rw [<- t.out];exact ⟨S,_,Ext.refl S,D9.out,bh 480,rfl,HB.out⟩)
  | false=>
   have y:=((if_neg h0).trans (if_neg (by decide))).symm.trans z;have m0:=lh x hc w S st (h.aN i) _ (Hs.out.to (by ac_rfl:_=aF x S st*(aq S*(aO j h*F))));obtain ⟨⟨r1,aR⟩,L⟩:∃ p,cU x.c.ask (h.aN i) st=p:=⟨_,rfl⟩
   rw [L] at m0
   cases r1 with
   | bad cN=>
    have t:=ae ((WM.bf L).symm.trans y);clear z y h0 L g0;generalize h.aN i=o0 at *
    go_enter func105,ntmps105
    go_wp2_with fail
    (with_reducible refine d0.mono ?_)
    rintro e w2 ⟨rfl,rfl⟩
    go_wp2_with fail
    (with_reducible refine m0.mono ?_)
    rintro e w2 ⟨S',hS,d2,rfl,h2⟩
    go_wp2_with fail
    exact ⟨rfl,HQ.out _ _ (by rw [<- t.out];exact ⟨S',h,hS,d2,rfl,h2.to (by ac_rfl)⟩)⟩
   | ok p0=>
    have t:=ae ((WM.aX L).symm.trans y);have HL:=ae (iU L);clear z y h0 L g0;generalize h.aN i=o0 at *
    go_enter func105,ntmps105
    go_wp2_with fail
    (with_reducible refine d0.mono ?_)
    rintro e w2 ⟨rfl,rfl⟩
    go_wp2_with fail
    (with_reducible refine m0.mono ?_)
    rintro e w2 ⟨S',v,hS,d2,rfl,h2⟩;unfold gi at h2;have h3:=ae (h2.to (by ac_rfl:_=bs 5 v p0*(aO j h*(aF x S' aR*(aq S'*F)))));obtain ⟨va,vc,rfl⟩:=aE h2;clear h2 m0
    go_wp2_with fail
    exact HQ.out _ _ (by rw [<- t.out];exact ⟨S',_,hS,d2,HL.out,rfl,h3.out⟩)
end
end Go.Proofs.Fs
namespace Go.SL
open RowKit
section
variable {σ:Type}
def ze (f:Nat->Hd->WM σ Hd) (done off l:Nat) (d:List UInt8) (p:Hd × Int × List UInt8):WM σ Hd:=
 WM.bind (bP p.2.1 (putAt p.2.2 ((off+done)%480) ((d.drop done).take l))) fun _=>f (done+l) p.1
def xH (ask:cO σ) (n off:Nat) (d:List UInt8):Nat->Nat->Hd->WM σ Hd
 | 0,_,h=>WM.pure h
 | f+1,done,h=>fun st=>
  if done<d.length then (WM.bind (mI ask n h ((off+done)/480) (iH (d.length-done) (off+done) == 480)) (ze (xH ask n off d f) done off (iH (d.length-done) (off+done)) d)) st else (.ok h,st)
def G8 (off:Nat) (d:List UInt8) (h:Hd):WM σ Unit:=dK (h.cK (max h.n.sz ((off+d.length:Nat):Int)))
def Fu (ask:cO σ) (n:Nat) (off:Int) (d:List UInt8) (h:Hd):WM σ Unit:=fun st=>
 if 0<=off/\d.length<=4096/\off<=122880-d.length then (if d.length=0 then (.ok (),st) else (WM.bind (xH ask n off.toNat d d.length 0 h) (G8 off.toNat d)) st) else (.bad 1,st)
def gD (ask:cO σ) (n:Nat) (node off:Int) (d:List UInt8):WM σ Unit:=WM.bind (fY ask n node) (Fu ask n off d)
theorem oO {α β:Type} {m j:WM σ α} {k:α->WM σ β} {st o:eB σ} (h:m st=j o):(WM.bind m k) st=(WM.bind j k) o:=by unfold WM.bind;rw [h]
theorem OM {ask:cO σ} {h:Hd} {n off f done:Nat} {d:List UInt8} (j:d.length<=done) (st:eB σ):xH ask n off d f done h st=(.ok h,st):=by
 cases f with
 | zero=>rfl
 | succ f=>exact if_neg (by omega)
theorem Ti {ask:cO σ} {h:Hd} {n off f done:Nat} {d:List UInt8} (o:done<d.length) {st j:eB σ} {c:Int}
  (hr:mI ask n h ((off+done)/480) (iH (d.length-done) (off+done) == 480) st=(.bad c,j)):xH ask n off d (f+1) done h st=(.bad c,j):=(if_pos o).trans (WM.bf hr)
theorem SV {ask:cO σ} {h:Hd} {n off f done:Nat} {d:List UInt8} (o:done<d.length) {st j:eB σ} {p:Hd × Int × List UInt8}
  (hr:mI ask n h ((off+done)/480) (iH (d.length-done) (off+done) == 480) st=(.ok p,j)):xH ask n off d (f+1) done h st=ze (xH ask n off d f) done off (iH (d.length-done) (off+done)) d p j:=(if_pos o).trans (WM.aX hr)
end
end Go.SL
namespace Go.Proofs.Fs
open RowKit SL Proofs.Ba
section
variable {σ α:Type}
def Nv (b:Nat) (v:Value):ai:=pt b (X #[v] 22 (0,0))
def Uh (x:Wk σ) (r off:Nat) (d:List UInt8) (S:Hp) (F:ai) (w:G) (T:Rs Unit × eB σ) (u:Value) (wr:G):Prop:=
 ∃ (done f:Nat) (h:Hd) (o:eB σ) (j:Hp),done<=d.length/\d.length-done<=f/\u = Z .i64 (done:Int)/\(WM.bind (xH x.c.ask x.n off d f done h) (G8 off d)) o=T/\Ext S j/\aj w wr /\
  ag wr (aO r h*(aF x j o*(aq j*F)))
theorem Ab {c:Cx σ} (hc:c.Ok) {n:Nat} (hn:n<=3840) (node off:Int) (l:List UInt8) (va:Option Addr) (cap:Nat) (D:ai) (hD:∀ u P,ag u (D*P)->Rd u (J va l.length cap) l) (q1:l.length<=cap) (p1:l.length<=1000000000000) (nb ob db:Nat) :
  CL c n 104 #[O (Y ⟨nb,0,U⟩),O (Y ⟨ob,0,U⟩),O (Y ⟨db,0,U⟩)] jo (bg nb node*(bg ob off*(Nv db (J va l.length cap)*D))) (gD c.ask n node off l):=by
 intro x w S st F w1 x1 h;subst w1 x1;have cn:w.cell? ⟨nb,0,U⟩=Y (Z .i64 node):=(h.to (by ac_rfl:_=bg nb node*((bg ob off*(Nv db (J va l.length cap)*D))*(aF x S st*(aq S*F))))).cell 0;show Calls W 104 #[O (Y ⟨x.k,0,U⟩),O (Y ⟨nb,0,U⟩),O (Y ⟨ob,0,U⟩),O (Y ⟨db,0,U⟩)] w _
 refine aJ fun E1 HQ=>?_;have hl:=jQ x hc w S st node _ h;obtain ⟨⟨r,aR⟩,hp⟩:∃ p,fY x.c.ask x.n node st=p:=⟨_,rfl⟩
 rw [hp] at hl;clear h;obtain ⟨z,hG⟩:∃ z,z=bg nb node*(bg ob off*(Nv db (J va l.length cap)*D))*F:=⟨_,rfl⟩
 rw [<- hG] at hl HQ;have HG:=ae hG
 cases r with
 | bad cN=>
  have HE:=ae (show gD x.c.ask x.n node off l st=(.bad cN,aR) from WM.bf hp);clear hp hG
  go_enter func104,ntmps104
  go_wp2_with fail
  (with_reducible refine hl.mono ?_)
  rintro e w2 ⟨S',hS,d2,rfl,h2⟩
  go_wp2_with fail
  exact ⟨rfl,HQ.out _ _ (by rw [HE.out];exact ⟨S',hS,d2,rfl,h2⟩)⟩
 | ok hh=>
  obtain ⟨c0,hT⟩:∃ c0,Fu x.c.ask x.n off l hh aR=c0:=⟨_,rfl⟩
  have HE:=ae (show gD x.c.ask x.n node off l st=c0 from (WM.aX hp).trans hT);have HT:=ae hT;clear hp hG hT
  have sO:∀ u P,ag u (P*z)->u.cell? ⟨ob,0,U⟩=Y (Z .i64 off):=fun u P hW=>by
   rw [HG.out] at hW;exact (hW.to (by ac_rfl:_=bg ob off*(bg nb node*(Nv db (J va l.length cap)*(D*(F*P)))))).cell 0
  have sB:∀ u P,ag u (P*z)->u.cell? ⟨db,0,U⟩=Y (J va l.length cap):=fun u P hW=>by
   rw [HG.out] at hW;exact (hW.to (by ac_rfl:_=Nv db (J va l.length cap)*(bg nb node*(bg ob off*(D*(F*P)))))).cell 0
  have sR:∀ u P,ag u (P*z)->Rd u (J va l.length cap) l:=fun u P hW=>by
   rw [HG.out] at hW;exact hD u _ (hW.to (by ac_rfl:_=D*(Nv db (J va l.length cap)*(bg nb node*(bg ob off*(F*P))))))
  have SO:=ae sO;have SB:=ae sB;have SR:=ae sR;clear sO sB sR;have d1:Hid (∃ m,l.length=m):=⟨_,rfl⟩
  obtain ⟨m,hm⟩:=d1.out;rw [hm] at SB SR q1 p1;have y:=ae hm;clear hm d1 hD
  go_enter func104,ntmps104
  go_wp2_with fail
  (with_reducible refine hl.mono ?_)
  rintro e w2 ⟨S',v,hS,d2,rfl,h2⟩;obtain ⟨j,rfl,h3⟩:=ag.oP h2;have h4:ag w2 (aO j hh*(aF x S' aR*(aq S'*z))):=h3.to (by ac_rfl);have co:=SO.out w2 (aO j hh*(aF x S' aR*aq S')) (h4.to (by ac_rfl));have cb:=SB.out w2 (aO j hh*(aF x S' aR*aq S')) (h4.to (by ac_rfl));have H4:=ae h4;clear h2 h3 hl cn h4;have H1:(m:Int)<=1000000000000:=by omega
  by_cases T:0<=off/\l.length<=4096/\off<=122880-(l.length:Int)
  .obtain ⟨z0,z1,z2⟩:=T
   obtain ⟨o,rfl⟩:∃ o:Nat,off=(o:Int):=⟨off.toNat,by omega⟩
   by_cases h0:m=0
   .subst h0
    have e0:Hid (c0=(.ok (),aR)):=by rw [<- HT.out];exact (if_pos ⟨z0,z1,z2⟩).trans (if_pos y.out)
    rw [y.out] at z2;have z3:(o:Int)<=122880:=by omega
    clear z1 z2 HT
    go_wp2_with fail
    (with_reducible refine (gE w2).mono ?_)
    rintro e w3 ⟨rfl,rfl⟩
    go_wp2_with fail
    go_end0
    exact HQ.out _ _ (by rw [HE.out,e0.out];exact ⟨S',_,hS,d2,rfl,ag.au.2 ⟨rfl,(H4.out).right⟩⟩)
   .have h1:(WM.bind (xH x.c.ask x.n o l l.length 0 hh) (G8 o l)) aR=c0:=by
     rw [<- HT.out];exact ((if_pos ⟨z0,z1,z2⟩).trans (if_neg (by rw [y.out];exact h0))).symm
    have e0:=ae h1;rw [y.out] at z1 z2;have Y1:(m:Int)<=4096:=by omega
    have Z1:(o:Int)+(m:Int)<=122880:=by omega
    have z3:(o:Int)<=122880-(m:Int):=by omega
    have N1:((m:Int) == 0)=H:=by simpa using h0
    clear h1 HT z2
    go_wp2_with fail
    (with_reducible refine (gE w2).mono ?_)
    rintro e w3 ⟨rfl,rfl⟩;have O1:(m:Int)≠0:=by omega
    clear co cb;have cb:w2.cell? ⟨db,0,U⟩=Y (J va m cap):=SB.out w2 (aO j hh*(aF x S' aR*aq S')) (H4.out.to (by ac_rfl))
    go_wp2_with fail
    clear cb
    go_loopw [6] (fun F0 wr=>Uh x j o l S z w c0 F0 wr) (fun F0 _=>m-(intOf F0).toNat)
    case atStart=>exact ⟨0,l.length,hh,aR,S',Nat.zero_le _,A2 _,rfl,e0.out,hS,d2,H4.out⟩
    case round=>
     obtain ⟨done,f,h,d0,Sk,r1,hf,rfl,i1,g1,dk,f0⟩:=hrel;have G0:=ae i1;have n0:=ae g1;clear H4 e0 i1 g1;rw [y.out] at r1 hf;have co:=SO.out wr (aO j h*(aF x Sk d0*aq Sk)) (f0.to (by ac_rfl));have cb:=SB.out wr (aO j h*(aF x Sk d0*aq Sk)) (f0.to (by ac_rfl))
     by_cases t1:done<m
     .have u1:(done:Int)<(m:Int):=by omega
      obtain ⟨f',rfl⟩:∃ f',f=f'+1:=⟨f-1,by omega⟩
      have hA:done<l.length:=by rw [y.out];exact t1
      obtain ⟨k,hk⟩:∃ k,iH (l.length-done) (o+done)=k:=⟨_,rfl⟩
      have R0:k=min (m-done) (480-(o+done)%480):=by rw [<- hk,y.out];rfl
      obtain ⟨q,hq⟩:∃ q,(o+done)/480=q:=⟨_,rfl⟩
      obtain ⟨r,hr⟩:∃ r,(o+done)%480=r:=⟨_,rfl⟩
      have v1:q<256:=by omega
      have T1:r<480:=by omega
      rw [hr] at R0;have K1:1<=k:=by omega
      have L1:done+k<=m:=by omega
      have M1:r+k<=480:=by omega
      have S1:((o:Int)+(done:Int)).tdiv 480=(q:Int):=by rw [Int.tdiv_eq_ediv_of_nonneg (by omega)];omega
      have U1:((o:Int)+(done:Int)).tmod 480=(r:Int):=by rw [Int.tmod_eq_emod_of_nonneg (by omega)];omega
      have R1:(if (480:Int)-(r:Int)<((m-done:Nat):Int) then (480:Int)-(r:Int) else ((m-done:Nat):Int))=(k:Int):=by split <;> omega
      have V1:(m:Int)-(done:Int)=((m-done:Nat):Int):=by omega
      have r0:=nH x hc hn wr Sk d0 j h q (k == 480) z v1 f0;obtain ⟨⟨r2,j0⟩,u0⟩:∃ p,mI x.c.ask x.n h q (k == 480) d0=p:=⟨_,rfl⟩
      rw [u0] at r0;have g0:mI x.c.ask x.n h ((o+done)/480) (iH (l.length-done) (o+done) == 480) d0=(r2,j0):=by rw [hq,hk];exact u0
      have W0:((k:Int) == 480)=(k == 480):=by
       by_cases h9:k=480
       .subst h9;rfl
       .rw [beq_eq_false_iff_ne.2 h9,beq_eq_false_iff_ne.2 (by omega)]
      have s0:=r0;rw [<- W0] at s0
      cases r2 with
      | bad cN=>
       have HN:=ae ((WM.bf (Ti hA g0)).symm.trans G0.out);clear u0 g0 R0 hq hr hk r0 W0
       go_wp2_with fail
       (with_reducible refine s0.mono ?_)
       rintro e w4 ⟨S2,h',p0,d4,rfl,h6⟩
       go_wp2_with fail
       exact ⟨rfl,HQ.out _ _ (by rw [HE.out,<- HN.out];exact ⟨S2,n0.out.trans p0,dk.trans d4,rfl,h6.right⟩)⟩
      | ok p=>
       obtain ⟨h',b,L⟩:=p
       have m0:=ae (show (WM.bind (ze (xH x.c.ask x.n o l f') done o k l (h',b,L)) (G8 o l)) j0=c0 from by
        rw [<- hk];exact (oO (SV hA g0)).symm.trans G0.out)
       clear u0 g0 R0 hq hk r0 W0
       go_wp2_with fail
       (with_reducible refine s0.mono ?_)
       rintro e w4 ⟨S2,v4,p0,d4,hL,rfl,h6⟩;dsimp only at hL h6 ⊢;have HL:=ae hL;obtain ⟨ga,ca,H0,rfl,a1,a2,a3,a4,a5,a6⟩:=nS h6 (by rw [hL];decide);have rd:=(SR.out w4 (bs 5 (J (Y ⟨ga,0,U⟩) L.length ca) L*(aO j h'*(aF x S2 j0*aq S2))) (h6.to (by ac_rfl)))
       obtain ⟨-,(⟨-,h9⟩|⟨A1,c',e,ha⟩)⟩:=rd
       .exact absurd h9 (by rw [y.out];omega)
       simp only [Value.slice.injEq] at e;obtain ⟨rfl,-,rfl⟩:=e;obtain ⟨part,x0⟩:∃ part,(l.drop done).take k=part:=⟨_,rfl⟩
       have i0:part.length=k:=by rw [<- x0,R2,J3,y.out];omega
       have h7:=(a6 r part (by rw [i0,hL];omega)).1
       have q0:=fun ty=>run_copy_row (P:=W) w4 22 22 ty 5 ga r (480-r) (ca-r) (A1.add done) k (cap-done) H0 5 (part.map SL.u8) underlying22 As a4
        (by rw [U2,i0];exact (Nat.min_eq_left (by omega)).symm)
        (fun l1 v hv=>by
         have hj:l1<k:=by rw [<- i0];simpa using (List.getElem?_eq_some_iff.1 hv).1
         rw [Addr.add_add];refine ha (done+l1) v ?_;rw [<- hv,<- x0,List.getElem?_map,List.getElem?_map,A3,if_pos hj,B3])
        (by rw [U2,i0,a3];omega) (sJ _)
       rw [U2,i0] at q0;obtain ⟨RW,o0⟩:∃ RW,RW=(H0.toList.take r++part.map SL.u8++H0.toList.drop (r+(part.map SL.u8).length)).toArray:=⟨_,rfl⟩
       rw [<- o0] at h7;rw [U2,i0] at o0;rw [<- o0] at q0;have c1:=ae q0;have j1:=h7.oD;have l0:=mg x _ S2 j0 b _ (putAt L r part) _ (h7.to (by ac_rfl:_=aF x S2 j0*(aq S2*(bs 5 (J (Y ⟨ga,0,U⟩) L.length ca) (putAt L r part)*(aO j h'*z))))) j1;obtain ⟨⟨r3,Y0⟩,g0⟩:∃ p,bP b (putAt L r part) j0=p:=⟨_,rfl⟩
       have hK:∀ p,bP b (putAt L r part) j0=p->ze (xH x.c.ask x.n o l f') done o k l (h',b,L) j0=match p with|(.ok _,X0)=>xH x.c.ask x.n o l f' (done+k) h' X0|(.bad c,X0)=>(.bad c,X0):=by
        intro p hp;unfold ze WM.bind;dsimp only;rw [hr,x0,hp]
        cases p with
        | mk a c=>cases a <;> rfl
       have f1:=hK _ g0;rw [g0] at l0;have s1:(putAt L r part).length=480:=by rw [gq (by rw [i0,HL.out];omega)];exact HL.out
       rw [HL.out] at l0 a1 ⊢;have m1:=ae l0;have D5:=ae ((dk.trans d4).setRow ga RW);clear s0 h6 h7 q0 o0 j1 l0 ha a2 a3 a4 a5 a6 hK g0 hL i0 x0 hr s1 cb
       go_wp2_with (refine fo (c1.out _) _ _ rfl rfl rfl rfl rfl ?_)
       generalize w4.setRow ga RW=w5 at *;clear c1;refine m1.out.mono ?_
       cases r3 with
       | bad cN=>
        have HN:=ae ((WM.bf f1).symm.trans m0.out);rintro e w6 ⟨t,k0,d6,rfl,h8⟩
        go_wp2_with fail
        exact ⟨rfl,HQ.out _ _ (by rw [HE.out,<- HN.out];exact ⟨t,(n0.out.trans p0).trans k0,D5.out.trans d6,rfl,(h8.to (by ac_rfl:_=(bs 5 (J (Y ⟨ga,0,U⟩) 480 ca) (putAt L r part)*aO j h')*(aF x t Y0*(aq t*z)))).right⟩)⟩
       | ok F0=>
        have HN:=ae ((oO f1).symm.trans m0.out);rintro e w6 ⟨t,v6,k0,d6,rfl,h8⟩;obtain ⟨rfl,h9⟩:=ag.au.1 h8;clear h8
        go_wp2_with fail
        go_roundw
        case rel=>exact ⟨done+k,f',h',Y0,t,by rw [y.out];omega,by rw [y.out];omega,by go_num,HN.out,(n0.out.trans p0).trans k0,D5.out.trans d6,(h9.to (by ac_rfl:_=bs 5 (J (Y ⟨ga,0,U⟩) 480 ca) (putAt L r part)*(aO j h'*(aF x t Y0*(aq t*z))))).right⟩
        case measure=>simp [intOf];omega
     .obtain rfl:done=m:=by omega
      have m0:=ae (show G8 o l h d0=c0 from (WM.aX (OM (by rw [y.out];exact A2 _) d0)).symm.trans G0.out);have hf:=ag.zB f0;have c3:=(cV f0 (j:=3) (by decide)).1;have f3:=(cV f0 (j:=3) (by decide)).2;rw [show h.l.getD 3 0=h.n.sz from rfl] at c3;obtain ⟨b0,T⟩:∃ b0,max h.n.sz ((o+l.length:Nat):Int)=b0:=⟨_,rfl⟩
      have K0:=(jU (h':=h.cK b0) f0 (j:=3) (z:=b0) hf rfl).drew;have b1:=ae (dk.setCell ⟨j,3,U⟩ (Z .i64 b0)).drew;have T0:=jK x _ Sk d0 j (h.cK b0) _ K0;obtain ⟨⟨r6,Z0⟩,S0⟩:∃ p,dK (h.cK b0) d0=p:=⟨_,rfl⟩
      rw [S0] at T0;have HN:=ae (show (r6,Z0)=c0 by rw [<- m0.out,<- S0,<- T];rfl);have l0:IntKind.i64.wrap ((o:Int)+(done:Int))=(o:Int)+(done:Int):=by rw [IntKind.wrap_i64];omega
      have D0:(if h.n.sz<IntKind.i64.wrap ((o:Int)+(done:Int)) then IntKind.i64.wrap ((o:Int)+(done:Int)) else h.n.sz)=b0:=by rw [l0,<- T,y.out];split <;> omega
      have n1:=ae D0;have e1:=ae T0;have D1:=ae K0;have u1:¬ (done:Int)<(done:Int):=by omega
      clear hf K0 T0 S0 T f0 m0 l0 D0;generalize h.n.sz=sz at *
      go_wp2_with fail
      go_region_law (fail)
      all_goals
       rw [n1.out];generalize (wr.setCell ⟨j,3,U⟩ (Z .i64 b0)).drew=X1 at *
       cases r6 with
       | bad cN=>
        go_wp2_with fail
        refine e1.out.mono ?_;rintro e B1 ⟨t,k0,d6,rfl,L0⟩
        go_wp2_with fail
        exact ⟨rfl,HQ.out _ _ (by rw [HE.out,<- HN.out];exact ⟨t,n0.out.trans k0,b1.out.trans d6,rfl,(L0.to (by ac_rfl:_=aO j (h.cK b0)*(aF x t Z0*(aq t*z)))).right⟩)⟩
       | ok u6=>
        go_wp2_with fail
        refine e1.out.mono ?_;rintro e B1 ⟨t,v6,k0,d6,rfl,L0⟩;obtain ⟨rfl,o1⟩:=ag.au.1 L0
        go_wp2_with fail
        go_end0
        exact HQ.out _ _ (by rw [HE.out,<- HN.out];exact ⟨t,_,n0.out.trans k0,b1.out.trans d6,rfl,ag.au.2 ⟨rfl,(o1.to (by ac_rfl:_=aO j (h.cK b0)*(aF x t Z0*(aq t*z)))).right⟩⟩)
  .have hT:c0=(.bad 1,aR):=by rw [<- HT.out];exact if_neg T
   have e0:=ae hT;rw [y.out] at T;clear hT HT
   by_cases y1:0<=off
   .by_cases D0:(m:Int)<=4096
    .have k1:¬ off<=122880-(m:Int):=fun h9=>T ⟨y1,by omega,h9⟩
     have W1:decide (off<=122880-(m:Int))=H:=decide_eq_false k1;clear T k1
     go_wp2_with fail
     (with_reducible refine (gK w2).mono ?_)
     rintro e w4 ⟨rfl,rfl⟩
     go_wp2_with fail
     exact ⟨rfl,HQ.out _ _ (by rw [HE.out,e0.out];exact ⟨S',hS,d2,rfl,H4.out.right⟩)⟩
    .clear T
     go_wp2_with fail
     (with_reducible refine (gK w2).mono ?_)
     rintro e w4 ⟨rfl,rfl⟩
     go_wp2_with fail
     exact ⟨rfl,HQ.out _ _ (by rw [HE.out,e0.out];exact ⟨S',hS,d2,rfl,H4.out.right⟩)⟩
   .have D0:off<0:=by omega
    clear T
    go_wp2_with fail
    (with_reducible refine (gK w2).mono ?_)
    rintro e w4 ⟨rfl,rfl⟩
    go_wp2_with fail
    exact ⟨rfl,HQ.out _ _ (by rw [HE.out,e0.out];exact ⟨S',hS,d2,rfl,H4.out.right⟩)⟩
end
section
variable {σ α:Type}
abbrev cQ (j n:Nat):Obj:=X #[O (Y ⟨j,0,U⟩),Z .i64 (n:Int)] 72 (0,0)
def Pu:Value:=.agg #[Z .i64 0,Z .i64 0,Z .i64 0,Z .i64 0,Z .i64 0,Z .i64 0,Z .i64 0,Z .i64 0,Z .i64 0,Z .i64 0,Z .i64 0,Z .i64 0,Z .i64 0,Z .i64 0,Z .i64 0,Z .i64 0,Z .i64 0,Z .i64 0,Z .i64 0,Z .i64 0]
def UG:Rs Nat->Value
 | .ok a=>Z .i64 (a:Int)
 | .bad _=>Z .i64 0
def VK (c:Cx σ) (j:Nat) (S:Hp) (F:ai) (w:G) (p:Rs Nat × ik σ) (e:Ending) (w':G):Prop:=
 ∃ S',Ext S S'/\aj w w'/\e = Z' (.tuple #[UG p.1,Z .i64 p.1.code])/\ag w' (cH c S' j p.2*(aq S'*F))
theorem IM (c:Cx σ) (T:c.Ok) (n:Nat) (d0:4<=n) (e0:n<=3840) (j:Nat) (M:ik σ) (w:G) (S:Hp)  (F:ai) (h:ag w (cH c S j M*(aq S*(F)))) :
  Calls W 67 #[fS j n] w (Ms c j S F w (dZ (jd c.ask) M)):=by
 refine aJ fun f0 u=>?_;obtain ⟨p,hp⟩:∃ p,dZ (jd c.ask) M=p:=⟨_,rfl⟩
 rw [hp] at u;have g0:=nr W;have r:=fun  w F h=>vy c T n d0 e0 124 #[] (emp) (jd c.ask) (fun c0 w=>enters func124 (by kernel_rfl) rfl c0 w) (EJ T) j M w S F h;rw [hp] at r;have v:=ae r;have z:=(h.alloc (cQ j n))
 have dA:=((aj.refl w).alloc (cQ j n))
 have L:ag (w.alloc (cQ j n)) (cH c S j M*(aq S*((emp)*(pt w.heap.size (cQ j n)*F)))):=(ag.nD z).to (by unfold cQ;ac_rfl);have t:=ae L;clear z L r h;unfold fS
 go_enter func67,ntmps67
 go_wp2_with fail
 refine v.out _ _ t.out _ ?_;clear v t;generalize i0:(w.alloc (cQ j n))=w1 at *;generalize w.heap.size=b0 at *;rintro e w2 ⟨o,hS,d2,rfl,y⟩;have h3:=ae (y.to (by ac_rfl:_=((emp*pt b0 (cQ j n)))*(cH c o j p.2*(aq o*F)))).right;clear y
 go_wp2_with fail
 try go_ret
 exact u.out _ _ ⟨o,hS,dA.trans d2,rfl,h3.out⟩
theorem QC (c:Cx σ) (hc:c.Ok) (n:Nat) (g0:4<=n) (e0:n<=3840) (j:Nat) (M:ik σ) (w:G) (S:Hp) (kd:Int) (F:ai) (h:ag w (cH c S j M*(aq S*(F)))) :
  Calls W 71 #[fS j n,Z .i64 kd] w (VK c j S F w (dZ (wI c.ask n kd) M)):=by
 refine aJ fun j0 t=>?_;obtain ⟨p,hp⟩:∃ p,dZ (wI c.ask n kd) M=p:=⟨_,rfl⟩
 rw [hp] at t;have k0:=nr W;have T:=fun c0 w F h=>Lf c hc n g0 e0 128 #[O (Y ⟨c0,0,U⟩)] (bg c0 kd) (wI c.ask n kd) (fun f0 w=>enters func128 (by kernel_rfl) rfl f0 w) (OK hc e0 kd c0) j M w S F h;rw [hp] at T;have d0:=ae T;have z:=((h.alloc (cQ j n)).alloc (X #[Z .i64 kd] 3 (0,0)))
 have dA:=(((aj.refl w).alloc (cQ j n)).alloc (X #[Z .i64 kd] 3 (0,0)))
 simp only [L2] at z;have hB:ag ((w.alloc (cQ j n)).alloc (X #[Z .i64 kd] 3 (0,0))) (cH c S j M*(aq S*((bg (w.heap.size+1) kd)*(pt w.heap.size (cQ j n)*F)))):=z.to (by unfold bg;ac_rfl);have HB:=ae hB;clear z hB T h;unfold fS
 go_enter func71,ntmps71
 go_wp2_with fail
 refine d0.out (w.heap.size+1) _ _ HB.out _ ?_;clear d0 HB;generalize l0:((w.alloc (cQ j n)).alloc (X #[Z .i64 kd] 3 (0,0)))=w1 at *;generalize w.heap.size+1=b1 at *;generalize w.heap.size=b0 at *;obtain ⟨i0,M2⟩:=p
 cases i0 with
 | bad cN=>
  rintro e w2 ⟨o,L,u,rfl,r⟩;have y:=ae (r.to (by ac_rfl:_=(pt b0 (cQ j n)*bg b1 kd)*(cH c o j M2*(aq o*F)))).right;clear r
  go_wp2_with fail
  try go_ret
  exact t.out _ _ ⟨o,L,dA.trans u,rfl,y.out⟩
 | ok a=>
  rintro e w2 ⟨o,v,L,u,rfl,r⟩;have y:=ae (r.to (by ac_rfl:_=(pt b0 (cQ j n)*bg b1 kd)*(MW a v*(cH c o j M2*(aq o*F))))).right;clear r;obtain ⟨rfl,h4⟩:=ag.au.1 y.out
  go_wp2_with fail
  try go_ret
  exact t.out _ _ ⟨o,L,dA.trans u,rfl,h4⟩
theorem Pm (c:Cx σ) (hc:c.Ok) (n:Nat) (e0:4<=n) (c0:n<=3840) (j:Nat) (M:ik σ) (w:G) (S:Hp) (node:Int) (F:ai) (h:ag w (cH c S j M*(aq S*(F)))) :
  Calls W 38 #[fS j n,Z .i64 node] w (Ms c j S F w (dZ (qx c.ask n node) M)):=by
 refine aJ fun f0 y=>?_;obtain ⟨p,hp⟩:∃ p,dZ (qx c.ask n node) M=p:=⟨_,rfl⟩
 rw [hp] at y;have g0:=nr W;have t:=fun u w F h=>vy c hc n e0 c0 88 #[O (Y ⟨u,0,U⟩)] (bg u node) (qx c.ask n node) (fun d0 w=>enters func88 (by kernel_rfl) rfl d0 w) (JA hc c0 node u) j M w S F h;rw [hp] at t;have z:=ae t;have r:=((h.alloc (cQ j n)).alloc (X #[Z .i64 node] 3 (0,0)))
 have dA:=(((aj.refl w).alloc (cQ j n)).alloc (X #[Z .i64 node] 3 (0,0)))
 simp only [L2] at r;have T:ag ((w.alloc (cQ j n)).alloc (X #[Z .i64 node] 3 (0,0))) (cH c S j M*(aq S*((bg (w.heap.size+1) node)*(pt w.heap.size (cQ j n)*F)))):=r.to (by unfold bg;ac_rfl);have v:=ae T;clear r T t h;unfold fS
 go_enter func38,ntmps38
 go_wp2_with fail
 refine z.out (w.heap.size+1) _ _ v.out _ ?_;clear z v;generalize i0:((w.alloc (cQ j n)).alloc (X #[Z .i64 node] 3 (0,0)))=w1 at *;generalize w.heap.size+1=b1 at *;generalize w.heap.size=b0 at *;rintro e w2 ⟨o,hS,d2,rfl,L⟩;have h3:=ae (L.to (by ac_rfl:_=(pt b0 (cQ j n)*bg b1 node)*(cH c o j p.2*(aq o*F)))).right;clear L
 go_wp2_with fail
 try go_ret
 exact y.out _ _ ⟨o,hS,dA.trans d2,rfl,h3.out⟩
theorem Lc (c:Cx σ) (hc:c.Ok) (n:Nat) (d0:4<=n) (e0:n<=3840) (j:Nat) (M:ik σ) (w:G) (S:Hp) (node:Int) (d:Int) (F:ai) (h:ag w (cH c S j M*(aq S*(F)))) :
  Calls W 37 #[fS j n,Z .i64 node,Z .i64 d] w (Ms c j S F w (dZ (kK c.ask n node d) M)):=by
 refine aJ fun f0 z=>?_;obtain ⟨p,hp⟩:∃ p,dZ (kK c.ask n node d) M=p:=⟨_,rfl⟩
 rw [hp] at z;have g0:=nr W;have u:=fun v r w F h=>vy c hc n d0 e0 84 #[O (Y ⟨v,0,U⟩),O (Y ⟨r,0,U⟩)] (bg v node*(bg r d)) (kK c.ask n node d) (fun c0 w=>enters func84 (by kernel_rfl) rfl c0 w) (I7 hc node d v r) j M w S F h;rw [hp] at u;have L:=ae u;have t:=(((h.alloc (cQ j n)).alloc (X #[Z .i64 node] 3 (0,0))).alloc (X #[Z .i64 d] 3 (0,0)))
 have dA:=((((aj.refl w).alloc (cQ j n)).alloc (X #[Z .i64 node] 3 (0,0))).alloc (X #[Z .i64 d] 3 (0,0)))
 simp only [L2] at t;have hB:ag (((w.alloc (cQ j n)).alloc (X #[Z .i64 node] 3 (0,0))).alloc (X #[Z .i64 d] 3 (0,0))) (cH c S j M*(aq S*((bg (w.heap.size+1) node*(bg (w.heap.size+1+1) d))*(pt w.heap.size (cQ j n)*F)))):=t.to (by unfold bg;ac_rfl);have y:=ae hB;clear t hB u h;unfold fS
 go_enter func37,ntmps37
 go_wp2_with fail
 refine L.out (w.heap.size+1) (w.heap.size+1+1) _ _ y.out _ ?_;clear L y;generalize i0:(((w.alloc (cQ j n)).alloc (X #[Z .i64 node] 3 (0,0))).alloc (X #[Z .i64 d] 3 (0,0)))=w1 at *;generalize w.heap.size+1+1=b2 at *;generalize w.heap.size+1=b1 at *;generalize w.heap.size=b0 at *;rintro e w2 ⟨o,hS,d2,rfl,T⟩;have h3:=ae (T.to (by ac_rfl:_=(pt b0 (cQ j n)*bg b1 node*bg b2 d)*(cH c o j p.2*(aq o*F)))).right;clear T
 go_wp2_with fail
 try go_ret
 exact z.out _ _ ⟨o,hS,dA.trans d2,rfl,h3.out⟩
theorem LH (c:Cx σ) (hc:c.Ok) (n:Nat) (e0:4<=n) (c0:n<=3840) (j:Nat) (M:ik σ) (w:G) (S:Hp) (node:Int) (o:Int) (F:ai) (h:ag w (cH c S j M*(aq S*(F)))) :
  Calls W 60 #[fS j n,Z .i64 node,Z .i64 o] w (Ms c j S F w (dZ (lV c.ask n node o) M)):=by
 refine aJ fun f0 L=>?_;obtain ⟨p,hp⟩:∃ p,dZ (lV c.ask n node o) M=p:=⟨_,rfl⟩
 rw [hp] at L;have g0:=nr W;have u:=fun v y w F h=>vy c hc n e0 c0 109 #[O (Y ⟨v,0,U⟩),O (Y ⟨y,0,U⟩)] (bg v node*(bg y o)) (lV c.ask n node o) (fun d0 w=>enters func109 (by kernel_rfl) rfl d0 w) (Gb hc c0 node o v y) j M w S F h;rw [hp] at u;have T:=ae u;have t:=(((h.alloc (cQ j n)).alloc (X #[Z .i64 node] 3 (0,0))).alloc (X #[Z .i64 o] 3 (0,0)))
 have dA:=((((aj.refl w).alloc (cQ j n)).alloc (X #[Z .i64 node] 3 (0,0))).alloc (X #[Z .i64 o] 3 (0,0)))
 simp only [L2] at t;have hB:ag (((w.alloc (cQ j n)).alloc (X #[Z .i64 node] 3 (0,0))).alloc (X #[Z .i64 o] 3 (0,0))) (cH c S j M*(aq S*((bg (w.heap.size+1) node*(bg (w.heap.size+1+1) o))*(pt w.heap.size (cQ j n)*F)))):=t.to (by unfold bg;ac_rfl);have z:=ae hB;clear t hB u h;unfold fS
 go_enter func60,ntmps60
 go_wp2_with fail
 refine T.out (w.heap.size+1) (w.heap.size+1+1) _ _ z.out _ ?_;clear T z;generalize i0:(((w.alloc (cQ j n)).alloc (X #[Z .i64 node] 3 (0,0))).alloc (X #[Z .i64 o] 3 (0,0)))=w1 at *;generalize w.heap.size+1+1=b2 at *;generalize w.heap.size+1=b1 at *;generalize w.heap.size=b0 at *;rintro e w2 ⟨r,hS,d2,rfl,h2⟩;have h3:=ae (h2.to (by ac_rfl:_=(pt b0 (cQ j n)*bg b1 node*bg b2 o)*(cH c r j p.2*(aq r*F)))).right;clear h2
 go_wp2_with fail
 try go_ret
 exact L.out _ _ ⟨r,hS,dA.trans d2,rfl,h3.out⟩
theorem GL (c:Cx σ) (hc:c.Ok) (n:Nat) (j0:4<=n) (g0:n<=3840) (j:Nat) (M:ik σ) (w:G) (S:Hp) (node:Int) (off:Int) (o:Int) (F:ai) (h:ag w (cH c S j M*(aq S*(F)))) :
  Calls W 107 #[fS j n,Z .i64 node,Z .i64 off,Z .i64 o] w (CD c j (J U 0 0) gi S F w (dZ (jD c.ask n node off o) M)):=by
 refine aJ fun l0 u=>?_;obtain ⟨p,hp⟩:∃ p,dZ (jD c.ask n node off o) M=p:=⟨_,rfl⟩
 rw [hp] at u;have m0:=nr W;have c0:=fun d0 e0 y w F h=>vZ c hc n j0 g0 164 #[O (Y ⟨d0,0,U⟩),O (Y ⟨e0,0,U⟩),O (Y ⟨y,0,U⟩)] (bg d0 node*(bg e0 off*(bg y o))) (jD c.ask n node off o) (fun i0 w=>enters func164 (by kernel_rfl) rfl i0 w) (EC hc g0 node off o d0 e0 y) j M w S F h;rw [hp] at c0;have f0:=ae c0;have T:=((((h.alloc (cQ j n)).alloc (X #[Z .i64 node] 3 (0,0))).alloc (X #[Z .i64 off] 3 (0,0))).alloc (X #[Z .i64 o] 3 (0,0)))
 have dA:=(((((aj.refl w).alloc (cQ j n)).alloc (X #[Z .i64 node] 3 (0,0))).alloc (X #[Z .i64 off] 3 (0,0))).alloc (X #[Z .i64 o] 3 (0,0)))
 simp only [L2] at T;have hB:ag ((((w.alloc (cQ j n)).alloc (X #[Z .i64 node] 3 (0,0))).alloc (X #[Z .i64 off] 3 (0,0))).alloc (X #[Z .i64 o] 3 (0,0))) (cH c S j M*(aq S*((bg (w.heap.size+1) node*(bg (w.heap.size+1+1) off*(bg (w.heap.size+1+1+1) o)))*(pt w.heap.size (cQ j n)*F)))):=T.to (by unfold bg;ac_rfl);have HB:=ae hB;clear T hB c0 h;unfold fS
 go_enter func107,ntmps107
 go_wp2_with fail
 refine f0.out (w.heap.size+1) (w.heap.size+1+1) (w.heap.size+1+1+1) _ _ HB.out _ ?_;clear f0 HB;generalize n0:((((w.alloc (cQ j n)).alloc (X #[Z .i64 node] 3 (0,0))).alloc (X #[Z .i64 off] 3 (0,0))).alloc (X #[Z .i64 o] 3 (0,0)))=w1 at *;generalize w.heap.size+1+1+1=b3 at *;generalize w.heap.size+1+1=b2 at *;generalize w.heap.size+1=b1 at *;generalize w.heap.size=b0 at *;obtain ⟨k0,M2⟩:=p
 cases k0 with
 | bad cN=>
  rintro e w2 ⟨r,hS,z,rfl,t⟩;have L:=ae (t.to (by ac_rfl:_=(pt b0 (cQ j n)*bg b1 node*bg b2 off*bg b3 o)*(cH c r j M2*(aq r*F)))).right;clear t
  go_wp2_with fail
  try go_ret
  exact u.out _ _ ⟨r,hS,dA.trans z,rfl,L.out⟩
 | ok a=>
  rintro e w2 ⟨r,v,hS,z,rfl,t⟩;have L:=ae (t.to (by ac_rfl:_=(pt b0 (cQ j n)*bg b1 node*bg b2 off*bg b3 o)*(gi a v*(cH c r j M2*(aq r*F))))).right;clear t
  go_wp2_with fail
  try go_ret
  exact u.out _ _ ⟨r,v,hS,dA.trans z,rfl,L.out⟩
theorem wu (c:Cx σ) (hc:c.Ok) (n:Nat) (i0:4<=n) (d0:n<=3840) (j:Nat) (M:ik σ) (w:G) (S:Hp) (node:Int) (off:Int) (l:List UInt8) (va:Option Addr) (cap:Nat) (D:ai) (hD:∀ c0 P,ag c0 (D*P)->Rd c0 (J va l.length cap) l) (g0:l.length<=cap) (f0:l.length<=1000000000000) (F:ai) (h:ag w (cH c S j M*(aq S*(D*F)))) :
  Calls W 52 #[fS j n,Z .i64 node,Z .i64 off,J va l.length cap] w (Ms c j S (D*F) w (dZ (gD c.ask n node off l) M)):=by
 refine aJ fun j0 L=>?_;obtain ⟨p,hp⟩:∃ p,dZ (gD c.ask n node off l) M=p:=⟨_,rfl⟩
 rw [hp] at L;have k0:=nr W;have t:=fun u v y w F h=>vy c hc n i0 d0 104 #[O (Y ⟨u,0,U⟩),O (Y ⟨v,0,U⟩),O (Y ⟨y,0,U⟩)] (bg u node*(bg v off*((Nv y (J va l.length cap)*D)))) (gD c.ask n node off l) (fun e0 w=>enters func104 (by kernel_rfl) rfl e0 w) (Ab hc d0 node off l va cap D hD g0 f0 u v y) j M w S F h;rw [hp] at t;have T:=ae t;have r:=((((h.alloc (cQ j n)).alloc (X #[Z .i64 node] 3 (0,0))).alloc (X #[Z .i64 off] 3 (0,0))).alloc (X #[J va l.length cap] 22 (0,0)))
 have dA:=(((((aj.refl w).alloc (cQ j n)).alloc (X #[Z .i64 node] 3 (0,0))).alloc (X #[Z .i64 off] 3 (0,0))).alloc (X #[J va l.length cap] 22 (0,0)))
 simp only [L2] at r;have hB:ag ((((w.alloc (cQ j n)).alloc (X #[Z .i64 node] 3 (0,0))).alloc (X #[Z .i64 off] 3 (0,0))).alloc (X #[J va l.length cap] 22 (0,0))) (cH c S j M*(aq S*((bg (w.heap.size+1) node*(bg (w.heap.size+1+1) off*((Nv (w.heap.size+1+1+1) (J va l.length cap)*D))))*(pt w.heap.size (cQ j n)*F)))):=r.to (by unfold bg Nv;ac_rfl);have z:=ae hB;clear r hB t h;unfold fS
 go_enter func52,ntmps52
 go_wp2_with fail
 refine T.out (w.heap.size+1) (w.heap.size+1+1) (w.heap.size+1+1+1) _ _ z.out _ ?_;clear T z;generalize l0:((((w.alloc (cQ j n)).alloc (X #[Z .i64 node] 3 (0,0))).alloc (X #[Z .i64 off] 3 (0,0))).alloc (X #[J va l.length cap] 22 (0,0)))=w1 at *;generalize w.heap.size+1+1+1=b3 at *;generalize w.heap.size+1+1=b2 at *;generalize w.heap.size+1=b1 at *;generalize w.heap.size=b0 at *;rintro e w2 ⟨o,hS,d2,rfl,h2⟩;have h3:=ae (h2.to (by ac_rfl:_=(pt b0 (cQ j n)*bg b1 node*bg b2 off*Nv b3 (J va l.length cap))*(cH c o j p.2*(aq o*(D*F))))).right;clear h2
 go_wp2_with fail
 try go_ret
 exact L.out _ _ ⟨o,hS,dA.trans d2,rfl,h3.out⟩
theorem q9 {w:G} {j:Array Value} {a:Nat} {e:Value} {o:Array Value} {F:ai} (h4:j[4]?=Y (az a)) (r:j[5]?=Y e) (u:ag w (pt a (X o 65 (0,0))*F)) (t:o.size=20) :
  (results Tryz.f97 j).run W w = .ok (.tuple #[.agg o,e]) w:=by
 have v:=run_loadVar_row (P:=W) w a 65 65 o (0,0) _ u.heap underlying65 rfl (by rw [t];exact bE);have y:j.getD 4 undef = O (Y ⟨a,0,U⟩):=by simp [h4]
 have z:j.getD 5 undef=e:=by simp [r]
 simp [results,Tryz.results97,h4,r,asAddr,v]
theorem N9 (c:Cx σ) (hc:c.Ok) (n:Nat) (o0:4<=n) (p0:n<=3840) (j:Nat) (M:ik σ) (w:G) (S:Hp) (node:Int) (F:ai) (h:ag w (cH c S j M*(aq S*F))) :
  Calls W 97 #[fS j n,Z .i64 node] w (CD c j Pu Ay S F w (dZ (qy c.ask n node) M)):=by
 refine aJ fun r0 HQ=>?_;obtain ⟨p,hp⟩:∃ p,dZ (qy c.ask n node) M=p:=⟨_,rfl⟩
 rw [hp] at HQ;have s0:=nr W;have f0:=fun g0 w F h=>Lu c hc n o0 p0 159 #[O (Y ⟨g0,0,U⟩)] (bg g0 node) (qy c.ask n node) (fun m0 w=>enters func159 (by kernel_rfl) rfl m0 w) (Kn hc node g0) j M w S F h;rw [hp] at f0;have i0:=ae f0;have hA:=(((h.alloc (cQ j n)).alloc (X #[Z .i64 node] 3 (0,0))).alloc (X #[Z .i64 0,Z .i64 0,Z .i64 0,Z .i64 0,Z .i64 0,Z .i64 0,Z .i64 0,Z .i64 0,Z .i64 0,Z .i64 0,Z .i64 0,Z .i64 0,Z .i64 0,Z .i64 0,Z .i64 0,Z .i64 0,Z .i64 0,Z .i64 0,Z .i64 0,Z .i64 0] 65 (0,0)))
 have dA:=((((aj.refl w).alloc (cQ j n)).alloc (X #[Z .i64 node] 3 (0,0))).alloc (X #[Z .i64 0,Z .i64 0,Z .i64 0,Z .i64 0,Z .i64 0,Z .i64 0,Z .i64 0,Z .i64 0,Z .i64 0,Z .i64 0,Z .i64 0,Z .i64 0,Z .i64 0,Z .i64 0,Z .i64 0,Z .i64 0,Z .i64 0,Z .i64 0,Z .i64 0,Z .i64 0] 65 (0,0)))
 simp only [L2] at hA;have hB:ag (((w.alloc (cQ j n)).alloc (X #[Z .i64 node] 3 (0,0))).alloc (X #[Z .i64 0,Z .i64 0,Z .i64 0,Z .i64 0,Z .i64 0,Z .i64 0,Z .i64 0,Z .i64 0,Z .i64 0,Z .i64 0,Z .i64 0,Z .i64 0,Z .i64 0,Z .i64 0,Z .i64 0,Z .i64 0,Z .i64 0,Z .i64 0,Z .i64 0,Z .i64 0] 65 (0,0))) (cH c S j M*(aq S*(bg (w.heap.size+1) node*(pt (w.heap.size+1+1) (X #[Z .i64 0,Z .i64 0,Z .i64 0,Z .i64 0,Z .i64 0,Z .i64 0,Z .i64 0,Z .i64 0,Z .i64 0,Z .i64 0,Z .i64 0,Z .i64 0,Z .i64 0,Z .i64 0,Z .i64 0,Z .i64 0,Z .i64 0,Z .i64 0,Z .i64 0,Z .i64 0] 65 (0,0))*(pt w.heap.size (cQ j n)*F))))):=hA.to (by unfold bg;ac_rfl);have HB:=ae hB;clear hA hB f0 h;unfold fS
 go_enter func97,ntmps97
 go_wp2_with fail
 refine i0.out (w.heap.size+1) _ _ HB.out _ ?_;clear i0 HB;generalize u0:(((w.alloc (cQ j n)).alloc (X #[Z .i64 node] 3 (0,0))).alloc (X #[Z .i64 0,Z .i64 0,Z .i64 0,Z .i64 0,Z .i64 0,Z .i64 0,Z .i64 0,Z .i64 0,Z .i64 0,Z .i64 0,Z .i64 0,Z .i64 0,Z .i64 0,Z .i64 0,Z .i64 0,Z .i64 0,Z .i64 0,Z .i64 0,Z .i64 0,Z .i64 0] 65 (0,0)))=w1 at *;generalize w.heap.size+1+1=o at *;generalize w.heap.size+1=b1 at *;generalize w.heap.size=b0 at *;obtain ⟨q0,M2⟩:=p;have n0:(prog.info? 65).map (·.size)=Y 20:=bE;have c0:∀ (T:Array Value) (L:G) (P:ai),T.size=20->ag L (pt o (X #[Z .i64 0,Z .i64 0,Z .i64 0,Z .i64 0,Z .i64 0,Z .i64 0,Z .i64 0,Z .i64 0,Z .i64 0,Z .i64 0,Z .i64 0,Z .i64 0,Z .i64 0,Z .i64 0,Z .i64 0,Z .i64 0,Z .i64 0,Z .i64 0,Z .i64 0,Z .i64 0] 65 (0,0))*P)->ag (L.setRow o T) (pt o (X T 65 (0,0))*P):=fun T L P z y=>y.setRow
 cases q0 with
 | bad cN=>
  rintro e L ⟨r,y,d2,rfl,u⟩;have t:=u.to (by ac_rfl:_=pt o (X #[Z .i64 0,Z .i64 0,Z .i64 0,Z .i64 0,Z .i64 0,Z .i64 0,Z .i64 0,Z .i64 0,Z .i64 0,Z .i64 0,Z .i64 0,Z .i64 0,Z .i64 0,Z .i64 0,Z .i64 0,Z .i64 0,Z .i64 0,Z .i64 0,Z .i64 0,Z .i64 0] 65 (0,0))*((bg b1 node*pt b0 (cQ j n))*(cH c r j M2*(aq r*F))));have Hz:=ae t.heap;have h4:=ae (c0 #[Z .i64 0,Z .i64 0,Z .i64 0,Z .i64 0,Z .i64 0,Z .i64 0,Z .i64 0,Z .i64 0,Z .i64 0,Z .i64 0,Z .i64 0,Z .i64 0,Z .i64 0,Z .i64 0,Z .i64 0,Z .i64 0,Z .i64 0,Z .i64 0,Z .i64 0,Z .i64 0] _ _ rfl t);have d0:Hid ((#[Z .i64 0,Z .i64 0,Z .i64 0,Z .i64 0,Z .i64 0,Z .i64 0,Z .i64 0,Z .i64 0,Z .i64 0,Z .i64 0,Z .i64 0,Z .i64 0,Z .i64 0,Z .i64 0,Z .i64 0,Z .i64 0,Z .i64 0,Z .i64 0,Z .i64 0,Z .i64 0]:Array Value).all (·.oneCell')=Q):=FG;have D4:=ae ((dA.trans d2).setRow o #[Z .i64 0,Z .i64 0,Z .i64 0,Z .i64 0,Z .i64 0,Z .i64 0,Z .i64 0,Z .i64 0,Z .i64 0,Z .i64 0,Z .i64 0,Z .i64 0,Z .i64 0,Z .i64 0,Z .i64 0,Z .i64 0,Z .i64 0,Z .i64 0,Z .i64 0,Z .i64 0]);clear u t c0
  go_wp2_with (refine wpList_store_row (by exact rfl) 65 (.tmp 4) (.tmp 9) (by exact rfl) o #[Z .i64 0,Z .i64 0,Z .i64 0,Z .i64 0,Z .i64 0,Z .i64 0,Z .i64 0,Z .i64 0,Z .i64 0,Z .i64 0,Z .i64 0,Z .i64 0,Z .i64 0,Z .i64 0,Z .i64 0,Z .i64 0,Z .i64 0,Z .i64 0,Z .i64 0,Z .i64 0] (by exact rfl) (by exact rfl) 65 _ (by with_reducible exact Hz.out) n0 (by rfl) d0.out ?_)
  exact bodyPost_ret (q9 rfl rfl h4.out rfl) rfl (HQ.out _ _ ⟨r,y,D4.out,rfl,h4.out.right.right⟩)
 | ok a=>
  rintro e L ⟨r,v,y,d2,rfl,u⟩;obtain ⟨⟨rfl,e0⟩,j0⟩:=ag.au.1 u;have t:=j0.to (by ac_rfl:_=pt o (X #[Z .i64 0,Z .i64 0,Z .i64 0,Z .i64 0,Z .i64 0,Z .i64 0,Z .i64 0,Z .i64 0,Z .i64 0,Z .i64 0,Z .i64 0,Z .i64 0,Z .i64 0,Z .i64 0,Z .i64 0,Z .i64 0,Z .i64 0,Z .i64 0,Z .i64 0,Z .i64 0] 65 (0,0))*((bg b1 node*pt b0 (cQ j n))*(cH c r j M2*(aq r*F))));have z:(ints a.l).size=20:=by rw [dO,Nd.cells e0]
  have Hz:=ae t.heap;have h4:=ae (c0 (ints a.l) _ _ z t);have d0:Hid ((ints a.l).all (·.oneCell')=Q):=by simp [RowKit.Hid,ints,Value.oneCell']
  have l0:Hid ((prog.info? 65).map (·.size)=Y (ints a.l).size):=by show _=_;rw [z];exact bE
  have D4:=ae ((dA.trans d2).setRow o (ints a.l));have HX:=ae z;have k0:=ae e0;clear u j0 t c0 z e0;unfold Nd.v
  go_wp2_with (refine wpList_store_row (by exact rfl) 65 (.tmp 4) (.tmp 9) (by exact rfl) o (ints a.l) (by exact rfl) (by exact rfl) 65 _ (by with_reducible exact Hz.out) l0.out (by rw [HX.out];rfl) d0.out ?_)
  exact bodyPost_ret (q9 rfl rfl h4.out HX.out) rfl (HQ.out _ _ ⟨r,_,y,D4.out,rfl,ag.au.2 ⟨⟨rfl,k0.out⟩,h4.out.right.right⟩⟩)
end
end Go.Proofs.Fs
namespace Go.SL
open RowKit
section
variable {σ α β:Type}
structure pR (ask:cO σ) (n:Nat) (V:Nat->List UInt8) (I:σ->Prop):Prop where
 len:∀ i,i<n->(V i).length=480
 VJ:∀ (s:σ) (i:Nat),I s->i<n->(ask s (i:Int)).1=(0,V i)/\I (ask s (i:Int)).2
structure Good (n:Nat) (V:Nat->List UInt8) (I:σ->Prop) (b:ik σ):Prop where
 err:b.err=0
 inv:I b.s
 wr:∀ (i:Nat) l,i<n->aP b.W (i:Int)=some l->l.length=480
 rd:∀ (i:Nat) l,i<n->aP b.D (i:Int)=some l->l=V i
 keys:∀ p ∈ b.W,0<=p.1/\p.1<(n:Int)
def vw (V:Nat->List UInt8) (j:List (Int × List UInt8)) (i:Nat):List UInt8:=(aP j (i:Int)).getD (V i)
structure Aw where
 V:Nat->List UInt8
 B:List UInt8
structure Rel (n:Nat) (V0:Nat->List UInt8) (I:σ->Prop) (st:eB σ) (a:Aw):Prop where
 gz:Good n V0 I st.b
 view:∀ i,0<i->i<n->vw V0 st.b.W i=a.V i
 bits:st.bits=some a.B\/(st.bits=none/\st.dt=false/\vw V0 st.b.W 0=a.B)
 dt:st.dt=false->vw V0 st.b.W 0=a.B
 len:a.B.length=480
def zT (V:Nat->List UInt8) (i:Nat) (l:List UInt8):Nat->List UInt8:=fun k=>if k=i then l else V k
theorem uG (V:Nat->List UInt8) (j:List (Int × List UInt8)) (i:Nat) (l:List UInt8) (k:Nat):vw V (SL.fw j (i:Int) l) k=if k=i then l else vw V j k:=by
 unfold vw;rw [qq]
 by_cases h:k=i
 .subst h;rw [if_pos rfl,if_pos rfl];rfl
 .rw [if_neg h,if_neg (by omega)]
theorem Good.O7 {n:Nat} {V:Nat->List UInt8} {I:σ->Prop} {b:ik σ} {ask:cO σ} (hr:pR ask n V I) (h:Good n V I b) {i:Nat} (hi:i<n):(vw V b.W i).length=480:=by
 unfold vw
 cases j:aP b.W (i:Int) with
 | some l=>exact h.wr i l hi j
 | none=>exact hr.len i hi
def aL (n:Nat) (V0:Nat->List UInt8) (I:σ->Prop) (m:WM σ α) (a:Aw) (P:α->Aw->Prop) (E:Int->Prop):Prop:=
 ∀ st,Rel n V0 I st a->match m st with
  | (.ok x,j)=>∃ a',Rel n V0 I j a'/\P x a'
  | (.bad c,j)=>I j.b.s/\E c
variable {n:Nat} {V0:Nat->List UInt8} {I:σ->Prop} {ask:cO σ} {m:WM σ α} {a:Aw} {P:α->Aw->Prop} {E:Int->Prop}
theorem aL.bind {k:α->WM σ β} {R:β->Aw->Prop} (h:aL n V0 I m a P E) (t:∀ x a',P x a'->aL n V0 I (k x) a' R E):aL n V0 I (WM.bind m k) a R E:=by
 intro st u;have:=h st u;unfold WM.bind
 match v:m st,this with
 | (.ok x,o),⟨a',j,r⟩=>exact t x a' r o j
 | (.bad c,o),j=>exact j
theorem aL.mono {r:α->Aw->Prop} {o:Int->Prop} (h:aL n V0 I m a P E) (v:∀ x a',P x a'->r x a') (u:∀ c,E c->o c):aL n V0 I m a r o:=by
 intro st y;have:=h st y
 match L:m st,this with
 | (.ok x,z),⟨a',j,t⟩=>exact ⟨a',j,v _ _ t⟩
 | (.bad c,z),j=>exact ⟨j.1,u _ j.2⟩
theorem aL.pure {x:α} (h:P x a):aL n V0 I (WM.pure x) a P E:=fun st j=>⟨a,j,h⟩
theorem aL.bad {c:Int} (h:E c):aL n V0 I (fun st=>((.bad c,st):Rs α × eB σ)) a P E:=fun st j=>⟨j.gz.inv,h⟩
theorem aL.congr {m':WM σ α} (h:aL n V0 I m' a P E) (e:∀ st,m st=m' st):aL n V0 I m a P E:=fun st j=>by
 have:=h st j;rw [<- e st] at this;exact this
theorem Dz (hr:pR ask n V0 I) {b:ik σ} (h:Good n V0 I b) {i:Nat} (hi:i<n) :
  ∃ o,gh ask b (i:Int)=((0,vw V0 b.W i),o)/\o.W=b.W/\Good n V0 I o:=by
 unfold gh vw;rw [if_neg (by rw [h.err];simp)]
 cases y:aP b.W (i:Int) with
 | some l=>exact ⟨b,rfl,rfl,h⟩
 | none=>
  cases u:aP b.D (i:Int) with
  | some l=>exact ⟨b,by rw [h.rd i l hi u];rfl,rfl,h⟩
  | none=>
   obtain ⟨r,t⟩:=hr.VJ b.s i h.inv hi;refine ⟨{ b with D:=SL.fw b.D (i:Int) (V0 i),s:=(ask b.s (i:Int)).2 },?_,rfl,h.err,t,h.wr,fun k l v j=>?_,h.keys⟩
   .show rH ask b (i:Int)=_
    unfold rH;rw [r];rfl
   .rw [qq] at j
    split at j
    .rename_i e;cases j;congr 1;omega
    .exact h.rd k l v j
theorem xq (hr:pR ask n V0 I) {st:eB σ} (h:Good n V0 I st.b) {i:Nat} (hi:i<n) :
  ∃ j,cU ask (i:Int) st=(.ok (vw V0 st.b.W i),{ st with b:=j })/\j.W=st.b.W/\Good n V0 I j:=by
 obtain ⟨j,o,r,t⟩:=Dz hr h hi;refine ⟨j,?_,r,t⟩;unfold cU;rw [o];rw [if_neg (by simp),if_neg (by simp [h.O7 hr hi])]
theorem aL.read (hr:pR ask n V0 I) {i:Nat} (h0:0<i) (hi:i<n):aL n V0 I (cU ask (i:Int)) a (fun l a'=>l=a.V i/\l.length=480/\a'=a) E:=by
 intro st j;obtain ⟨o,t,r,u⟩:=xq hr j.gz hi;rw [t];refine ⟨a,⟨u,fun k y z=>?_,?_,fun v=>?_,j.len⟩,j.view i h0 hi,j.gz.O7 hr hi,rfl⟩
 .show vw V0 o.W k=_;rw [r];exact j.view k y z
 .show st.bits=_\/(st.bits=U/\st.dt=H/\vw V0 o.W 0=_);rw [r];exact j.bits
 .show vw V0 o.W 0=_;rw [r];exact j.dt v
theorem aL.write {i:Nat} {l:List UInt8} (h0:0<i) (b0:i<n) (T:l.length=480):aL n V0 I (bP (i:Int) l) a (fun _ a'=>a'={ a with V:=zT a.V i l }) E:=by
 intro st j
 have e:kq st.b.err (i:Int) l=0:=by
  unfold kq;rw [j.gz.err,if_neg (by simp),if_neg (by omega)]
 have u:bP (i:Int) l st=(.ok (),{ st with b:={ st.b with W:=SL.fw st.b.W (i:Int) l } }):=if_pos e;rw [u];refine ⟨{ a with V:=zT a.V i l },⟨⟨j.gz.err,j.gz.inv,fun k t r h'=>?_,j.gz.rd,fun p hp=>(za hp).elim (fun e=>by rw [e];exact ⟨by omega,by omega⟩) (j.gz.keys p)⟩,fun k r L=>?_,?_,fun z=>?_,j.len⟩,rfl⟩
 .have o:aP (SL.fw st.b.W (i:Int) l) (k:Int)=Y t:=h'
  rw [qq] at o
  split at o
  .cases o;exact T
  .exact j.gz.wr k t r o
 .show vw V0 (SL.fw st.b.W (i:Int) l) k=zT a.V i l k
  rw [uG];unfold zT
  split
  .rfl
  .exact j.view k r L
 .rcases j.bits with h|⟨h,v,y⟩
  .exact .inl h
  .refine .inr ⟨h,v,?_⟩
   show vw V0 (SL.fw st.b.W (i:Int) l) 0=a.B
   rw [uG,if_neg (by omega)];exact y
 .show vw V0 (SL.fw st.b.W (i:Int) l) 0=a.B
  rw [uG,if_neg (by omega)];exact j.dt z
theorem aL.bits (hr:pR ask n V0 I) (h0:0<n):∀ st,Rel n V0 I st a->∃ st',lJ ask st=(.ok a.B,st')/\Rel n V0 I st' a/\st'.bits=Y a.B:=by
 intro st j;unfold lJ;rcases j.bits with h|⟨h,T,t⟩
 .rw [h];exact ⟨st,rfl,j,h⟩
 .rw [h]
  obtain ⟨o,u,r,y⟩:=xq hr j.gz h0;have v:cU ask 0 st=(.ok (vw V0 st.b.W 0),{ st with b:=o }):=u;dsimp only;rw [v,t];refine ⟨_,rfl,⟨y,fun k z L=>?_,.inl rfl,fun hd=>?_,j.len⟩,rfl⟩
  .show vw V0 o.W k=_;rw [r];exact j.view k z L
  .show vw V0 o.W 0=_;rw [r];exact t
theorem aL.mark (hr:pR ask n V0 I) (h0:0<n) {id:Nat} {t:Bool}:aL n V0 I (cJ ask id t) a (fun _ a'=>a'={ a with B:=dU a.B id t }) E:=by
 intro st u;obtain ⟨v,o,j,y⟩:=aL.bits hr h0 st u;have e:cJ ask id t st=y8 id t a.B v:=WM.aX o;rw [e];unfold y8;exact ⟨{ a with B:=dU a.B id t },⟨j.gz,j.view,.inl rfl,fun r=>by simp at r,by rw [fj];exact j.len⟩,rfl⟩
theorem aL.take (hr:pR ask n V0 I) (h0:0<n) (r:fi a.B n=U->E 7):aL n V0 I (iL ask n) a (fun k a'=>fi a.B n=Y k/\a'={ a with B:=dU a.B k Q }) E:=by
 intro st v;obtain ⟨y,o,j,z⟩:=aL.bits hr h0 st v;have e:iL ask n st=sw n a.B y:=WM.aX o;rw [e];unfold sw
 cases u:fi a.B n with
 | none=>exact ⟨j.gz.inv,r u⟩
 | some k=>exact ⟨{ a with B:=dU a.B k Q },⟨j.gz,j.view,.inl rfl,fun t=>by simp at t,by rw [fj];exact j.len⟩,rfl,rfl⟩
def Na (V0:Nat->List UInt8) (M:ik σ):Aw:=⟨vw V0 M.W,vw V0 M.W 0⟩
theorem Rel.start (hr:pR ask n V0 I) (h0:0<n) {M:ik σ} (h:Good n V0 I M):Rel n V0 I ⟨M,U,H⟩ (Na V0 M):=
 ⟨h,fun _ _ _=>rfl,.inr ⟨rfl,rfl,rfl⟩,fun _=>rfl,h.O7 hr h0⟩
theorem aL.run (hr:pR ask n V0 I) (h0:0<n) {M:ik σ} (hM:Good n V0 I M) (h:aL n V0 I m (Na V0 M) P E) :
  (∃ x M' a',dZ m M=(.ok x,M')/\Good n V0 I M'/\P x a'/\vw V0 M'.W 0=a'.B/\∀ i,0<i->i<n->vw V0 M'.W i=a'.V i) \/
  (∃ c T,dZ m M=(.bad c,{ M with s:=T })/\I T/\E c):=by
 have h1:=h _ (Rel.start hr h0 hM)
 match y:m ⟨M,U,H⟩,h1 with
 | (.ok x,j),⟨a',o,z⟩=>
  cases u:j.dt with
  | false=>exact .inl ⟨x,j.b,a',nT y u,o.gz,z,o.dt u,o.view⟩
  | true=>
   have r:j.bits=Y a'.B:=by
    rcases o.bits with r|⟨_,r,_⟩
    .exact r
    .rw [u] at r;cases r
   have e:kq j.b.err 0 (j.bits.getD [])=0:=by
    unfold kq;rw [o.gz.err,if_neg (by simp),r];simp [o.len]
   have e2:bP 0 (j.bits.getD []) j=(.ok (),{ j with b:={ j.b with W:=SL.fw j.b.W 0 (j.bits.getD []) } }):=if_pos e;refine .inl ⟨x,_,a',qe y u e2,⟨o.gz.err,o.gz.inv,fun k L v h'=>?_,o.gz.rd,fun p hp=>(za hp).elim (fun e=>by rw [e];exact ⟨by omega,by omega⟩) (o.gz.keys p)⟩,z,?_,fun k v b0=>?_⟩
   .have t:aP (SL.fw j.b.W ((0:Nat):Int) (j.bits.getD [])) (k:Int)=Y L:=h'
    rw [qq] at t
    split at t
    .cases t;rw [r];exact o.len
    .exact o.gz.wr k L v t
   .have:=uG V0 j.b.W 0 (j.bits.getD []) 0
    rw [if_pos rfl,r] at this;rw [r];exact this
   .have:=uG V0 j.b.W 0 (j.bits.getD []) k
    rw [if_neg (by omega)] at this;exact this.trans (o.view k v b0)
 | (.bad c,j),o=>exact .inr ⟨c,j.b.s,lq y,o.1,o.2⟩
end
theorem Nt (x:Int) (j:List Int):jM (x :: j)=dx x 2++jM j:=rfl
theorem Bu (l:List UInt8) (o m:Nat):bQ l o (m+1)=iM (l.drop o) 2 :: bQ l (o+2) m:=by
 simp only [bQ,List.range_succ_eq_map,List.map_cons,List.map_map];congr 1;apply List.map_congr_left;intro i _;simp only [Function.comp,Nat.mul_succ];congr 2;omega
theorem uR (j:List Int):∀ (o rest:List UInt8),j.all cZ=Q->bQ (o++(jM j++rest)) o.length j.length=j:=by
 induction j with
 | nil=>intro o rest _;rfl
 | cons x j r=>
  intro o rest h;simp only [List.all_cons,K2] at h;rw [List.length_cons,Bu,List.drop_left,Nt,D3,mm x 2 _ 2 (A2 _)];have t:=ji h.1;have e:x%(256:Int) ^ 2=x:=by rw [show (256:Int) ^ 2=65536 by decide];omega
  rw [e];congr 1;have:=r (o++dx x 2) rest h.2;rw [List.length_append,bp,D3] at this;exact this
theorem JV {n:Nd} (j:n.dr.length=16):iK n=dx n.kd 1++(dx n.lk 2++(dx n.sz 4++(jM n.dr++(dx n.rw 2++zs 439)))):=by
 unfold iK PA bW;have o:(jM [n.rw])=dx n.rw 2:=by simp [jM]
 rw [o];have r:(dx n.kd 1++dx n.lk 2++dx n.sz 4++jM n.dr++dx n.rw 2).length=41:=by simp [bp,ja,j]
 rw [List.take_append,r,List.take_of_length_le (by omega)];have t:(zs 480).take (480-41)=zs 439:=by unfold zs;rw [List.take_replicate];exact congrArg (fun m=>H2 m 0) (by decide)
 rw [t];simp only [D3]
theorem Nk {n:Nd} (o:n.dr.length=16) (v:n.ok=Q):ku (iK n)=(n,0):=by
 have hf:=Nd.qY v;obtain ⟨hk,l0,l1,s0,s1,hd,hr,-,-⟩:=hf;have b0:=ji hr;rw [JV o];obtain ⟨kd,lk,sz,dr,j⟩:=n;dsimp only at *
 have e1:iM (dx kd 1++(dx lk 2++(dx sz 4++(jM dr++(dx j 2++zs 439))))) 1=kd:=by
  rw [mm kd 1 _ 1 (A2 _),show (256:Int) ^ 1=256 by decide];omega
 have r:(dx kd 1++(dx lk 2++(dx sz 4++(jM dr++(dx j 2++zs 439))))).drop 1=dx lk 2++(dx sz 4++(jM dr++(dx j 2++zs 439))):=V2 (bp _ _)
 have t:(dx kd 1++(dx lk 2++(dx sz 4++(jM dr++(dx j 2++zs 439))))).drop 3=dx sz 4++(jM dr++(dx j 2++zs 439)):=by
  rw [show 3=1+2 from rfl,<- G3,r];exact V2 (bp _ _)
 have T:(dx kd 1++(dx lk 2++(dx sz 4++(jM dr++(dx j 2++zs 439))))).drop 7=jM dr++(dx j 2++zs 439):=by
  rw [show 7=3+4 from rfl,<- G3,t];exact V2 (bp _ _)
 have u:(dx kd 1++(dx lk 2++(dx sz 4++(jM dr++(dx j 2++zs 439))))).drop 39=dx j 2++zs 439:=by
  rw [show 39=7+32 from rfl,<- G3,T];exact V2 (by rw [ja,o])
 have L:(dx kd 1++(dx lk 2++(dx sz 4++(jM dr++(dx j 2++zs 439))))).drop 41=zs 439:=by
  rw [show 41=39+2 from rfl,<- G3,u];exact V2 (bp _ _)
 have hp:bQ (dx kd 1++(dx lk 2++(dx sz 4++(jM dr++(dx j 2++zs 439))))) 7 16=dr:=by
  have:=uR dr (dx kd 1++(dx lk 2++dx sz 4)) (dx j 2++zs 439) hd;rw [o] at this;have e:(dx kd 1++(dx lk 2++dx sz 4)).length=7:=by simp [bp]
  rw [e] at this;simpa only [D3] using this
 have hn:iv (dx kd 1++(dx lk 2++(dx sz 4++(jM dr++(dx j 2++zs 439)))))=⟨kd,lk,sz,dr,j⟩:=by
  unfold iv;rw [e1,r,t,u,hp,mm lk 2 _ 2 (A2 _),mm sz 4 _ 4 (A2 _),mm j 2 _ 2 (A2 _)];have y:lk%(256:Int) ^ 2=lk:=by rw [show (256:Int) ^ 2=65536 by decide];omega
  have z:sz%(256:Int) ^ 4=sz:=by rw [show (256:Int) ^ 4=4294967296 by decide];omega
  have a3:j%(256:Int) ^ 2=j:=by rw [show (256:Int) ^ 2=65536 by decide];omega
  rw [y,z,a3]
 unfold ku;rw [hn,L,v];have hz:(zs 439).all (· == 0)=Q:=List.all_eq_true.2 fun x hx=>by rw [List.eq_of_mem_replicate hx];rfl
 rw [hz]
 rfl
theorem J5 {l:List Int} (h:l.length=240) (j:l.all cZ=Q):lH (jM l)=(l,0):=by
 have:=uR l [] [] j;simp only [List.nil_append,List.append_nil,List.length_nil,h] at this;unfold lH;rw [this,j]
 rfl
abbrev Own:=Nat × Nat × Nat
abbrev mU:Own:=(0,0,0)
abbrev ME:Own:=(1,0,0)
abbrev PZ:Own:=(2,0,0)
abbrev Jf (id:Nat):Own:=(3,id,0)
abbrev E8 (id i:Nat):Own:=(4,id,i)
def dp {α:Type} (f:Nat->α) (k:Nat) (x:α):Nat->α:=fun b=>if b=k then x else f b
theorem bC {α:Type} (f:Nat->α) (k:Nat) (x:α):dp f k x k=x:=if_pos rfl
theorem aK {α:Type} (f:Nat->α) {k b:Nat} (x:α) (h:b≠k):dp f k x b=f b:=if_neg h
def xC (own:Nat->Own) (n:Nat):Nat:=(D2 n).countP fun b=>own b == mU
theorem vT (own:Nat->Own) (n:Nat):xC own (n+1)=xC own n+if own n=mU then 1 else 0:=by
 unfold xC;rw [K3,W2];simp [L3]
theorem G5 {own own':Nat->Own} {n:Nat} (h:∀ b,b<n->own b=own' b):xC own n=xC own' n:=by
 unfold xC;apply P3;intro b j;rw [h b (List.mem_range.1 j)]
theorem mi {own:Nat->Own} {k:Nat} {x:Own}:∀ {n:Nat},k<n->xC (dp own k x) n+(if own k=mU then 1 else 0)=xC own n+if x=mU then 1 else 0
 | n+1,h=>by
  rw [vT,vT]
  by_cases j:k=n
  .subst j
   rw [bC,G5 (own:=dp own k x) (own':=own) fun b o=>aK _ _ (by omega)];omega
  .have:=mi (own:=own) (x:=x) (show k<n by omega)
   rw [aK _ _ (by omega:n≠k)];omega
structure Bm (n:Nat) (own:Nat->Own) (B:List UInt8):Prop where
 len:B.length=480
 bit:∀ b,b<n->(eD B b=true↔own b≠mU)
theorem Bm.set {n:Nat} {own:Nat->Own} {B:List UInt8} (h:Bm n own B) (hn:n<=3840) {k:Nat} (u:k<n) (x:Own) (t:Bool) (r:t=Q↔x≠mU):Bm n (dp own k x) (dU B k t):=by
 refine ⟨by rw [fj];exact h.len,fun b o=>?_⟩;rw [xW (by rw [h.len];omega)]
 by_cases j:b=k
 .subst j;rw [if_pos rfl,bC];exact r
 .rw [if_neg j,aK _ _ j];exact h.bit b o
theorem Bm.sd {n:Nat} {own:Nat->Own} {B:List UInt8} (h:Bm n own B) {k:Nat} (j:fi B n=Y k):k<n/\own k=mU:=by
 unfold fi at j;have u:=List.mem_of_find?_eq_some j;have o:=List.find?_some j;have t:=List.mem_range.1 u;refine ⟨t,?_⟩;have:=(h.bit k t)
 by_cases r:own k=mU
 .exact r
 .have v:=this.2 r
  rw [v] at o;simp at o
theorem Bm.ia {n:Nat} {own:Nat->Own} {B:List UInt8} (h:Bm n own B) (j:fi B n=U):xC own n=0:=by
 unfold fi at j;rw [List.find?_eq_none] at j;unfold xC;rw [H3];intro b r v;have z:=List.mem_range.1 r;have o:=j b r;have t:own b=mU:=by simpa using v
 have u:=(h.bit b z)
 have h4:eD B b=Q:=by
  cases y:eD B b with
  | true=>rfl
  | false=>rw [y] at o;simp at o
 exact u.1 h4 t
structure Hd.Ok (n id:Nat) (h:Hd):Prop where
 fit:h.fit
 id:h.id=id
 kd:h.n.kd=1\/h.n.kd=2
 IE:0<=h.n.lk
 Jm:h.n.lk<=65535
 Jj:0<=h.n.sz
 Nw:h.n.sz<=122880
 xN:0<=h.n.rw
 zV:h.n.rw<n
 pg:∀ i,i<256->0<=h.aN i/\h.aN i<n
 rz:h.n.rw=0->∀ i,16<=i->i<256->h.aN i=0
def ew (N:Nat->Option Hd) (b id:Nat):Prop:=∃ h,N id=Y h/\h.n.rw=(b:Int)/\b≠0
def et (N:Nat->Option Hd) (b id i:Nat):Prop:=∃ h,N id=Y h/\i<256/\h.aN i=(b:Int)/\b≠0
structure jl (n:Nat) (own:Nat->Own) (N:Nat->Option Hd):Prop where
 bm:∀ b,own b=ME↔b=0
 out:∀ b,n<=b->own b=mU
 ok:∀ id h,N id=some h->0<id/\id<n/\h.Ok n id
 nd:∀ b,own b=PZ↔(N b).isSome=true
 rw:∀ b id,own b=Jf id↔ew N b id
 pg:∀ b id i,own b=E8 id i↔et N b id i
section
variable {n id k i:Nat} {own:Nat->Own} {N:Nat->Option Hd} {h h':Hd}
theorem jl.td (L:jl n own N) (hN:N id=Y h):own id=PZ:=(L.nd id).2 (by rw [hN];rfl)
theorem jl.vx (L:jl n own N) (hN:N id=Y h) (h0:h.n.rw≠0):own h.n.rw.toNat=Jf id:=by
 have:=(L.ok id h hN).2.2.xN;exact (L.rw _ _).2 ⟨h,hN,by omega,by omega⟩
theorem jl.Cn (L:jl n own N) (hN:N id=Y h) (hi:i<256) (h0:h.aN i≠0):own (h.aN i).toNat=E8 id i:=by
 have:=((L.ok id h hN).2.2.pg i hi).1;exact (L.pg _ _ _).2 ⟨h,hN,hi,by omega,by omega⟩
theorem jl.zero (L:jl n own N):own 0=ME:=(L.bm 0).2 rfl
theorem jl.jE (L:jl n own N) (j:own k=mU):k≠0:=by rintro rfl;rw [L.zero] at j;cases j
theorem jl.ia (L:jl n own N) (j:own k=mU):N k=U:=by
 cases hN:N k with
 | none=>rfl
 | some h=>have:=L.td hN;rw [j] at this;cases this
theorem jl.fw (L:jl n own N) {x:Own} {o:Nat->Option Hd} (t:k≠0) (d0:k<n) (hx:x≠ME) (y:∀ id h,o id=Y h->0<id/\id<n/\h.Ok n id)
  (u:∀ b,b≠k->(o b).isSome=(N b).isSome) (v:x=PZ↔(o k).isSome=Q)
  (c0:∀ b id,b≠k->(ew o b id↔ew N b id)) (b0:∀ id,x=Jf id↔ew o k id)
  (z:∀ b id i,b≠k->(et o b id i↔et N b id i)) (T:∀ id i,x=E8 id i↔et o k id i):jl n (dp own k x) o:=by
 refine ⟨fun b=>?_,fun b r=>?_,y,fun b=>?_,fun b id=>?_,fun b id i=>?_⟩
 .by_cases j:b=k
  .subst j;rw [bC];exact ⟨fun h=>absurd h hx,fun h=>absurd h t⟩
  .rw [aK _ _ j];exact L.bm b
 .rw [aK _ _ (by omega)];exact L.out b r
 .by_cases j:b=k
  .subst j;rw [bC];exact v
  .rw [aK _ _ j,u b j];exact L.nd b
 .by_cases j:b=k
  .subst j;rw [bC];exact b0 id
  .rw [aK _ _ j,c0 b id j];exact L.rw b id
 .by_cases j:b=k
  .subst j;rw [bC];exact T id i
  .rw [aK _ _ j,z b id i j];exact L.pg b id i
theorem qH {N:Nat->Option Hd} {o:Option Hd} {id id':Nat} {g:Hd} (h:dp N id o id'=Y g):(id'=id/\o=Y g)\/(id'≠id/\N id'=Y g):=by
 by_cases e:id'=id
 .subst e;rw [bC] at h;exact .inl ⟨rfl,h⟩
 .rw [aK _ _ e] at h;exact .inr ⟨e,h⟩
theorem gv {N:Nat->Option Hd} {id b:Nat} (hN:N id=Y h):(dp N id (Y h') b).isSome=(N b).isSome:=by
 by_cases e:b=id
 .subst e;rw [bC,hN];rfl
 .rw [aK _ _ e]
theorem lI (hN:N id=Y h) {b id':Nat} (r:b≠0->(h'.n.rw=(b:Int)↔h.n.rw=(b:Int))):ew (dp N id (Y h')) b id'↔ew N b id':=by
 by_cases e:id'=id
 .subst e
  unfold ew;rw [bC,hN];constructor
  .rintro ⟨g,e,o,j⟩;cases e;exact ⟨h,rfl,(r j).1 o,j⟩
  .rintro ⟨g,e,o,j⟩;cases e;exact ⟨h',rfl,(r j).2 o,j⟩
 .unfold ew;rw [aK _ _ e]
theorem lx (hN:N id=Y h) {b id' j:Nat} (u:j<256->b≠0->(h'.aN j=(b:Int)↔h.aN j=(b:Int))):et (dp N id (Y h')) b id' j↔et N b id' j:=by
 by_cases e:id'=id
 .subst e
  unfold et;rw [bC,hN];constructor
  .rintro ⟨g,e,r,t,o⟩;cases e;exact ⟨h,rfl,r,(u r o).1 t,o⟩
  .rintro ⟨g,e,r,t,o⟩;cases e;exact ⟨h',rfl,r,(u r o).2 t,o⟩
 .unfold et;rw [aK _ _ e]
theorem jl.Mg (L:jl n own N) (hN:N id=Y h) (o:h'.Ok n id):∀ id' g,dp N id (Y h') id'=Y g->0<id'/\id'<n/\g.Ok n id':=by
 intro id' g j;rcases qH j with ⟨rfl,e⟩|⟨_,e⟩
 .cases e;exact ⟨(L.ok _ _ hN).1,(L.ok _ _ hN).2.1,o⟩
 .exact L.ok _ _ e
theorem jl.AY (L:jl n own N) {x:Own} (j:own k=x) (o:∀ id,x≠Jf id):∀ id,¬ ew N k id:=fun id h=>o id (j.symm.trans ((L.rw k id).2 h))
theorem jl.xt (L:jl n own N) {x:Own} (j:own k=x) (o:∀ id i,x≠E8 id i):∀ id i,¬ et N k id i:=fun id i h=>o id i (j.symm.trans ((L.pg k id i).2 h))
theorem jl.new (L:jl n own N) (o:own k=mU) (t:k<n) (T:h'.Ok n k) (hp:∀ i,i<256->h'.aN i=0) (hr:h'.n.rw=0):jl n (dp own k PZ) (dp N k (Y h')):=by
 have hN:=L.ia o;have z:=L.jE o
 have hR:∀ b id,ew (dp N k (Y h')) b id↔ew N b id:=by
  intro b id
  by_cases e:id=k
  .subst e
   unfold ew;rw [bC,hN];constructor
   .rintro ⟨g,e,j,u⟩;cases e;rw [hr] at j;exact absurd j (by omega)
   .rintro ⟨g,e,_⟩;cases e
  .unfold ew;rw [aK _ _ e]
 have r:∀ b id i,et (dp N k (Y h')) b id i↔et N b id i:=by
  intro b id i
  by_cases e:id=k
  .subst e
   unfold et;rw [bC,hN];constructor
   .rintro ⟨g,e,hi,j,u⟩;cases e;rw [hp i hi] at j;exact absurd j (by omega)
   .rintro ⟨g,e,_⟩;cases e
  .unfold et;rw [aK _ _ e]
 refine L.fw z t (by decide) ?_ (fun b v=>by rw [aK _ _ v]) (by rw [bC];simp) (fun b id _=>hR b id) (fun id=>?_) (fun b id i _=>r b id i) (fun id i=>?_)
 .intro id g y
  rcases qH y with ⟨rfl,e⟩|⟨_,e⟩
  .cases e;exact ⟨by omega,t,T⟩
  .exact L.ok _ _ e
 .rw [hR]
  exact ⟨fun h=>absurd h (by simp),fun h=>absurd h (L.AY o (by simp) id)⟩
 .rw [r]
  exact ⟨fun h=>absurd h (by simp),fun h=>absurd h (L.xt o (by simp) id i)⟩
theorem jl.aN (L:jl n own N) (hN:N id=Y h) (t:own k=mU) (e0:k<n) (hi:i<256) (h0:h.aN i=0) (hr:16<=i->h.n.rw≠0):jl n (dp own k (E8 id i)) (dp N id (Y (h.put i (k:Int)))):=by
 have c0:=L.jE t;have o:=(L.ok _ _ hN).2.2;have u:=fun j=>Hd.jh o.fit hi (k:Int) j;have hR:∀ b id',ew (dp N id (Y (h.put i (k:Int)))) b id'↔ew N b id':=fun b id'=>lI hN (by rw [Hd.gQ];exact fun _=>Iff.rfl);refine L.fw c0 e0 (by simp) (L.Mg hN ?_) (fun b _=>gv hN) ?_ (fun b id _=>hR b id) (fun id'=>?_) (fun b id' j hb=>lx hN fun v=>?_) (fun id' j=>?_)
 .refine ⟨Hd.tM o.fit _ _,by rw [Hd.Nf];exact o.id,?_,?_,?_,?_,?_,by rw [Hd.gQ];exact o.xN,by rw [Hd.gQ];exact o.zV,fun j v=>?_,fun r j b0 d0=>?_⟩
  .unfold Hd.put;split <;> exact o.kd
  .unfold Hd.put;split <;> exact o.IE
  .unfold Hd.put;split <;> exact o.Jm
  .rw [Hd.zq];exact o.Jj
  .rw [Hd.zq];exact o.Nw
  .rw [u];split
   .exact ⟨by omega,by omega⟩
   .exact o.pg j v
  .rw [Hd.gQ] at r
   rw [u,if_neg (by rintro rfl;exact hr b0 r)];exact o.rz r j b0 d0
 .have:(N k)=U:=L.ia t
  rw [gv hN,this];simp
 .rw [hR];exact ⟨fun h=>absurd h (by simp),fun h=>absurd h (L.AY t (by simp) id')⟩
 .rw [u]
  intro f0
  split
  .rename_i e;subst e;rw [h0]
   exact ⟨fun h=>absurd (by omega) hb,fun h=>absurd h.symm (by omega)⟩
  .exact Iff.rfl
 .by_cases e:id'=id
  .subst e
   by_cases z:j=i
   .subst z
    exact ⟨fun _=>⟨_,bC _ _ _,hi,by rw [u,if_pos rfl],c0⟩,fun _=>rfl⟩
   .refine ⟨fun h=>absurd h (by simp;omega),fun r=>?_⟩
    obtain ⟨g,e,v,T,h2⟩:=r;rw [bC] at e;cases e
    rw [u,if_neg z] at T;exact absurd ⟨h,hN,v,T,h2⟩ (L.xt t (by simp) _ _)
  .refine ⟨fun h=>absurd h (by simp;omega),fun r=>?_⟩
   obtain ⟨g,y,r⟩:=r;rw [aK _ _ e] at y;exact absurd ⟨g,y,r⟩ (L.xt t (by simp) _ _)
theorem jl.row (L:jl n own N) (hN:N id=Y h) (t:own k=mU) (z:k<n) (h0:h.n.rw=0):jl n (dp own k (Jf id)) (dp N id (Y (h.dy (k:Int)))):=by
 have y:=L.jE t;have o:=(L.ok _ _ hN).2.2;have v:∀ b id' j,et (dp N id (Y (h.dy (k:Int)))) b id' j↔et N b id' j:=fun b id' j=>lx hN fun _ _=>Iff.rfl;refine L.fw y z (by simp) (L.Mg hN ?_) (fun b _=>gv hN) ?_ (fun b id' T=>lI hN fun b0=>?_) (fun id'=>?_) (fun b id i _=>v b id i) (fun id' j=>?_)
 .exact ⟨o.fit,o.id,o.kd,o.IE,o.Jm,o.Jj,o.Nw,show 0<=(k:Int) by omega,show (k:Int)<n by omega,o.pg,fun r=>absurd (show (k:Int)=0 from r) (by omega)⟩
 .rw [gv hN,L.ia t];simp
 .rw [h0];show (k:Int)=b↔_;constructor <;> intro r <;> omega
 .by_cases e:id'=id
  .subst e
   exact ⟨fun _=>⟨_,bC _ _ _,rfl,y⟩,fun _=>rfl⟩
  .refine ⟨fun h=>absurd h (by simp;omega),fun r=>?_⟩
   obtain ⟨g,u,r⟩:=r;rw [aK _ _ e] at u;exact absurd ⟨g,u,r⟩ (L.AY t (by simp) _)
 .rw [v];exact ⟨fun h=>absurd h (by simp),fun h=>absurd h (L.xt t (by simp) id' j)⟩
theorem jl.Rj (L:jl n own N) (hN:N id=Y h) (hi:i<256) (h0:h.aN i≠0):jl n (dp own (h.aN i).toNat mU) (dp N id (Y (h.put i 0))):=by
 have o:=(L.ok _ _ hN).2.2;have hp:=o.pg i hi;obtain ⟨k,T⟩:∃ k:Nat,h.aN i=(k:Int):=⟨(h.aN i).toNat,by omega⟩
 have u:=L.Cn hN hi h0;rw [T,E2] at u ⊢;have d0:k≠0:=by omega
 have y:=fun j=>Hd.jh o.fit hi 0 j;have hR:∀ b id',ew (dp N id (Y (h.put i 0))) b id'↔ew N b id':=fun b id'=>lI hN (by rw [Hd.gQ];exact fun _=>Iff.rfl);refine L.fw d0 (by omega) (by decide) (L.Mg hN ?_) (fun b _=>gv hN) ?_ (fun b id _=>hR b id) (fun id'=>?_) (fun b id' j hb=>?_) (fun id' j=>?_)
 .refine ⟨Hd.tM o.fit _ _,by rw [Hd.Nf];exact o.id,?_,?_,?_,?_,?_,by rw [Hd.gQ];exact o.xN,by rw [Hd.gQ];exact o.zV,fun j t=>?_,fun r j b0 c0=>?_⟩
  .unfold Hd.put;split <;> exact o.kd
  .unfold Hd.put;split <;> exact o.IE
  .unfold Hd.put;split <;> exact o.Jm
  .rw [Hd.zq];exact o.Jj
  .rw [Hd.zq];exact o.Nw
  .rw [y];split
   .exact ⟨by omega,by omega⟩
   .exact o.pg j t
  .rw [Hd.gQ] at r
   rw [y];split
   .rfl
   .exact o.rz r j b0 c0
 .rw [gv hN]
  refine ⟨fun h=>absurd h (by simp),fun r=>?_⟩;have:=(L.nd k).2 r;rw [u] at this;cases this
 .rw [hR];exact ⟨fun h=>absurd h (by simp),fun h=>absurd h (L.AY u (by simp) id')⟩
 .by_cases e:id'=id
  .subst e
   refine lx hN fun t e0=>?_;rw [y]
   split
   .rename_i e;subst e;rw [T]
    constructor <;> intro r <;> omega
   .exact Iff.rfl
  .unfold et;rw [aK _ _ e]
 .refine ⟨fun h=>absurd h (by simp),fun r=>?_⟩
  obtain ⟨g,e,t,v,z⟩:=r;rcases qH e with ⟨rfl,e2⟩|⟨e1,e⟩
  .cases e2
   rw [y] at v
   split at v
   .omega
   .have:=(L.pg k id' j).2 ⟨h,hN,t,v,z⟩
    rw [u] at this;simp at this;omega
  .have:=(L.pg k id' j).2 ⟨g,e,t,v,z⟩
   rw [u] at this;simp at this;omega
theorem jl.Sz (L:jl n own N) (hN:N id=Y h) (h0:h.n.rw≠0) (hz:∀ i,16<=i->i<256->h.aN i=0):jl n (dp own h.n.rw.toNat mU) (dp N id (Y (h.dy 0))):=by
 have o:=(L.ok _ _ hN).2.2;have d0:=o.xN;have e0:=o.zV;obtain ⟨k,y⟩:∃ k:Nat,h.n.rw=(k:Int):=⟨h.n.rw.toNat,by omega⟩
 have t:=L.vx hN h0;rw [y,E2] at t ⊢;have b0:k≠0:=by omega
 have v:∀ b id' j,et (dp N id (Y (h.dy 0))) b id' j↔et N b id' j:=fun b id' j=>lx hN fun _ _=>Iff.rfl;refine L.fw b0 (by omega) (by decide) (L.Mg hN ?_) (fun b _=>gv hN) ?_ (fun b id' hb=>?_) (fun id'=>?_) (fun b id i _=>v b id i) (fun id' j=>?_)
 .exact ⟨o.fit,o.id,o.kd,o.IE,o.Jm,o.Jj,o.Nw,Int.le_refl _,show (0:Int)<n by omega,o.pg,fun _=>hz⟩
 .rw [gv hN]
  refine ⟨fun h=>absurd h (by simp),fun r=>?_⟩;have:=(L.nd k).2 r;rw [t] at this;cases this
 .by_cases e:id'=id
  .subst e
   refine lI hN fun c0=>?_;rw [y];show (0:Int)=b↔_;constructor <;> intro r <;> omega
  .unfold ew;rw [aK _ _ e]
 .refine ⟨fun h=>absurd h (by simp),fun r=>?_⟩
  obtain ⟨g,e,u,T⟩:=r;rcases qH e with ⟨rfl,z⟩|⟨e1,e⟩
  .cases z
   exact absurd (show (0:Int)=k from u) (by omega)
  .have:=(L.rw k id').2 ⟨g,e,u,T⟩
   rw [t] at this;simp at this;omega
 .rw [v];exact ⟨fun h=>absurd h (by simp),fun h=>absurd h (L.xt t (by simp) id' j)⟩
theorem jl.gone (L:jl n own N) (hN:N id=Y h) (h0:h.n.rw=0) (hz:∀ i,i<256->h.aN i=0):jl n (dp own id mU) (dp N id U):=by
 have T:=(L.ok _ _ hN)
 have t:=L.td hN
 have hR:∀ b id',ew (dp N id U) b id'↔ew N b id':=by
  intro b id'
  by_cases e:id'=id
  .subst e
   unfold ew;rw [bC,hN];constructor
   .rintro ⟨g,e,_⟩;cases e
   .rintro ⟨g,e,o,u⟩;cases e;rw [h0] at o;exact absurd o (by omega)
  .unfold ew;rw [aK _ _ e]
 have r:∀ b id' j,et (dp N id U) b id' j↔et N b id' j:=by
  intro b id' j
  by_cases e:id'=id
  .subst e
   unfold et;rw [bC,hN];constructor
   .rintro ⟨g,e,_⟩;cases e
   .rintro ⟨g,e,z,o,u⟩;cases e;rw [hz j z] at o;exact absurd o (by omega)
  .unfold et;rw [aK _ _ e]
 refine L.fw (by omega) T.2.1 (by decide) ?_ (fun b v=>by rw [aK _ _ v]) (by rw [bC];simp) (fun b id _=>hR b id) (fun id'=>?_) (fun b id' j _=>r b id' j) (fun id' j=>?_)
 .intro id' g y
  rcases qH y with ⟨rfl,e⟩|⟨_,e⟩
  .cases e
  .exact L.ok _ _ e
 .rw [hR];exact ⟨fun h=>absurd h (by simp),fun h=>absurd h (L.AY t (by simp) id')⟩
 .rw [r];exact ⟨fun h=>absurd h (by simp),fun h=>absurd h (L.xt t (by simp) id' j)⟩
theorem jl.set (L:jl n own N) (hN:N id=Y h) (r:h'.Ok n id) (hr:h'.n.rw=h.n.rw) (t:∀ i,i<256->h'.aN i=h.aN i):jl n own (dp N id (Y h')):=by
 refine ⟨L.bm,L.out,L.Mg hN r,fun b=>?_,fun b id'=>?_,fun b id' j=>?_⟩
 .rw [gv hN];exact L.nd b
 .rw [lI hN fun _=>by rw [hr]];exact L.rw b id'
 .rw [lx hN fun o _=>by rw [t j o]];exact L.pg b id' j
end
def js (V:Nat->List UInt8) (h:Hd) (p:Nat):UInt8:=if h.aN (p/480)=0 then 0 else (V (h.aN (p/480)).toNat).getD (p%480) 0
structure yd (V:Nat->List UInt8) (h:Hd):Prop where
 dec:ku (V h.id)=(h.n,0)
 row:h.n.rw≠0->lH (V h.n.rw.toNat)=(h.row,0)
structure Hd.Fin (h:Hd):Prop where
 hi:∀ i:Nat,i<256->aW h.n.sz<=i->h.aN i=0
 SY:h.n.rw≠0->∃ i,16<=i/\i<256/\h.aN i≠0
def BN (V:Nat->List UInt8) (h:Hd):Prop:=∀ p:Nat,p<122880->h.n.sz<=p->js V h p=0
structure s6 (n:Nat) (a:Aw) (own:Nat->Own) (N:Nat->Option Hd) (id:Nat):Prop where
 lay:jl n own N
 bm:Bm n own a.B
 len:∀ b,0<b->b<n->(a.V b).length=480
 rest:∀ id' h,id'≠id->N id'=some h->h.Fin/\yd a.V h/\BN a.V h
section
variable {n id k i:Nat} {own:Nat->Own} {N:Nat->Option Hd} {h h':Hd} {a:Aw} {V V':Nat->List UInt8}
theorem jl.Vv (L:jl n own N):N 0=U:=by
 cases hN:N 0 with
 | none=>rfl
 | some h=>exact absurd (L.ok 0 h hN).1 (by omega)
theorem ki (V:Nat->List UInt8) (k:Nat) (l:List UInt8):zT V k l k=l:=if_pos rfl
theorem fH (V:Nat->List UInt8) {k b:Nat} (l:List UInt8) (h:b≠k):zT V k l b=V b:=if_neg h
theorem yd.frame (L:jl n own N) (hN:N id=Y h) (o:yd V h) (j:∀ b,b=id\/own b=Jf id->V' b=V b):yd V' h:=by
 have r:=(L.ok _ _ hN).2.2;refine ⟨?_,fun h0=>?_⟩
 .rw [j _ (.inl r.id)];exact o.dec
 .rw [j _ (.inr (L.vx hN h0))];exact o.row h0
theorem ot (L:jl n own N) (hN:N id=Y h) (j:∀ b i,own b=E8 id i->V' b=V b) {p:Nat} (o:p<122880):js V' h p=js V h p:=by
 unfold js
 split
 .rfl
 .rename_i h0
  rw [j _ _ (L.Cn hN (by omega) h0)]
theorem BN.frame (L:jl n own N) (hN:N id=Y h) (t:BN V h) (r:∀ b i,own b=E8 id i->V' b=V b):BN V' h:=fun p j o=>by
 rw [ot L hN r j];exact t p j o
def Gh (own:Nat->Own) (id k:Nat):Prop:=own k=mU\/(own k=PZ/\k=id)\/own k=Jf id\/∃ i,own k=E8 id i
theorem wb {id':Nat} (L:jl n own N) (hN:N id'=Y h) (u:id'≠id) (t:Gh own id k):k≠id'/\own k≠Jf id'/\∀ i,own k≠E8 id' i:=by
 have:=L.td hN;refine ⟨?_,?_,?_⟩
 .rintro rfl
  rcases t with o|⟨_,o⟩|o|⟨i,o⟩
  .rw [this] at o;cases o
  .exact u o
  .rw [this] at o;cases o
  .rw [this] at o;cases o
 .intro r
  rcases t with o|⟨o,_⟩|o|⟨i,o⟩
  .rw [r] at o;cases o
  .rw [r] at o;cases o
  .rw [r] at o;simp at o;exact u o
  .rw [r] at o;cases o
 .intro j r
  rcases t with o|⟨o,_⟩|o|⟨i,o⟩
  .rw [r] at o;cases o
  .rw [r] at o;cases o
  .rw [r] at o;cases o
  .rw [r] at o;simp at o;exact u o.1
theorem s6.PQ (S:s6 n a own N id) {id':Nat} (r:id'≠id) (hN:N id'=Y h) (t:∀ b,¬ Gh own id b->V' b=a.V b):h.Fin/\yd V' h/\BN V' h:=by
 obtain ⟨u,v,y⟩:=S.rest id' h r hN;refine ⟨u,v.frame S.lay hN fun b j=>t b fun o=>?_,y.frame S.lay hN fun b i j=>t b fun o=>?_⟩
 .have:=wb S.lay hN r o
  rcases j with rfl|j
  .exact this.1 rfl
  .exact this.2.1 j
 .exact (wb S.lay hN r o).2.2 i j
theorem xu (L:jl n own N) {id':Nat} (t:id'≠id) (hN:N id'=Y h) (j:∀ b,¬ Gh own id b->V' b=V b) {p:Nat} (u:p<122880):js V' h p=js V h p:=
 ot L hN (fun b i o=>j b fun r=>(wb L hN t r).2.2 i o) u
theorem s6.fp (S:s6 n a own N 0) (id:Nat):s6 n a own N id:=⟨S.lay,S.bm,S.len,fun id' h j hN=>S.rest id' h (by rintro rfl;rw [S.lay.Vv] at hN;cases hN) hN⟩
theorem s6.write (S:s6 n a own N id) (o:Gh own id k) {l:List UInt8} (r:l.length=480):s6 n { a with V:=zT a.V k l } own N id:=by
 refine ⟨S.lay,S.bm,fun b h0 j=>?_,fun id' h u hN=>S.PQ u hN fun b t=>fH _ _ (by rintro rfl;exact t o)⟩
 by_cases e:b=k
 .subst e;show (zT a.V b l b).length=480;rw [ki];exact r
 .show (zT a.V k l b).length=480;rw [fH _ _ e];exact S.len b h0 j
theorem s6.step (S:s6 n a own N id) {o:Nat->Own} {j:Nat->Option Hd} {r:List UInt8} (u:jl n o j) (y:Bm n o r) (hN:∀ id',id'≠id->j id'=N id'):s6 n { a with B:=r } o j id:=
 ⟨u,y,S.len,fun id' h t v=>S.rest id' h t ((hN id' t).symm.trans v)⟩
theorem s6.shut (S:s6 n a own N id) (j:∀ h,N id=Y h->h.Fin/\yd a.V h/\BN a.V h):s6 n a own N 0:=
 ⟨S.lay,S.bm,S.len,fun id' h _ hN=>by
  by_cases e:id'=id
  .subst e;exact j h hN
  .exact S.rest id' h e hN⟩
theorem Hd.Ok.ok (j:h.Ok n id) (hn:n<=3840) (r:h.Fin):h.n.ok=Q:=by
 have u:∀ i,i<16->h.aN i=h.n.dr.getD i 0:=fun i hi=>by unfold Hd.aN;rw [if_pos hi]
 unfold Nd.ok
 have v:h.n.dr.all cZ=Q:=by
  rw [X2];intro p hp;obtain ⟨i,hi,rfl⟩:=Y2 hp;have T:i<16:=by have:=j.fit.1;omega
  have h1:=j.pg i (by omega);have t:=u i T;rw [B2,O2 hi] at t;simp only [Option.getD_some] at t;unfold cZ;simp only [K2,decide_eq_true_eq];omega
 have y:cZ h.n.rw=Q:=by
  have:=j.xN;have:=j.zV;unfold cZ;simp only [K2,decide_eq_true_eq];omega
 have z:(16<aW h.n.sz)\/h.n.rw=0:=by
  by_cases h0:h.n.rw=0
  .exact .inr h0
  .obtain ⟨i,i1,i2,i3⟩:=r.SY h0
   left
   by_cases o:aW h.n.sz<=i
   .exact absurd (r.hi i i2 o) i3
   .omega
 have L:((D2 16).all fun i=>decide ((i:Int)<aW h.n.sz) || decide (h.n.dr.getD i 0=0))=Q:=by
  rw [X2];intro i hi;have hi:=List.mem_range.1 hi;simp only [N2,decide_eq_true_eq]
  by_cases o:aW h.n.sz<=i
  .right;rw [<- u i hi];exact r.hi i (by omega) o
  .left;omega
 rw [v,y,L];have:=j.kd;have:=j.IE;have:=j.Jm;have:=j.Jj;have:=j.Nw;simp only [K2,N2,decide_eq_true_eq];exact ⟨⟨⟨⟨⟨⟨⟨⟨j.kd,j.IE⟩,j.Jm⟩,j.Jj⟩,j.Nw⟩,trivial⟩,trivial⟩,z⟩,trivial⟩
theorem Hd.Ok.row (o:h.Ok n id) (hn:n<=3840):h.row.all cZ=Q/\h.row.all (fun x=>decide (x<n))=Q:=by
 have r:∀ x ∈ h.row,0<=x/\x<n:=by
  intro x j;obtain ⟨i,hi,rfl⟩:=Y2 j;have v:=o.fit.2;have t:=o.pg (16+i) (by omega)
  have u:h.aN (16+i)=h.row[i]:=by
   unfold Hd.aN;rw [if_neg (by omega),show 16+i-16=i by omega,B2,O2 hi];rfl
  omega
 constructor
 .rw [X2];intro x j;have:=r x j;unfold cZ;simp only [K2,decide_eq_true_eq];omega
 .rw [X2];intro x j;have:=r x j;simp only [decide_eq_true_eq];omega
theorem Hd.Ok.dr (j:h.Ok n id):h.n.dr.all (fun x=>decide (x<n))=Q:=by
 rw [X2];intro x o;obtain ⟨i,hi,rfl⟩:=Y2 o;have t:=j.fit.1;have r:=j.pg i (by omega)
 have u:h.aN i=h.n.dr[i]:=by
  unfold Hd.aN;rw [if_pos (by omega),B2,O2 hi];rfl
 simp only [decide_eq_true_eq];omega
theorem Hd.Ok.UQ (o:h.Ok n id) (h0:h.n.rw=0):h.row=H2 240 0:=by
 rw [W3];refine ⟨o.fit.2,fun x r=>?_⟩;obtain ⟨i,hi,rfl⟩:=Y2 r;have t:=o.fit.2;have j:=o.rz h0 (16+i) (by omega) (by omega);unfold Hd.aN at j;rw [if_neg (by omega),show 16+i-16=i by omega,B2,O2 hi] at j;exact j
end
section
variable {σ:Type} {n id:Nat} {own:Nat->Own} {N:Nat->Option Hd} {h:Hd} {a:Aw} {V0:Nat->List UInt8} {I:σ->Prop} {ask:cO σ} {E:Int->Prop}
theorem aL.within {l:List Int} (j:l.all (fun x=>decide (x<n))=Q):aL n V0 I (eF n l) a (fun _ a'=>a'=a) E:=
 aL.congr (m':=WM.pure ()) (aL.pure rfl) fun st=>by unfold eF WM.pure;rw [if_pos j]
theorem aL.load (hr:pR ask n V0 I) (hn:n<=3840) (S:s6 n a own N 0) (hN:N id=Y h):aL n V0 I (fY ask n (id:Int)) a (fun x a'=>x=h/\a'=a) E:=by
 obtain ⟨y,z,j⟩:=S.lay.ok _ _ hN;obtain ⟨T,u,ht⟩:=S.rest id h (by omega) hN
 have r:∀ a,aL n V0 I (iX n id h.n h.row) a (fun x a'=>x=h/\a'=a) E:=by
  intro a;refine (aL.within j.dr).bind fun _ a' e=>?_;subst e;refine (aL.within (j.row hn).2).bind fun _ a' e=>?_;subst e;exact aL.pure ⟨by rw [<- j.id],rfl⟩
 refine aL.congr (m':=WM.bind (cU ask (id:Int)) fun L=>Qq (ku L) (kU ask n id)) ?_ fun st=>if_pos ⟨by omega,by omega⟩;refine (aL.read hr y z).bind fun L a' e=>?_;obtain ⟨rfl,-,rfl⟩:=e;have t:=u.dec;rw [j.id] at t;rw [t];refine aL.congr (m':=kU ask n id h.n) ?_ fun st=>if_pos rfl
 by_cases h0:h.n.rw=0
 .refine aL.congr (m':=iX n id h.n h.row) (r _) fun st=>?_
  rw [j.UQ h0];exact if_pos h0
 .have r0:=j.xN
  have r1:=j.zV;obtain ⟨k,v⟩:∃ k:Nat,h.n.rw=(k:Int):=⟨h.n.rw.toNat,by omega⟩
  have o:=u.row h0;refine aL.congr (m':=WM.bind (eF n [h.n.rw]) fun _=>WM.bind (cU ask h.n.rw) fun L=>Ni (lH L) (iX n id h.n)) ?_ fun st=>if_neg h0;refine (aL.within (by simp;omega)).bind fun _ a' e=>?_;subst e;rw [v] at o ⊢;refine (aL.read hr (by omega) (by omega)).bind fun L a' e=>?_;obtain ⟨rfl,-,rfl⟩:=e;rw [E2] at o;rw [o];exact (r _).congr fun st=>if_pos rfl
def kQ (V:Nat->List UInt8) (h:Hd):Nat->List UInt8:=if h.n.rw=0 then zT V h.id (iK h.n) else zT (zT V h.id (iK h.n)) h.n.rw.toNat (jM h.row)
theorem aL.save (o:0<h.id) (r:h.id<n) (z:h.n.rw<n) (y:0<=h.n.rw) (u:h.n.ok=Q) (v:h.row.all cZ=Q) (j:h.row.length=240):aL n V0 I (dK h) a (fun _ a'=>a'={ a with V:=kQ a.V h }) E:=by
 refine aL.congr (m':=WM.bind (bP (h.id:Int) (iK h.n)) fun _=>KZ h) ?_ fun st=>if_pos u;refine (aL.write o r (qW _)).bind fun _ a' e=>?_;subst e
 by_cases h0:h.n.rw=0
 .refine aL.congr (m':=WM.pure ()) (aL.pure ?_) fun st=>if_pos h0
  unfold kQ;rw [if_pos h0]
 .obtain ⟨k,t⟩:∃ k:Nat,h.n.rw=(k:Int):=⟨h.n.rw.toNat,by omega⟩
  refine aL.congr (m':=bP h.n.rw (jM h.row)) ?_ fun st=>(if_neg h0).trans (if_pos v);unfold kQ;rw [if_neg h0];rw [t,E2];exact aL.write (by omega) (by omega) (by rw [ja,j])
theorem pL {V:Nat->List UInt8} {b:Nat} (j:b≠h.id) (o:h.n.rw≠0->b≠h.n.rw.toNat):kQ V h b=V b:=by
 unfold kQ
 split
 .exact fH _ _ j
 .rename_i h0;rw [fH _ _ (o h0),fH _ _ j]
theorem s6.saved (S:s6 n a own N id) (hn:n<=3840) (hN:N id=Y h) (v:h.Fin) (ht:BN a.V h):s6 n { a with V:=kQ a.V h } own N 0/\∀ p,p<122880->js (kQ a.V h) h p=js a.V h p:=by
 obtain ⟨i0,i1,o⟩:=S.lay.ok _ _ hN;have r:=o.id
 have L:∀ b,¬ Gh own id b->kQ a.V h b=a.V b:=by
  intro b j;refine pL ?_ fun h0=>?_
  .rintro rfl;exact j (.inr (.inl ⟨by rw [r];exact S.lay.td hN,r⟩))
  .rintro rfl;exact j (.inr (.inr (.inl (S.lay.vx hN h0))))
 have y:∀ b i,own b=E8 id i->kQ a.V h b=a.V b:=by
  intro b i j;refine pL ?_ fun h0=>?_
  .rintro rfl;rw [r,S.lay.td hN] at j;cases j
  .rintro rfl;rw [S.lay.vx hN h0] at j;cases j
 refine ⟨⟨S.lay,S.bm,fun b h0 j=>?_,fun id' g _ t=>?_⟩,fun p T=>ot S.lay hN y T⟩
 .show (kQ a.V h b).length=480
  unfold kQ
  have u:(zT a.V h.id (iK h.n) b).length=480:=by
   by_cases e:b=h.id
   .subst e;rw [ki];exact qW _
   .rw [fH _ _ e];exact S.len b h0 j
  split
  .exact u
  .by_cases e:b=h.n.rw.toNat
   .subst e;rw [ki,ja,o.fit.2]
   .rw [fH _ _ e];exact u
 .by_cases e:id'=id
  .subst e
   rw [hN] at t;cases t
   refine ⟨v,⟨?_,fun h0=>?_⟩,ht.frame S.lay hN y⟩
   .show ku (kQ a.V h h.id)=_
    have e:kQ a.V h h.id=iK h.n:=by
     unfold kQ
     split
     .exact ki _ _ _
     .rename_i h0
      rw [fH _ _ ?_,ki];intro z;have:=S.lay.vx hN h0;rw [<- z,r,S.lay.td hN] at this;cases this
    rw [e];exact Nk o.fit.1 (o.ok hn v)
   .show lH (kQ a.V h h.n.rw.toNat)=_
    unfold kQ;rw [if_neg h0,ki];exact J5 o.fit.2 (o.row hn).1
  .exact S.PQ e t L
end
structure AF where
 kd:Int
 lk:Int
 sz:Nat
 tK:Nat->UInt8
 pr:Nat->Bool
def dY (h:Hd) (i:Nat):Bool:=decide (i<256) && decide (h.aN i≠0)
def gB (V:Nat->List UInt8) (h:Hd):AF:=⟨h.n.kd,h.n.lk,h.n.sz.toNat,fun p=>if p<122880 then js V h p else 0,dY h⟩
def j3 (pr:Nat->Bool):Nat:=(D2 256).countP pr
def EE (pr:Nat->Bool):Bool:=(D2 256).any fun i=>decide (16<=i) && pr i
def bK (pr:Nat->Bool):Nat:=1+j3 pr+if EE pr=Q then 1 else 0
def Hd.lL (h:Hd):Nat:=1+j3 (dY h)+if h.n.rw=0 then 0 else 1
theorem gG {pr:Nat->Bool}:EE pr=Q↔∃ i,16<=i/\i<256/\pr i=Q:=by
 unfold EE;rw [List.any_eq_true];constructor
 .rintro ⟨i,hi,h⟩
  simp only [K2,decide_eq_true_eq] at h;exact ⟨i,h.1,List.mem_range.1 hi,h.2⟩
 .rintro ⟨i,j,o,r⟩
  exact ⟨i,List.mem_range.2 o,by simp only [K2,decide_eq_true_eq];exact ⟨j,r⟩⟩
theorem pF {p q:Nat->Bool} (h:∀ i,i<256->p i=q i):j3 p=j3 q:=by
 unfold j3;exact P3 fun i hi=>by rw [h i (List.mem_range.1 hi)]
theorem tA {p q:Nat->Bool} (h:∀ i,i<256->p i=q i):bK p=bK q:=by
 have e:EE p=EE q:=by
  cases t:EE q with
  | true=>
   obtain ⟨i,o,j,r⟩:=gG.1 t;exact gG.2 ⟨i,o,j,by rw [h i j];exact r⟩
  | false=>
   cases u:EE p with
   | false=>rfl
   | true=>
    obtain ⟨i,o,j,r⟩:=gG.1 u;rw [gG.2 ⟨i,o,j,by rw [<- h i j];exact r⟩] at t;cases t
 unfold bK;rw [pF h,e]
theorem uA (p q:Nat->Bool) (k:Nat) (h:∀ i,i≠k->p i=q i):∀ m,k<m->(D2 m).countP p+(if q k=Q then 1 else 0)=(D2 m).countP q+if p k=Q then 1 else 0
 | m+1,j=>by
  rw [K3,W2,W2];simp only [L3,List.countP_nil,R3]
  by_cases e:k=m
  .subst e
   have:(D2 k).countP p=(D2 k).countP q:=P3 fun i hi=>by rw [h i (by have:=List.mem_range.1 hi;omega)]
   omega
  .have:=uA p q k h m (by omega)
   rw [h m (Ne.symm e)];omega
theorem vQ {p q:Nat->Bool} {k:Nat} (j:k<256) (h:∀ i,i≠k->p i=q i):j3 p+(if q k=Q then 1 else 0)=j3 q+if p k=Q then 1 else 0:=uA p q k h 256 j
theorem qN {p q:Nat->Bool}:∀ m,(∀ i,i<m->p i=Q->q i=Q)->(D2 m).countP p<=(D2 m).countP q
 | 0,_=>A2 _
 | m+1,h=>by
  rw [K3,W2,W2];simp only [L3,List.countP_nil,R3];have:=qN m fun i hi=>h i (by omega);have j:=h m (by omega)
  split
  .rename_i e;rw [if_pos (j e)];omega
  .split <;> omega
theorem NQ {p q:Nat->Bool} (h:∀ i,i<256->p i=Q->q i=Q):j3 p<=j3 q:=qN 256 h
theorem NW {p q:Nat->Bool} {k:Nat} (t:k<256) (h:∀ i,i<256->p i=Q->q i=Q) (o:p k=H) (r:q k=Q):j3 p+1<=j3 q:=by
 have e:=vQ (p:=fun i=>if i=k then Q else p i) (q:=p) t fun i hi=>if_neg hi;rw [if_neg (by rw [o];decide),if_pos (if_pos rfl)] at e
 have:=NQ (p:=fun i=>if i=k then Q else p i) (q:=q) fun i hi j=>by
  by_cases e:i=k
  .subst e;exact r
  .rw [if_neg e] at j;exact h i hi j
 omega
section
variable {n id k i:Nat} {own:Nat->Own} {N:Nat->Option Hd} {h h':Hd} {a:Aw} {V V':Nat->List UInt8}
theorem eU:dY h i=Q↔i<256/\h.aN i≠0:=by unfold dY;simp
theorem gR (hi:i<256):dY h i=H↔h.aN i=0:=by
 unfold dY;simp [hi]
theorem rk (o:h.fit) (hi:i<256) (b:Int) (j:Nat):dY (h.put i b) j=if j=i then decide (b≠0) else dY h j:=by
 unfold dY;rw [Hd.jh o hi]
 by_cases e:j=i
 .subst e;rw [if_pos rfl,if_pos rfl];simp [hi]
 .rw [if_neg e,if_neg e]
theorem Hd.Ok.lL (v:h.Ok n id) (u:h.Fin):h.lL=bK (dY h):=by
 unfold Hd.lL bK;congr 1
 by_cases h0:h.n.rw=0
 .rw [if_pos h0,if_neg]
  intro t;obtain ⟨i,o,j,r⟩:=gG.1 t;exact (eU.1 r).2 (v.rz h0 i o j)
 .obtain ⟨i,o,j,r⟩:=u.SY h0
  rw [if_neg h0,if_pos (gG.2 ⟨i,o,j,eU.2 ⟨j,r⟩⟩)]
def Has (n:Nat) (a:Aw) (A:Nat->Option AF) (k:Nat):Prop:=∃ own N,s6 n a own N 0/\xC own n=k/\∀ id,A id=(N id).map (gB a.V)
theorem Has.at {A:Nat->Option AF} {f:AF} (o:∀ id,A id=(N id).map (gB a.V)) (j:A id=Y f):∃ h,N id=Y h/\f=gB a.V h:=by
 rw [o id] at j
 cases hN:N id with
 | none=>rw [hN] at j;cases j
 | some h=>rw [hN] at j;exact ⟨h,rfl,by cases j;rfl⟩
structure AF.Wf (f:AF):Prop where
 kd:f.kd=1\/f.kd=2
 IE:0<=f.lk
 Jm:f.lk<=65535
 sz:f.sz<=122880
 tail:∀ p,f.sz<=p->f.tK p=0
 hole:∀ p,f.pr (p/480)=false->f.tK p=0
 PC:∀ i,f.pr i=true->480*i<f.sz
theorem s6.wf (S:s6 n a own N 0) (hN:N id=Y h):(gB a.V h).Wf:=by
 obtain ⟨L,T,j⟩:=S.lay.ok _ _ hN;obtain ⟨v,z,y⟩:=S.rest id h (by omega) hN;have z0:=j.Jj;have z1:=j.Nw;refine ⟨j.kd,j.IE,j.Jm,show h.n.sz.toNat<=122880 by omega,fun p r=>?_,fun p r=>?_,fun i hi=>?_⟩
 .show (if p<122880 then js a.V h p else 0)=0
  split
  .rename_i o;exact y p o (by have:h.n.sz.toNat<=p:=r;omega)
  .rfl
 .show (if p<122880 then js a.V h p else 0)=0
  split
  .rename_i o
   unfold js;rw [if_pos ((gR (by omega)).1 r)]
  .rfl
 .obtain ⟨o,u⟩:=eU.1 (show dY h i=Q from hi)
  show 480*i<h.n.sz.toNat
  by_cases t:aW h.n.sz<=i
  .exact absurd (v.hi i o t) u
  .unfold aW at t;omega
theorem Has.wf {A:Nat->Option AF} {f:AF} (r:Has n a A k) (o:A id=Y f):f.Wf/\0<id/\id<n:=by
 obtain ⟨own,N,S,_,j⟩:=r;obtain ⟨h,hN,rfl⟩:=Has.at j o;exact ⟨S.wf hN,(S.lay.ok _ _ hN).1,(S.lay.ok _ _ hN).2.1⟩
end
section
variable {σ α:Type} {n id k:Nat} {own:Nat->Own} {N:Nat->Option Hd} {h:Hd} {a:Aw} {V0:Nat->List UInt8} {I:σ->Prop} {ask:cO σ} {E:Int->Prop} {A:Nat->Option AF} {f:AF}
theorem aL.node (hr:pR ask n V0 I) (hn:n<=3840) (r:Has n a A k) (o:A id=Y f):aL n V0 I (qy ask n (id:Int)) a (fun x a'=>x.kd=f.kd/\x.lk=f.lk/\x.sz=f.sz/\a'=a) E:=by
 obtain ⟨own,N,S,_,j⟩:=r;obtain ⟨h,hN,rfl⟩:=Has.at j o;have t:=(S.lay.ok _ _ hN).2.2;refine (aL.load hr hn S hN).bind fun x a' e=>?_;obtain ⟨rfl,rfl⟩:=e;have:=t.Jj;exact aL.pure ⟨rfl,rfl,show x.n.sz=(x.n.sz.toNat:Int) by omega,rfl⟩
theorem pG {l d:List UInt8} {o:Nat} (h:o+d.length<=l.length) (j:Nat):(putAt l o d).getD j 0=if o<=j/\j<o+d.length then d.getD (j-o) 0 else l.getD j 0:=by
 unfold putAt;have r:(l.take o++d).length=o+d.length:=by rw [List.length_append,R2];omega
 have t:(l.take o).length=o:=by rw [R2];omega
 simp only [B2]
 by_cases u:j<o
 .rw [if_neg (by omega),S3 (by rw [r];omega),S3 (by rw [t];exact u),A3,if_pos u]
 .by_cases h4:j<o+d.length
  .rw [if_pos ⟨by omega,h4⟩,S3 (by rw [r];omega),X3 (by rw [t];omega),t]
  .rw [if_neg (by omega),X3 (by rw [r];omega),r,B3,show o+d.length+(j-(o+d.length))=j by omega]
theorem aL.rd (hr:pR ask n V0 I) (S:s6 n a own N 0) (hN:N id=Y h) (off m:Nat) (hm:off+m<=122880):∀ (f done:Nat) (L:List UInt8),L.length=m->m-done<=f->(∀ j,j<m->L.getD j 0=if j<done then js a.V h (off+j) else 0) ->
  aL n V0 I (CG ask h off f done L) a (fun x a'=>x.length=m/\(∀ j,j<m->x.getD j 0=js a.V h (off+j))/\a'=a) E:=by
 intro f
 induction f with
 | zero=>intro done L t hf u;exact aL.pure ⟨t,fun j o=>by rw [u j o,if_pos (by omega)],rfl⟩
 | succ f ih=>
  intro done L t hf u;obtain ⟨i0,i1,ho⟩:=S.lay.ok _ _ hN
  by_cases hd:done<m
  .obtain ⟨l,v⟩:∃ l,iH (L.length-done) (off+done)=l:=⟨_,rfl⟩
   have c0:l=min (m-done) (480-(off+done)%480):=by rw [<- v,t];rfl
   have b0:∀ j,done<=j->j<done+l->(off+j)/480=(off+done)/480/\(off+j)%480=(off+done)%480+(j-done):=fun j o r=>by omega
   by_cases h0:h.aN ((off+done)/480)=0
   .refine aL.congr (m':=CG ask h off f (done+l) L) ?_ fun st=>by rw [<- v];exact PO (by omega) h0 st
    refine ih (done+l) L t (by omega) fun j o=>?_;rw [u j o]
    by_cases r:j<done
    .rw [if_pos r,if_pos (by omega)]
    .rw [if_neg r]
     split
     .unfold js;rw [(b0 j (by omega) (by omega)).1,if_pos h0]
     .rfl
   .have hp:=ho.pg ((off+done)/480) (by omega)
    obtain ⟨b,hb⟩:∃ b:Nat,h.aN ((off+done)/480)=(b:Int):=⟨(h.aN ((off+done)/480)).toNat,by omega⟩
    refine aL.congr (m':=WM.bind (cU ask (b:Int)) fun z=>CG ask h off f (done+l) (putAt L done ((z.drop ((off+done)%480)).take l))) ?_ fun st=>by
     refine (if_pos (by omega)).trans ((if_neg h0).trans ?_);rw [v,hb]
    refine (aL.read hr (by omega) (by omega)).bind fun z a' e=>?_;obtain ⟨rfl,hX,e3⟩:=e;rw [e3];have y:(((a.V b).drop ((off+done)%480)).take l).length=l:=by rw [R2,J3,hX];omega
    refine ih (done+l) _ (by rw [gq (by rw [y];omega)];exact t) (by omega) fun j o=>?_;rw [pG (by rw [y];omega),y]
    by_cases r:done<=j/\j<done+l
    .rw [if_pos r,if_pos (by omega)]
     obtain ⟨e1,e2⟩:=b0 j r.1 r.2;unfold js;rw [e1,if_neg h0,hb,e2,E2];simp only [B2];rw [A3,if_pos (by omega),B3]
    .rw [if_neg r,u j o]
     by_cases T:j<done
     .rw [if_pos T,if_pos (by omega)]
     .rw [if_neg T,if_neg (by omega)]
  .refine aL.congr (m':=WM.pure L) (aL.pure ⟨t,fun j o=>by rw [u j o,if_pos (by omega)],rfl⟩) fun st=>if_neg (by omega)
def AF.sub (f:AF) (off o:Nat):List UInt8:=(D2 (min o (f.sz-off))).map fun j=>f.tK (off+j)
theorem aL.Qp (hr:pR ask n V0 I) (hn:n<=3840) (hh:Has n a A k) (hf:A id=Y f) (off o:Nat):aL n V0 I (jD ask n (id:Int) (off:Int) (o:Int)) a (fun x a'=>x=f.sub off o/\a'=a) E:=by
 obtain ⟨own,N,S,_,T⟩:=hh;obtain ⟨h,hN,rfl⟩:=Has.at T hf;obtain ⟨i0,i1,v⟩:=S.lay.ok _ _ hN;have z0:=v.Jj;have z1:=v.Nw;refine (aL.load hr hn S hN).bind fun x a' e=>?_;obtain ⟨rfl,rfl⟩:=e;have y:(gB a'.V x).sz=x.n.sz.toNat:=rfl
 by_cases t:x.n.sz<=(off:Int)
 .refine aL.congr (m':=WM.pure []) (aL.pure ⟨?_,rfl⟩) fun st=>(if_pos ⟨by omega,by omega⟩).trans (if_pos t)
  unfold AF.sub;rw [y,show min o (x.n.sz.toNat-off)=0 by omega];rfl
 .obtain ⟨m,hm⟩:∃ m,(min (o:Int) (x.n.sz-(off:Int))).toNat=m:=⟨_,rfl⟩
  refine aL.congr (m':=CG ask x off m 0 (zs m)) ?_ fun st=>by
   refine (if_pos ⟨by omega,by omega⟩).trans ((if_neg t).trans ?_);rw [hm,E2]
  refine (aL.rd hr S hN off m (by omega) m 0 (zs m) (bh m) (by omega) fun j hj=>?_).mono (fun d0 c0 e=>?_) fun _ h=>h
  .rw [if_neg (by omega)]
   show (H2 m 0).getD j 0=0
   simp only [B2,P2];split <;> rfl
  .obtain ⟨r,z,L⟩:=e
   refine ⟨?_,L⟩;have b0:min o ((gB a'.V x).sz-off)=m:=by rw [y];omega
   unfold AF.sub;rw [b0];apply List.ext_getElem
   .simp [r]
   .intro j u h3
    rw [r] at u;have:=z j u;rw [B2,O2 (by omega)] at this;simp only [Option.getD_some] at this;rw [this,List.getElem_map,List.getElem_range];show _=if off+j<122880 then js a'.V x (off+j) else 0
    rw [if_pos (by omega)]
end
structure bu (n:Nat) (a0:Aw) (N0:Nat->Option Hd) (id:Nat) (K:Nat) (a:Aw) (own:Nat->Own) (N:Nat->Option Hd) (h:Hd):Prop where
 sp:s6 n a own N id
 hN:N id=some h
 Si:∀ id',id'≠id->N id'=N0 id'
 C6:∀ id' g,id'≠id->N0 id'=some g->∀ p,p<122880->js a.V g p=js a0.V g p
 cons:xC own n+h.lL=K
section
variable {n id k i K:Nat} {own:Nat->Own} {N N0:Nat->Option Hd} {h h':Hd} {a a0:Aw} {V V':Nat->List UInt8}
theorem bu.start (S:s6 n a own N 0) (hN:N id=Y h):bu n a N id (xC own n+h.lL) a own N h:=
 ⟨S.fp id,hN,fun _ _=>rfl,fun _ _ _ _ _ _=>rfl,rfl⟩
theorem bu.ok (T:bu n a0 N0 id K a own N h):h.Ok n id:=(T.sp.lay.ok _ _ T.hN).2.2
theorem bu.write (T:bu n a0 N0 id K a own N h) (r:Gh own id k) {l:List UInt8} (v:l.length=480):bu n a0 N0 id K { a with V:=zT a.V k l } own N h:=
 ⟨T.sp.write r v,T.hN,T.Si,fun id' g j o p t=>by
  have u:N id'=Y g:=(T.Si id' j).trans o;rw [<- T.C6 id' g j o p t];exact xu T.sp.lay j u (fun b y=>fH _ _ (by rintro rfl;exact y r)) t,T.cons⟩
theorem bu.step (T:bu n a0 N0 id K a own N h) {o:Nat->Own} {r:List UInt8} (t:jl n o (dp N id (Y h'))) (u:Bm n o r) (v:xC o n+h'.lL=K):bu n a0 N0 id K { a with B:=r } o (dp N id (Y h')) h':=
 ⟨T.sp.step t u fun id' j=>aK _ _ j,bC _ _ _,fun id' j=>(aK _ _ j).trans (T.Si id' j),T.C6,v⟩
theorem Ky (o:h.fit) (hi:i<256) {b:Int} (h0:h.aN i=0) (r:b≠0):(h.put i b).lL=h.lL+1:=by
 unfold Hd.lL;rw [Hd.gQ];have:=vQ (p:=dY (h.put i b)) (q:=dY h) hi fun j t=>by rw [rk o hi,if_neg t]
 rw [rk o hi,if_pos rfl,(gR hi).2 h0] at this;simp only [r,ne_eq,not_false_eq_true,decide_true,if_true,Bool.false_eq_true,if_false] at this;omega
theorem Ly (o:h.fit) (hi:i<256) (h0:h.aN i≠0):(h.put i 0).lL+1=h.lL:=by
 unfold Hd.lL;rw [Hd.gQ];have:=vQ (p:=dY (h.put i 0)) (q:=dY h) hi fun j r=>by rw [rk o hi,if_neg r]
 rw [rk o hi,if_pos rfl,eU.2 ⟨hi,h0⟩] at this;simp only [ne_eq,not_true_eq_false,decide_false,if_true,Bool.false_eq_true,if_false] at this;omega
theorem J6 (h0:h.n.rw=0) {b:Int} (j:b≠0):(h.dy b).lL=h.lL+1:=by
 unfold Hd.lL;have e:dY (h.dy b)=dY h:=rfl;rw [e,if_pos h0,if_neg (show (h.dy b).n.rw≠0 from j)]
theorem Mb (h0:h.n.rw≠0):(h.dy 0).lL+1=h.lL:=by
 unfold Hd.lL;have e:dY (h.dy 0)=dY h:=rfl;rw [e,if_neg h0,if_pos (show (h.dy 0).n.rw=0 from rfl)]
theorem bu.Ns (T:bu n a0 N0 id K a own N h) (hn:n<=3840) (j:own k=mU) (o:k<n) (hi:i<256) (h0:h.aN i=0) (hr:16<=i->h.n.rw≠0) :
  bu n a0 N0 id K { a with B:=dU a.B k Q } (dp own k (E8 id i)) (dp N id (Y (h.put i (k:Int)))) (h.put i (k:Int)):=by
 have r:=T.sp.lay.jE j;refine T.step (T.sp.lay.aN T.hN j o hi h0 hr) (T.sp.bm.set hn o _ _ (by simp)) ?_;have:=mi (own:=own) (x:=E8 id i) o;rw [if_pos j,if_neg (by simp)] at this;rw [Ky T.ok.fit hi h0 (by omega)];have:=T.cons;omega
theorem bu.OS (T:bu n a0 N0 id K a own N h) (hn:n<=3840) (j:own k=mU) (o:k<n) (h0:h.n.rw=0) :
  bu n a0 N0 id K { a with B:=dU a.B k Q } (dp own k (Jf id)) (dp N id (Y (h.dy (k:Int)))) (h.dy (k:Int)):=by
 have r:=T.sp.lay.jE j;refine T.step (T.sp.lay.row T.hN j o h0) (T.sp.bm.set hn o _ _ (by simp)) ?_;have:=mi (own:=own) (x:=Jf id) o;rw [if_pos j,if_neg (by simp)] at this;rw [J6 h0 (by omega)];have:=T.cons;omega
theorem bu.BH (T:bu n a0 N0 id K a own N h) (hn:n<=3840) (hi:i<256) (h0:h.aN i≠0) :
  bu n a0 N0 id K { a with B:=dU a.B (h.aN i).toNat H } (dp own (h.aN i).toNat mU) (dp N id (Y (h.put i 0))) (h.put i 0):=by
 have o:=T.ok.pg i hi;refine T.step (T.sp.lay.Rj T.hN hi h0) (T.sp.bm.set hn (by omega) _ _ (by simp)) ?_;have:=mi (own:=own) (x:=mU) (show (h.aN i).toNat<n by omega);rw [T.sp.lay.Cn T.hN hi h0,if_pos rfl,if_neg (by simp)] at this;have j:=Ly T.ok.fit hi h0;have:=T.cons;omega
theorem bu.Fa (T:bu n a0 N0 id K a own N h) (hn:n<=3840) (h0:h.n.rw≠0) (j:∀ i,16<=i->i<256->h.aN i=0) :
  bu n a0 N0 id K { a with B:=dU a.B h.n.rw.toNat H } (dp own h.n.rw.toNat mU) (dp N id (Y (h.dy 0))) (h.dy 0):=by
 have r:=T.ok.xN;have t:=T.ok.zV;refine T.step (T.sp.lay.Sz T.hN h0 j) (T.sp.bm.set hn (by omega) _ _ (by simp)) ?_;have:=mi (own:=own) (x:=mU) (show h.n.rw.toNat<n by omega);rw [T.sp.lay.vx T.hN h0,if_pos rfl,if_neg (by simp)] at this;have o:=Mb h0;have:=T.cons;omega
theorem bu.set (T:bu n a0 N0 id K a own N h) (o:h'.Ok n id) (hr:h'.n.rw=h.n.rw) (j:∀ i,i<256->h'.aN i=h.aN i):bu n a0 N0 id K a own (dp N id (Y h')) h':=by
 refine T.step (T.sp.lay.set T.hN o hr j) T.sp.bm ?_
 have:h'.lL=h.lL:=by
  unfold Hd.lL;rw [hr,pF (p:=dY h') (q:=dY h) fun i hi=>by unfold dY;rw [j i hi]]
 rw [this];exact T.cons
theorem bu.done (T:bu n a0 N0 id K a own N h) (hn:n<=3840) (r:h.Fin) (ht:BN a.V h) {A:Nat->Option AF} (hA:∀ id,A id=(N0 id).map (gB a0.V)) (f:AF) (L:h.n.kd=f.kd) (h2:h.n.lk=f.lk) (h3:h.n.sz=f.sz)
  (h4:∀ p,p<122880->js a.V h p=f.tK p) (b0:∀ p,122880<=p->f.tK p=0) (o:∀ i,i<256->dY h i=f.pr i) (c0:∀ i,256<=i->f.pr i=H):Has n { a with V:=kQ a.V h } (dp A id (Y f)) (K-bK f.pr):=by
 obtain ⟨S,hb⟩:=T.sp.saved hn T.hN r ht;have d0:=T.ok.lL r;rw [tA o] at d0;refine ⟨own,N,S,by have:=T.cons;omega,fun id'=>?_⟩
 by_cases e:id'=id
 .subst e
  rw [bC,T.hN];show Y f=Y (gB (kQ a.V h) h)
  congr 1;obtain ⟨kd,lk,sz,tK,pr⟩:=f;dsimp only at *;unfold gB;have v:sz=h.n.sz.toNat:=by omega
  have y:tK=fun p=>if p<122880 then js (kQ a.V h) h p else 0:=by
   funext p
   split
   .rename_i j;rw [hb p j];exact (h4 p j).symm
   .rename_i j;exact b0 p (by omega)
  have z:pr=dY h:=by
   funext i
   by_cases hi:i<256
   .exact (o i hi).symm
   .rw [c0 i (by omega)];unfold dY;simp [hi]
  rw [L,h2,<- v,<- y,<- z]
 .rw [aK _ _ e,hA id',<- T.Si id' e]
  cases t:N id' with
  | none=>rfl
  | some g=>
   show Y (gB a0.V g)=Y (gB (kQ a.V h) g)
   congr 1;have h0:N0 id'=Y g:=(T.Si id' e).symm.trans t;unfold gB;congr 1;funext p
   split
   .rename_i j
    rw [<- T.C6 id' g e h0 p j];refine (xu T.sp.lay e t (fun b u=>pL ?_ fun h0=>?_) j).symm
    .rintro rfl;exact u (.inr (.inl ⟨by rw [T.ok.id];exact T.sp.lay.td T.hN,T.ok.id⟩))
    .rintro rfl;exact u (.inr (.inr (.inl (T.sp.lay.vx T.hN h0))))
   .rfl
end
section
variable {σ α:Type} {n id k K:Nat} {own:Nat->Own} {N N0:Nat->Option Hd} {h:Hd} {a a0:Aw} {V0:Nat->List UInt8} {I:σ->Prop} {ask:cO σ} {E:Int->Prop} {A:Nat->Option AF} {f:AF}
theorem aL.nN (T:bu n a0 N0 id K a own N h) (hn:n<=3840) (o:h.Fin):aL n V0 I (dK h) a (fun _ a'=>a'={ a with V:=kQ a.V h }) E:=by
 have j:=T.ok;exact aL.save (by rw [j.id];exact (T.sp.lay.ok _ _ T.hN).1) (by rw [j.id];exact (T.sp.lay.ok _ _ T.hN).2.1) j.zV j.xN (j.ok hn o) (j.row hn).1 j.fit.2
def jx (kd:Int):AF:=⟨kd,1,0,fun _=>0,fun _=>H⟩
theorem gm (id:Nat) (kd:Int) (i:Nat):(dg id kd).aN i=0:=by
 unfold dg Hd.aN
 split
 .show (H2 16 (0:Int)).getD i 0=0
  simp only [B2,P2];split <;> rfl
 .show (H2 240 (0:Int)).getD (i-16) 0=0
  simp only [B2,P2];split <;> rfl
theorem KU {kd:Int} (j:kd=1\/kd=2) (h0:0<n):(dg id kd).Ok n id:=
 ⟨⟨rfl,rfl⟩,rfl,j,(by decide:(0:Int)<=1),(by decide:(1:Int)<=65535),(by decide:(0:Int)<=0),(by decide:(0:Int)<=122880),(by decide:(0:Int)<=0),show (0:Int)<n by omega,fun i _=>by rw [gm];exact ⟨by omega,by omega⟩,fun _ i _ _=>gm _ _ _⟩
theorem oB (id:Nat) (kd:Int):(dg id kd).Fin:=⟨fun i _ _=>gm _ _ _,fun h=>absurd rfl h⟩
theorem oh (V:Nat->List UInt8) (id:Nat) (kd:Int) (p:Nat):js V (dg id kd) p=0:=by unfold js;rw [if_pos (gm _ _ _)]
theorem xk (id:Nat) (kd:Int):(dg id kd).lL=1:=by
 unfold Hd.lL
 have e:j3 (dY (dg id kd))=0:=by
  unfold j3;rw [H3];intro i _ h;exact (eU.1 h).2 (gm _ _ _)
 rw [e,if_pos (show (dg id kd).n.rw=0 from rfl)]
theorem vJ:bK (fun _=>H)=1:=by
 unfold bK;have e:j3 (fun _=>H)=0:=by unfold j3;rw [H3];intro i _ h;cases h
 rw [e,if_neg];intro o;obtain ⟨i,_,_,j⟩:=gG.1 o;cases j
theorem bu.made (S:s6 n a own N 0) (hn:n<=3840) (j:own k=mU) (o:k<n) {kd:Int} (t:kd=1\/kd=2) :
  bu n a N k (xC own n) { a with B:=dU a.B k Q } (dp own k PZ) (dp N k (Y (dg k kd))) (dg k kd):=by
 have u:=S.lay.jE j;refine ⟨(S.fp k).step (S.lay.new j o (KU t (by omega)) (fun i _=>gm _ _ _) rfl) (S.bm.set hn o _ _ (by simp)) fun id' r=>aK _ _ r,bC _ _ _,fun id' r=>aK _ _ r,fun _ _ _ _ _ _=>rfl,?_⟩;have:=mi (own:=own) (x:=PZ) o;rw [if_pos j,if_neg (by simp)] at this;rw [xk];omega
theorem aL.new (hr:pR ask n V0 I) (h0:0<n) (hn:n<=3840) (hh:Has n a A k) {kd:Int} (t:kd=1\/kd=2) :
  aL n V0 I (wI ask n kd) a (fun x a'=>A x=U/\0<x/\x<n/\0<k/\Has n a' (dp A x (Y (jx kd))) (k-1)) (fun c=>c=7/\k=0):=by
 obtain ⟨own,N,S,r,o⟩:=hh;refine aL.congr (m':=WM.bind (iL ask n) (FM kd)) ?_ fun st=>if_pos t;refine (aL.take hr h0 fun L=>⟨rfl,by rw [<- r,S.bm.ia L]⟩).bind fun x a' e=>?_;obtain ⟨v,rfl⟩:=e;obtain ⟨u,j⟩:=S.bm.sd v;have c0:=S.lay.jE j;have T:=bu.made S hn j u t
 have b0:0<k:=by
  have z:=T.cons;rw [xk] at z;omega
 refine (aL.nN T hn (oB _ _)).bind fun _ a' e=>?_;subst e;refine aL.pure ⟨by rw [o,S.lay.ia j];rfl,by omega,u,b0,?_⟩;have:=T.done hn (oB _ _) (fun p _ _=>oh _ _ _ _) o (jx kd) rfl rfl rfl (fun p _=>oh _ _ _ _) (fun _ _=>rfl) (fun i hi=>(gR hi).2 (gm _ _ _)) fun _ _=>rfl;have y:bK (jx kd).pr=1:=vJ;rw [y,r] at this;exact this
theorem aL.Te (hr:pR ask n V0 I) (hn:n<=3840) (hh:Has n a A k) (hf:A id=Y f) (d:Int) :
  aL n V0 I (kK ask n (id:Int) d) a (fun _ a'=>(0<=wrap64 (f.lk+d)/\wrap64 (f.lk+d)<=65535)/\Has n a' (dp A id (Y { f with lk:=wrap64 (f.lk+d) })) k) (fun c=>c=1/\¬ (0<=wrap64 (f.lk+d)/\wrap64 (f.lk+d)<=65535)):=by
 obtain ⟨own,N,S,hk,u⟩:=hh;obtain ⟨h,hN,rfl⟩:=Has.at u hf;obtain ⟨i0,i1,j⟩:=S.lay.ok _ _ hN;obtain ⟨r,hs,ht⟩:=S.rest id h (by omega) hN;refine (aL.load hr hn S hN).bind fun x a' e=>?_;obtain ⟨rfl,rfl⟩:=e;show aL n V0 I (tU x (wrap64 (x.n.lk+d))) a' (fun _ t=>(0<=wrap64 (x.n.lk+d)/\wrap64 (x.n.lk+d)<=65535)/\Has n t (dp A id (Y { gB a'.V x with lk:=wrap64 (x.n.lk+d) })) k) (fun c=>c=1/\¬ (0<=wrap64 (x.n.lk+d)/\wrap64 (x.n.lk+d)<=65535))
 generalize wrap64 (x.n.lk+d)=z
 by_cases o:0<=z/\z<=65535
 .refine aL.congr (m':=dK (x.oX z)) ?_ fun st=>if_pos o
  have b0:(x.oX z).Ok n id:=⟨j.fit,j.id,j.kd,o.1,o.2,j.Jj,j.Nw,j.xN,j.zV,j.pg,j.rz⟩
  have T:=(bu.start S hN).set b0 rfl fun _ _=>rfl;have v:(x.oX z).Fin:=⟨r.hi,r.SY⟩
  refine (aL.nN T hn v).mono (fun _ t e=>?_) fun _ h=>h;subst e;refine ⟨o,?_⟩;have z0:=j.Jj
  have:=T.done hn v (fun p L h2=>ht p L h2) u { gB a'.V x with lk:=z } rfl rfl (show x.n.sz=(x.n.sz.toNat:Int) by omega) (fun p y=>by show js a'.V x p=if p<122880 then js a'.V x p else 0;rw [if_pos y])
   (fun p y=>if_neg (by omega)) (fun i _=>rfl) (fun i hi=>by show dY x i=H;unfold dY;simp;omega)
  have e:bK ({ gB a'.V x with lk:=z }:AF).pr=x.lL:=(j.lL r).symm;rw [e,Nat.add_sub_cancel,hk] at this;exact this
 .exact (aL.bad ⟨rfl,o⟩).congr fun st=>if_neg o
theorem aL.format (hr:pR ask n V0 I) (h0:4<=n) (hn:n<=3840) (d0:∀ b,0<b->b<n->(a.V b).length=480) :
  aL n V0 I (jd ask) a (fun _ a'=>Has n a' (fun id=>if id=1 then Y (jx 2) else U) (n-2)) E:=by
 have hz:∀ b,eD (zs 480) b=H:=by
  intro b;unfold eD
  have e:(zs 480).getD (b/8) 0=0:=by
   show (H2 480 (0:UInt8)).getD (b/8) 0=0
   simp only [B2,P2];split <;> rfl
  rw [e];show decide ((0:UInt8).toNat/2 ^ (b%8)%2=1)=H
  have:(0:UInt8).toNat=0:=rfl;rw [this,Nat.zero_div];decide
 obtain ⟨j,o⟩:∃ e0:Nat->Own,e0=fun b=>if b=0 then ME else mU:=⟨_,rfl⟩
 have v:jl n j (fun _=>U):=by
  subst o;refine ⟨fun b=>?_,fun b hb=>if_neg (by omega),fun id h r=>(by cases r),fun b=>?_,fun b id=>?_,fun b id i=>?_⟩
  .show (if b=0 then ME else mU)=ME↔b=0
   split
   .rename_i e;exact ⟨fun _=>e,fun _=>rfl⟩
   .rename_i e;exact ⟨fun h=>(by cases h),fun h=>absurd h e⟩
  .show (if b=0 then ME else mU)=PZ↔_
   split <;> simp
  .show (if b=0 then ME else mU)=Jf id↔_
   unfold ew
   split <;> simp
  .show (if b=0 then ME else mU)=E8 id i↔_
   unfold et
   split <;> simp
 have u:Bm n j (dU (zs 480) 0 Q):=by
  subst o;refine ⟨by rw [fj];exact bh 480,fun b hb=>?_⟩;rw [xW (by rw [bh];omega),hz]
  by_cases e:b=0
  .subst e;simp
  .rw [if_neg e,if_neg e];simp
 have b0:xC j n=n-1:=by
  subst o
  have:∀ m,0<m->xC (fun b=>if b=0 then ME else mU) m=m-1:=by
   intro m
   induction m with
   | zero=>intro h;omega
   | succ m ih=>
    intro _;rw [vT]
    by_cases e:m=0
    .subst e;rfl
    .rw [ih (by omega),if_neg e,if_pos rfl];omega
  exact this n (by omega)
 have y:s6 n ⟨a.V,dU (zs 480) 0 Q⟩ j (fun _=>U) 0:=⟨v,u,d0,fun id' h _ r=>(by cases r)⟩
 have c0:j 1=mU:=by subst o;rfl
 have T:=bu.made y hn c0 (by omega) (.inr rfl)
 have hD:aL n V0 I (WM.bind (cJ ask 1 Q) fun _=>dK (dg 1 2)) ⟨a.V,dU (zs 480) 0 Q⟩ (fun _ a'=>Has n a' (fun id=>if id=1 then Y (jx 2) else U) (n-2)) E:=by
  refine (aL.mark hr (by omega)).bind fun _ a' e=>?_;subst e;refine (aL.nN T hn (oB _ _)).mono (fun _ a' e=>?_) fun _ h=>h;subst e;have:=T.done hn (oB _ _) (fun p _ _=>oh _ _ _ _) (A:=fun _=>U) (fun _=>rfl) (jx 2) rfl rfl rfl (fun p _=>oh _ _ _ _) (fun _ _=>rfl) (fun i hi=>(gR hi).2 (gm _ _ _)) fun _ _=>rfl;have z:bK (jx 2).pr=1:=vJ;rw [z,b0] at this;exact this
 intro st t;have L:cJ ask 0 Q { st with bits:=Y (zs 480) }=(.ok (),{ st with bits:=Y (dU (zs 480) 0 Q),dt:=Q }):=rfl;have e:jd ask st=(WM.bind (cJ ask 1 Q) fun _=>dK (dg 1 2)) { st with bits:=Y (dU (zs 480) 0 Q),dt:=Q }:=WM.aX L;rw [e];exact hD _ ⟨t.gz,t.view,.inl rfl,fun h=>by simp at h,by rw [fj];exact bh 480⟩
end
def cS (off m i:Nat):Bool:=decide (0<m) && (decide (480*i<off+m) && decide (off<480*i+480))
theorem cI {off m i:Nat}:cS off m i=Q↔0<m/\480*i<off+m/\off<480*i+480:=by
 unfold cS;simp only [K2,decide_eq_true_eq]
def AF.wr (f:AF) (off:Nat) (d:List UInt8):AF:=
 { f with sz:=if d.length=0 then f.sz else max f.sz (off+d.length),tK:=fun p=>if off<=p/\p<off+d.length then d.getD (p-off) 0 else f.tK p,pr:=fun i=>f.pr i || cS off d.length i }
def xr (h h':Hd):Prop:=h.n.kd=h'.n.kd/\h.n.lk=h'.n.lk/\h.n.sz=h'.n.sz
section
variable {n id k q K:Nat} {own:Nat->Own} {N N0:Nat->Option Hd} {h h' h0:Hd} {a a0:Aw}
theorem xl (h:Hd) (i:Nat) (b:Int):xr (h.put i b) h:=by unfold Hd.put xr;split <;> exact ⟨rfl,rfl,rfl⟩
theorem AW {V:Nat->List UInt8} {p:Nat} (e:h.aN (p/480)=h'.aN (p/480)):js V h p=js V h' p:=by unfold js;rw [e]
theorem bu.xK (T:bu n a0 N0 id K a own N h) (u:q<256) {b:Nat} (o:h.aN q=(b:Int)) (v:0<b) {l:List UInt8} (t:l.length=480) :
  bu n a0 N0 id K { a with V:=zT a.V b l } own N h/\∀ p,p<122880->js (zT a.V b l) h p=if p/480=q then l.getD (p%480) 0 else js a.V h p:=by
 have j:=T.sp.lay.Cn T.hN u (show h.aN q≠0 by omega);rw [o,E2] at j;refine ⟨T.write (.inr (.inr (.inr ⟨q,j⟩))) t,fun p y=>?_⟩
 by_cases e:p/480=q
 .rw [if_pos e]
  unfold js;rw [e,if_neg (by omega),o,E2,ki]
 .rw [if_neg e]
  unfold js
  split
  .rfl
  .rename_i h0
   rw [fH];intro r;have:=T.sp.lay.Cn T.hN (show p/480<256 by omega) h0;rw [r,j] at this;simp only [Prod.mk.injEq] at this;exact e this.2.2.symm
end
section
variable {σ α:Type} {n id k q K:Nat} {own:Nat->Own} {N N0:Nat->Option Hd} {h h0:Hd} {a a0:Aw} {V0:Nat->List UInt8} {I:σ->Prop} {ask:cO σ} {E:Int->Prop} {A:Nat->Option AF} {f:AF}
def FA (n:Nat) (a0:Aw) (N0:Nat->Option Hd) (id K:Nat) (a:Aw) (h:Hd) (q:Nat) (j:Bool) (p:Hd × Int × List UInt8) (a':Aw):Prop:=
 ∃ own N,bu n a0 N0 id K a' own N p.1/\a'.V=a.V/\(∃ b:Nat,p.2.1=(b:Int)/\p.1.aN q=(b:Int)/\0<b)/\(∀ i,i≠q->p.1.aN i=h.aN i)/\xr p.1 h/\(p.1.n.rw≠0->h.n.rw≠0\/16<=q) /\
  p.2.2.length=480/\(j=H->∀ r,r<480->p.2.2.getD r 0=js a.V h (480*q+r))
def FD (K:Nat) (h:Hd) (q:Nat) (c:Int):Prop:=c=7/\∃ j:Hd,j.lL=K/\(∀ i,j.aN i=h.aN i)/\h.aN q=0/\(j.n.rw≠0->h.n.rw≠0\/16<=q)
theorem E9 (m r:Nat):(zs m).getD r 0=0:=by
 show (H2 m (0:UInt8)).getD r 0=0
 simp only [B2,P2];split <;> rfl
theorem aL.PB (hr:pR ask n V0 I) (hn:n<=3840) (T:bu n a0 N0 id K a own N h) (u:q<256) (t:h.aN q=0) (c0:16<=q->h.n.rw≠0) {h1:Hd} {V1:Nat->List UInt8} (hV:a.V=V1) (j:∀ i,h.aN i=h1.aN i) (o:xr h h1) (v:h.n.rw≠0->h1.n.rw≠0\/16<=q) (wh:Bool) :
  aL n V0 I (pO ask n h q) a (fun p a'=>FA n a0 N0 id K ⟨V1,[]⟩ h1 q wh p a') (FD K h1 q):=by
 have h0:0<n:=by have:=(T.sp.lay.ok _ _ T.hN);omega
 have L:fi a.B n=U->FD K h1 q 7:=fun hf=>⟨rfl,h,by have:=T.cons;have:=T.sp.bm.ia hf;omega,j,by rw [<- j];exact t,v⟩
 refine (aL.take hr h0 L).bind fun b a' e=>?_
 .obtain ⟨hb,rfl⟩:=e
  obtain ⟨b0,y⟩:=T.sp.bm.sd hb;have d0:=T.sp.lay.jE y;have z:=T.Ns hn y b0 u t c0;refine aL.pure ⟨_,_,z,hV,⟨b,rfl,?_,by omega⟩,fun i hi=>?_,?_,?_,bh 480,fun _ r e0=>?_⟩
  .show (h.put q (b:Int)).aN q=b
   rw [Hd.jh T.ok.fit u,if_pos rfl]
  .show (h.put q (b:Int)).aN i=_
   rw [Hd.jh T.ok.fit u,if_neg hi];exact j i
  .obtain ⟨s1,s2,s3⟩:=xl h q (b:Int)
   exact ⟨s1.trans o.1,s2.trans o.2.1,s3.trans o.2.2⟩
  .show (h.put q (b:Int)).n.rw≠0->_
   rw [Hd.gQ];exact v
  .show (zs 480).getD r 0=_
   rw [E9];unfold js;rw [show (480*q+r)/480=q by omega,if_pos (by rw [<- j];exact t)]
theorem aL.open (hr:pR ask n V0 I) (hn:n<=3840) (T:bu n a0 N0 id K a own N h) (y:q<256) (u:Bool) :
  aL n V0 I (mI ask n h q u) a (FA n a0 N0 id K a h q u) (FD K h q):=by
 have h0:0<n:=by have:=(T.sp.lay.ok _ _ T.hN);omega
 have z:∀ p a',FA n a0 N0 id K ⟨a.V,[]⟩ h q u p a'->FA n a0 N0 id K a h q u p a':=fun p a' h=>h
 by_cases t:h.aN q=0
 .by_cases v:16<=q/\h.n.rw=0
  .refine aL.congr (m':=WM.bind (iL ask n) fun r=>pO ask n (h.dy (r:Int)) q) ?_ fun st=>(if_pos t).trans (if_pos v)
   have hE:fi a.B n=U->FD K h q 7:=fun hf=>⟨rfl,h,by have:=T.cons;have:=T.sp.bm.ia hf;omega,fun _=>rfl,t,fun j=>absurd v.2 j⟩
   refine (aL.take hr h0 hE).bind fun b a' e=>?_
   .obtain ⟨o,rfl⟩:=e
    obtain ⟨d0,b0⟩:=T.sp.bm.sd o;have e0:=T.sp.lay.jE b0;have T':=T.OS hn b0 d0 v.2;exact (aL.PB hr hn T' y t (fun _=>show (b:Int)≠0 by omega) (h1:=h) (V1:=a.V) rfl (fun _=>rfl) ⟨rfl,rfl,rfl⟩ (fun _=>.inr v.1) u).mono z fun _ h=>h
  .refine aL.congr (m':=pO ask n h q) ?_ fun st=>(if_pos t).trans (if_neg v)
   exact (aL.PB hr hn T y t (fun j c0=>v ⟨j,c0⟩) (h1:=h) (V1:=a.V) rfl (fun _=>rfl) ⟨rfl,rfl,rfl⟩ (fun j=>.inl j) u).mono z fun _ h=>h
 .have f0:=T.ok.pg q y
  obtain ⟨b,o⟩:∃ b:Nat,h.aN q=(b:Int):=⟨(h.aN q).toNat,by omega⟩
  cases u with
  | true=>
   refine aL.congr (m':=WM.pure (h,h.aN q,zs 480)) (aL.pure ?_) fun st=>(if_neg t).trans (if_pos rfl);exact ⟨own,N,T,rfl,⟨b,o,o,by omega⟩,fun _ _=>rfl,⟨rfl,rfl,rfl⟩,fun j=>.inl j,bh 480,fun j=>by cases j⟩
  | false=>
   refine aL.congr (m':=WM.bind (cU ask (b:Int)) fun L=>WM.pure (h,h.aN q,L)) ?_ fun st=>by
    refine ((if_neg t).trans (if_neg (by decide))).trans ?_;rw [o]
   refine (aL.read hr (by omega) (by omega)).bind fun L a' e=>?_;obtain ⟨rfl,hL,e3⟩:=e;rw [e3];refine aL.pure ⟨own,N,T,rfl,⟨b,o,o,by omega⟩,fun _ _=>rfl,⟨rfl,rfl,rfl⟩,fun j=>.inl j,hL,fun _ r g0=>?_⟩;unfold js;rw [show (480*q+r)/480=q by omega,if_neg t,o,show (480*q+r)%480=r by omega,E2]
structure UP (n:Nat) (a0:Aw) (N0:Nat->Option Hd) (id K:Nat) (h0:Hd) (off:Nat) (d:List UInt8) (done:Nat) (a:Aw) (h:Hd):Prop where
 st:∃ own N,bu n a0 N0 id K a own N h
 same:xr h h0
 C6:∀ p,p<122880->js a.V h p=if off<=p/\p<off+done then d.getD (p-off) 0 else js a0.V h0 p
 PC:∀ i,i<256->dY h i=(dY h0 i || cS off done i)
 rw:h.n.rw≠0->h0.n.rw≠0\/∃ i,16<=i/\i<256/\cS off done i=true
theorem aL.wr (hr:pR ask n V0 I) (hn:n<=3840) (n0:h0.Fin) (off:Nat) (d:List UInt8) (hm:off+d.length<=122880):∀ (f done:Nat) (a:Aw) (h:Hd),done<=d.length->d.length-done<=f->UP n a0 N0 id K h0 off d done a h->(done<d.length->done=0\/(off+done)%480=0) ->
  aL n V0 I (xH ask n off d f done h) a (fun h' a'=>UP n a0 N0 id K h0 off d d.length a' h') (fun c=>c=7/\K<bK fun i=>dY h0 i || cS off d.length i):=by
 intro f
 induction f with
 | zero=>
  intro done a h hd hf T _;obtain rfl:done=d.length:=by omega
  exact aL.pure T
 | succ f ih=>
  intro done a h hd hf T s0
  by_cases g0:done<d.length
  .obtain ⟨k,hk⟩:∃ k,iH (d.length-done) (off+done)=k:=⟨_,rfl⟩
   have o0:k=min (d.length-done) (480-(off+done)%480):=by rw [<- hk];rfl
   obtain ⟨q,hq⟩:∃ q,(off+done)/480=q:=⟨_,rfl⟩
   obtain ⟨r,k0⟩:∃ r,(off+done)%480=r:=⟨_,rfl⟩
   have x0:off+done=480*q+r:=by omega
   have D0:r<480:=by omega
   have u:q<256:=by omega
   rw [k0] at o0
   refine aL.congr (m':=WM.bind (mI ask n h q (k == 480)) (ze (xH ask n off d f) done off k d)) ?_ fun st=>by
    rw [<- hq,<- hk];exact if_pos g0
   obtain ⟨own,N,T0⟩:=T.st;have l0:cS off d.length q=Q:=cI.2 ⟨by omega,by omega,by omega⟩
   have i0:∀ i,cS off done i=Q->cS off d.length i=Q:=fun i hi=>by
    obtain ⟨z,o,t⟩:=cI.1 hi;exact cI.2 ⟨by omega,by omega,t⟩
   refine ((aL.open hr hn T0 u (k == 480)).mono (fun _ _ h=>h) fun c hE=>?_).bind fun p a' hP=>?_
   .obtain ⟨rfl,hx,x1,x2,x3,x4⟩:=hE
    refine ⟨rfl,?_⟩;rw [<- x1];unfold Hd.lL bK
    have u0:j3 (dY hx)+1<=j3 fun i=>dY h0 i || cS off d.length i:=by
     refine NW u (fun i hi z=>?_) ((gR u).2 (by rw [x2];exact x3)) (by simp only [l0,V3])
     have o:dY h i=Q:=by
      obtain ⟨t,h4⟩:=eU.1 z;rw [x2] at h4;exact eU.2 ⟨t,h4⟩
     rw [T.PC i hi,N2] at o;rw [N2];rcases o with o|o
     .exact .inl o
     .exact .inr (i0 i o)
    by_cases f0:hx.n.rw=0
    .rw [if_pos f0];omega
    .rw [if_neg f0,if_pos]
     .omega
     .rw [gG]
      rcases x4 f0 with j|j
      .rcases T.rw j with j|⟨i,i1,v,i3⟩
       .obtain ⟨i,i1,v,i3⟩:=n0.SY j
        exact ⟨i,i1,v,by rw [N2];exact .inl (eU.2 ⟨v,i3⟩)⟩
       .exact ⟨i,i1,v,by rw [N2];exact .inr (i0 i i3)⟩
      .exact ⟨q,j,u,by rw [N2];exact .inr l0⟩
   .obtain ⟨h',bI,c0⟩:=p
    obtain ⟨q0,N',T1,hV,⟨b,p1,p2,p3⟩,p4,p5,p6,p7,p8⟩:=hP;dsimp only at T1 p1 p2 p4 p5 p6 p7 p8;subst p1;obtain ⟨b0,d0⟩:∃ s,(d.drop done).take k=s:=⟨_,rfl⟩
    have e0:b0.length=k:=by rw [<- d0,R2,J3];omega
    have j0:(putAt c0 r b0).length=480:=by rw [gq (by rw [e0,p7];omega)];exact p7
    refine aL.congr (m':=WM.bind (bP (b:Int) (putAt c0 r b0)) fun _=>xH ask n off d f (done+k) h') ?_ fun st=>by
     unfold ze;dsimp only;rw [k0,d0]
    refine (aL.write p3 (by have j:=(T1.ok.pg q (by omega)).2;rw [p2] at j;omega) j0).bind fun _ r0 e=>?_;rw [e];obtain ⟨T2,hb⟩:=T1.xK u p2 p3 j0;refine ih (done+k) _ h' (by omega) (by omega) ⟨⟨q0,N',T2⟩,⟨p5.1.trans T.same.1,p5.2.1.trans T.same.2.1,p5.2.2.trans T.same.2.2⟩,fun p hp=>?_,fun i hi=>?_,fun j=>?_⟩ (fun _=>by right;omega)
    .show js (zT a'.V b (putAt c0 r b0)) h' p=_
     rw [hb p hp]
     by_cases e:p/480=q
     .rw [if_pos e,pG (by rw [e0,p7];omega),e0]
      by_cases e2:r<=p%480/\p%480<r+k
      .rw [if_pos e2,if_pos (by omega),<- d0]
       simp only [B2];rw [A3,if_pos (by omega),B3,show done+(p%480-r)=p-off by omega]
      .have hw:(k == 480)=H:=by
        cases p0:(k == 480) with
        | false=>rfl
        | true=>
         have:k=480:=by simpa using p0
         omega
       rw [if_neg e2,p8 hw _ (by omega),show 480*q+p%480=p by omega,T.C6 p hp]
       by_cases y:off<=p/\p<off+done
       .rw [if_pos y,if_pos (by omega)]
       .rw [if_neg y,if_neg (by omega)]
     .rw [if_neg e,AW (p4 _ e),hV,T.C6 p hp]
      by_cases y:off<=p/\p<off+done
      .rw [if_pos y,if_pos (by omega)]
      .rw [if_neg y,if_neg (by omega)]
    .by_cases e:i=q
     .subst e
      rw [eU.2 ⟨hi,by omega⟩];have:cS off (done+k) i=Q:=cI.2 ⟨by omega,by omega,by omega⟩;rw [this,V3]
     .have e1:dY h' i=dY h i:=by unfold dY;rw [p4 i e]
      rw [e1,T.PC i hi];congr 1
      cases j:cS off done i with
      | true=>
       obtain ⟨z,o,t⟩:=cI.1 j;exact (cI.2 ⟨by omega,by omega,t⟩).symm
      | false=>
       cases L:cS off (done+k) i with
       | false=>rfl
       | true=>
        obtain ⟨z,o,t⟩:=cI.1 L;have:cS off done i=Q:=cI.2 ⟨by omega,by omega,t⟩;rw [this] at j;cases j
    .rcases p6 j with L|L
     .rcases T.rw L with m0|⟨i,i1,v,i3⟩
      .exact .inl m0
      .obtain ⟨z,o,t⟩:=cI.1 i3
       exact .inr ⟨i,i1,v,cI.2 ⟨by omega,by omega,t⟩⟩
     .exact .inr ⟨q,L,u,cI.2 ⟨by omega,by omega,by omega⟩⟩
  .obtain rfl:done=d.length:=by omega
   refine aL.congr (m':=WM.pure h) (aL.pure T) fun st=>if_neg g0
theorem Ls {A:Nat->Option AF} (j:A id=Y f):dp A id (Y f)=A:=by
 funext b
 by_cases e:b=id
 .subst e;rw [bC,j]
 .exact aK _ _ e
theorem AF.RP (f:AF) (off:Nat) {d:List UInt8} (j:d.length=0):f.wr off d=f:=by
 obtain ⟨kd,lk,sz,tK,pr⟩:=f;unfold AF.wr;rw [if_pos j,j];congr 1
 .funext p;rw [if_neg (by omega)]
 .funext i
  have:cS off 0 i=H:=by unfold cS;simp
  rw [this,Bool.or_false]
theorem aL.OQ (hr:pR ask n V0 I) (hn:n<=3840) (hh:Has n a A k) (hf:A id=Y f) (off:Nat) (d:List UInt8) (hd:d.length<=4096) (hm:off+d.length<=122880) :
  aL n V0 I (gD ask n (id:Int) (off:Int) d) a (fun _ a'=>Has n a' (dp A id (Y (f.wr off d))) (k+bK f.pr-bK (f.wr off d).pr)/\bK (f.wr off d).pr<=k+bK f.pr) (fun c=>c=7/\k+bK f.pr<bK (f.wr off d).pr):=by
 have k0:=hh;obtain ⟨own,N,S,hk,hA⟩:=hh;obtain ⟨h,hN,rfl⟩:=Has.at hA hf;obtain ⟨i0,T,ho⟩:=S.lay.ok _ _ hN;obtain ⟨L,hs,ht⟩:=S.rest id h (by omega) hN;have z0:=ho.Jj;have z1:=ho.Nw;refine (aL.load hr hn S hN).bind fun x a' e=>?_;obtain ⟨rfl,rfl⟩:=e
 by_cases v:d.length=0
 .rw [AF.RP _ _ v]
  refine aL.congr (m':=WM.pure ()) (aL.pure ⟨?_,by omega⟩) fun st=>(if_pos ⟨by omega,hd,by omega⟩).trans (if_pos v);rw [Ls hf,Nat.add_sub_cancel];exact k0
 .refine aL.congr (m':=WM.bind (xH ask n off d d.length 0 x) (G8 off d)) ?_ fun st=>by
   refine ((if_pos ⟨by omega,hd,by omega⟩).trans (if_neg v)).trans ?_;rw [E2]
  have g0:bK (gB a'.V x).pr=x.lL:=(ho.lL L).symm
  have W0:UP n a' N id (xC own n+x.lL) x off d 0 a' x:=⟨⟨own,N,bu.start S hN⟩,⟨rfl,rfl,rfl⟩,fun p _=>by rw [if_neg (by omega)],fun i _=>by
   have:cS off 0 i=H:=by unfold cS;simp
   rw [this,Bool.or_false],fun o=>.inl o⟩
  refine ((aL.wr hr hn L off d hm d.length 0 a' x (Nat.zero_le _) (by omega) W0 (fun _=>.inl rfl)).mono (fun _ _ h=>h) fun c hc=>⟨hc.1,by rw [g0,<- hk];exact hc.2⟩).bind fun h' b0 j=>?_
  .obtain ⟨n0,N',d0⟩:=j.st
   obtain ⟨s1,s2,s3⟩:=j.same;obtain ⟨z,hz⟩:∃ z,max h'.n.sz ((off+d.length:Nat):Int)=z:=⟨_,rfl⟩
   show aL n V0 I (dK (h'.cK (max h'.n.sz ((off+d.length:Nat):Int)))) b0 _ _
   rw [hz];have m0:z=max x.n.sz ((off+d.length:Nat):Int):=by rw [<- hz,s3]
   have r:=d0.ok;have j0:(h'.cK z).Ok n id:=⟨r.fit,r.id,r.kd,r.IE,r.Jm,show 0<=z by omega,show z<=122880 by omega,r.xN,r.zV,r.pg,r.rz⟩
   have T':=d0.set j0 rfl fun _ _=>rfl
   have c0:(h'.cK z).Fin:=by
    refine ⟨fun i hi hb=>?_,fun o=>?_⟩
    .have e0:aW z<=i:=hb
     show h'.aN i=0
     rw [<- gR hi,j.PC i hi];have e1:dY x i=H:=(gR hi).2 (L.hi i hi (by unfold aW at e0 ⊢;omega))
     have e2:cS off d.length i=H:=by
      cases o:cS off d.length i with
      | false=>rfl
      | true=>
       obtain ⟨t,y,h3⟩:=cI.1 o;unfold aW at e0;omega
     rw [e1,e2];rfl
    .rcases j.rw o with o|⟨i,T,u,i3⟩
     .obtain ⟨i,T,u,i3⟩:=L.SY o
      refine ⟨i,T,u,?_⟩;have:dY h' i=Q:=by rw [j.PC i u,eU.2 ⟨u,i3⟩];rfl
      exact (eU.1 this).2
     .refine ⟨i,T,u,?_⟩
      have:dY h' i=Q:=by rw [j.PC i u,i3,V3]
      exact (eU.1 this).2
   have f0:∀ p,p<122880->js b0.V (h'.cK z) p=((gB a'.V x).wr off d).tK p:=fun p hp=>by
    show js b0.V h' p=if off<=p/\p<off+d.length then d.getD (p-off) 0 else if p<122880 then js a'.V x p else 0
    rw [j.C6 p hp,if_pos hp]
   refine (aL.nN T' hn c0).mono (fun _ b e=>?_) fun _ h=>h;subst e;have:=T'.done hn c0 (fun p t y=>?_) hA ((gB a'.V x).wr off d) s1 s2 ?_ f0 (fun p hp=>?_) (fun i hi=>j.PC i hi) fun i hi=>?_
   .rw [<- hk,g0]
    refine ⟨this,?_⟩;have t:=T'.cons;have y:=j0.lL c0;have h3:bK ((gB a'.V x).wr off d).pr=bK (dY (h'.cK z)):=tA fun i hi=>(j.PC i hi).symm;omega
   .have l0:z<=p:=y
    rw [f0 p t];show (if off<=p/\p<off+d.length then d.getD (p-off) 0 else if p<122880 then js a'.V x p else 0)=0
    rw [if_neg (by omega),if_pos t];exact ht p t (by omega)
   .show z=(((if d.length=0 then x.n.sz.toNat else max x.n.sz.toNat (off+d.length)):Nat):Int)
    rw [if_neg v];omega
   .show (if off<=p/\p<off+d.length then d.getD (p-off) 0 else if p<122880 then js a'.V x p else 0)=0
    rw [if_neg (by omega),if_neg (by omega)]
   .show (dY x i || cS off d.length i)=H
    have e1:dY x i=H:=by unfold dY;simp;omega
    have e2:cS off d.length i=H:=by
     cases o:cS off d.length i with
     | false=>rfl
     | true=>
      obtain ⟨t,y,h3⟩:=cI.1 o;omega
    rw [e1,e2];rfl
end
def AF.cut (f:AF) (j:Nat):AF:={ f with sz:=j,tK:=fun p=>if p<j then f.tK p else 0,pr:=fun i=>f.pr i && decide (480*i<j) }
section
variable {σ α:Type} {n id k q K:Nat} {own:Nat->Own} {N N0:Nat->Option Hd} {h h0:Hd} {a a0:Aw} {V0:Nat->List UInt8} {I:σ->Prop} {ask:cO σ} {E:Int->Prop} {A:Nat->Option AF} {f:AF}
theorem AQ (o:h.fit):h.row=H2 240 0↔∀ i,16<=i->i<256->h.aN i=0:=by
 constructor
 .intro e i v y
  unfold Hd.aN;rw [if_neg (by omega),e];simp only [B2,P2];split <;> rfl
 .intro t
  rw [W3];refine ⟨o.2,fun x r=>?_⟩;obtain ⟨i,hi,rfl⟩:=Y2 r;have u:=o.2;have j:=t (16+i) (by omega) (by omega);unfold Hd.aN at j;rw [if_neg (by omega),show 16+i-16=i by omega,B2,O2 hi] at j;exact j
theorem aL.UW (hr:pR ask n V0 I) (T:bu n a0 N0 id K a own N h) {j:Nat} (hs:h.n.sz=(j:Int)) (j0:j<=122880) (hp:∀ i,i<256->j<=480*i->h.aN i=0) :
  aL n V0 I (wN ask h) a (fun _ a'=>bu n a0 N0 id K a' own N h/\∀ p,p<122880->js a'.V h p=if p<j then js a.V h p else 0) E:=by
 have v:(h.n.sz/480).toNat=j/480:=by rw [hs];omega
 have e2:(h.n.sz%480).toNat=j%480:=by rw [hs];omega
 have L:∀ p,p<122880->¬ p<j->p/480≠j/480\/j%480=0->h.aN (p/480)=0:=fun p u o r=>hp _ (by omega) (by omega)
 by_cases u:h.n.sz%480=0
 .refine aL.congr (m':=WM.pure ()) (aL.pure ⟨T,fun p o=>?_⟩) fun st=>if_pos u
  split
  .rfl
  .rename_i r
   unfold js;rw [if_pos (L p o r (.inr (by omega)))]
 .by_cases o:h.aN (h.n.sz/480).toNat=0
  .refine aL.congr (m':=WM.pure ()) (aL.pure ⟨T,fun p r=>?_⟩) fun st=>(if_neg u).trans (if_pos o)
   split
   .rfl
   .rename_i h4
    unfold js;rw [if_pos]
    by_cases t:p/480=j/480
    .rw [t,<- v];exact o
    .exact L p r h4 (.inl t)
  .have d0:=o
   rw [v] at d0;have hq:j/480<256:=by omega
   have i0:=T.ok.pg _ hq;obtain ⟨b,z⟩:∃ b:Nat,h.aN (j/480)=(b:Int):=⟨(h.aN (j/480)).toNat,by omega⟩
   refine aL.congr (m':=WM.bind (cU ask (b:Int)) fun c0=>bP (b:Int) (putAt c0 (j%480) (zs (480-j%480)))) ?_ fun st=>by
    refine ((if_neg u).trans (if_neg o)).trans ?_;rw [v,e2,z];rfl
   refine (aL.read hr (by omega) (by omega)).bind fun c0 a' e=>?_;obtain ⟨rfl,y,e3⟩:=e;rw [e3];have b0:(zs (480-j%480)).length=480-j%480:=bh _;have e0:(putAt (a.V b) (j%480) (zs (480-j%480))).length=480:=by rw [gq (by rw [b0,y];omega)];exact y
   obtain ⟨T2,f0⟩:=T.xK hq z (by omega) e0;refine (aL.write (by omega) (by omega) e0).mono (fun _ g0 e=>?_) fun _ h=>h;subst e;refine ⟨T2,fun p r=>?_⟩;show js (zT a.V b _) h p=_
   rw [f0 p r]
   by_cases h4:p/480=j/480
   .rw [if_pos h4,pG (by rw [b0,y];omega),b0]
    by_cases t:p<j
    .rw [if_neg (by omega),if_pos t]
     unfold js;rw [h4,if_neg d0,z,E2]
    .rw [if_pos (by omega),if_neg t,E9]
   .rw [if_neg h4]
    split
    .rfl
    .rename_i t
     unfold js;rw [if_pos (L p r t (.inl h4))]
structure VE (n:Nat) (a0:Aw) (N0:Nat->Option Hd) (id K:Nat) (h0:Hd) (bl k:Nat) (a:Aw) (h:Hd):Prop where
 st:∃ own N,bu n a0 N0 id K a own N h
 V:a.V=a0.V
 same:xr h h0
 rw:h.n.rw=h0.n.rw
 pg:∀ i,i<256->h.aN i=if bl<=i/\i<k then 0 else h0.aN i
def Rl (n:Nat) (id K:Nat) (A:Nat->Option AF) (f:AF) (j:Nat) (a':Aw):Prop:=Has n a' (dp A id (Y (f.cut j))) (K-bK (f.cut j).pr)
theorem aL.Vl (hr:pR ask n V0 I) (hn:n<=3840) {j:Nat} (hs:j<=122880) (hA:∀ id,A id=(N0 id).map (gB a0.V)) (T:bu n a0 N0 id K a own N h) (hV:a.V=a0.V) (r:h.n.kd=h0.n.kd/\h.n.lk=h0.n.lk/\h.n.sz=(j:Int))
  (v:∀ i,i<256->h.aN i=if (aW j).toNat<=i/\i<256 then 0 else h0.aN i) (b0:h.n.rw≠0->∃ i,16<=i/\i<256/\h.aN i≠0) :
  aL n V0 I (A4 ask h) a (fun _ a'=>Rl n id K A (gB a0.V h0) j a') E:=by
 have c0:(aW j).toNat=(j+479)/480:=by unfold aW;omega
 have L:∀ i,i<256->j<=480*i->h.aN i=0:=fun i o t=>by rw [v i o,if_pos ⟨by omega,o⟩]
 have z:h.Fin:=⟨fun i hi u=>L i hi (by rw [r.2.2] at u;unfold aW at u;omega),b0⟩
 refine (aL.UW hr T r.2.2 hs L).bind fun _ a1 e=>?_;obtain ⟨y,u⟩:=e;refine (aL.nN y hn z).mono (fun _ a2 e=>?_) fun _ h=>h;subst e;have d0:(gB a0.V h0).sz=h0.n.sz.toNat:=rfl;refine y.done hn z (fun p o t=>?_) hA ((gB a0.V h0).cut j) r.1 r.2.1 r.2.2 (fun p o=>?_) (fun p o=>?_) (fun i hi=>?_) fun i hi=>?_
 .rw [u p o,if_neg (by rw [r.2.2] at t;omega)]
 .rw [u p o]
  show _=if p<j then (if p<122880 then js a0.V h0 p else 0) else 0
  rw [if_pos o]
  split
  .rename_i t
   rw [hV];refine AW ?_;rw [v _ (by omega),if_neg (by omega)]
  .rfl
 .show (if p<j then (if p<122880 then js a0.V h0 p else 0) else 0)=0
  rw [if_neg (by omega)]
 .show dY h i=(dY h0 i && decide (480*i<j))
  unfold dY;rw [v i hi]
  by_cases t:(aW j).toNat<=i
  .rw [if_pos ⟨t,hi⟩,decide_eq_false (show ¬ 480*i<j by omega)];simp
  .rw [if_neg (by omega),decide_eq_true (show 480*i<j by omega),Bool.and_true]
 .show (dY h0 i && decide (480*i<j))=H
  unfold dY;simp;omega
theorem aL.Vz (hr:pR ask n V0 I) (hn:n<=3840) (d0:0<n) {o:Nat} (hs:o<=122880) (hA:∀ id,A id=(N0 id).map (gB a0.V)) (k0:h0.Fin):∀ (j:Nat) (a:Aw) (h:Hd),j<=256-(aW o).toNat->VE n a0 N0 id K h0 (aW o).toNat (256-j) a h ->
  aL n V0 I (pJ ask o j h) a (fun _ a'=>Rl n id K A (gB a0.V h0) o a') E:=by
 have j0:(aW o).toNat=(o+479)/480:=by unfold aW;omega
 intro j
 induction j with
 | zero=>
  intro a h _ T;obtain ⟨own,N,y⟩:=T.st;have r:=y.ok;obtain ⟨s1,s2,s3⟩:=T.same
  by_cases hc:h.n.rw≠0/\h.row=H2 240 0
  .obtain ⟨v,t⟩:=hc
   have hz:=(AQ r.fit).1 t;have z:=y.Fa hn v hz;refine aL.congr (m':=WM.bind (cJ ask h.n.rw.toNat H) fun _=>A4 ask ((h.dy 0).cK o)) ?_ fun st=>if_pos ⟨v,t⟩;refine (aL.mark hr d0).bind fun _ a' e=>?_;subst e;have u:=z.ok;have T2:=z.set (h':=(h.dy 0).cK o) ⟨u.fit,u.id,u.kd,u.IE,u.Jm,show (0:Int)<=(o:Int) by omega,show (o:Int)<=122880 by omega,u.xN,u.zV,u.pg,u.rz⟩ rfl fun _ _=>rfl;exact aL.Vl hr hn hs hA T2 T.V ⟨s1,s2,rfl⟩ T.pg fun h9=>absurd rfl h9
  .refine aL.congr (m':=A4 ask (h.cK o)) ?_ fun st=>if_neg hc
   have T2:=y.set (h':=h.cK o) ⟨r.fit,r.id,r.kd,r.IE,r.Jm,show (0:Int)<=(o:Int) by omega,show (o:Int)<=122880 by omega,r.xN,r.zV,r.pg,r.rz⟩ rfl fun _ _=>rfl;refine aL.Vl hr hn hs hA T2 T.V ⟨s1,s2,rfl⟩ T.pg fun h9=>?_;have e0:h.n.rw≠0:=h9;have f0:¬ ∀ i,16<=i->i<256->h.aN i=0:=fun hz=>hc ⟨e0,(AQ r.fit).2 hz⟩;refine Classical.byContradiction fun g0=>f0 fun i i1 i2=>Classical.byContradiction fun i0=>g0 ⟨i,i1,i2,i0⟩
 | succ j ih=>
  intro a h hj T;obtain ⟨own,N,y⟩:=T.st;obtain ⟨k,L⟩:∃ k,256-(j+1)=k:=⟨_,rfl⟩
  have b0:k<256:=by omega
  have c0:(aW o).toNat<=k:=by omega
  rw [L] at T
  by_cases v:h.aN k=0
  .refine aL.congr (m':=pJ ask o j h) ?_ fun st=>if_pos (by rw [L];exact v)
   refine ih a h (by omega) ⟨T.st,T.V,T.same,T.rw,fun i hi=>?_⟩;rw [T.pg i hi,show 256-j=k+1 by omega]
   by_cases e:i=k
   .subst e
    have:=T.pg i hi;rw [if_neg (by omega),v] at this;rw [if_neg (by omega),if_pos ⟨c0,by omega⟩];exact this.symm
   .by_cases t:(aW o).toNat<=i/\i<k
    .rw [if_pos t,if_pos ⟨t.1,by omega⟩]
    .rw [if_neg t,if_neg (by omega)]
  .refine aL.congr (m':=WM.bind (cJ ask (h.aN k).toNat H) fun _=>pJ ask o j (h.put k 0)) ?_ fun st=>by
    refine (if_neg (by rw [L];exact v)).trans ?_;rw [L]
   refine (aL.mark hr d0).bind fun _ a' e=>?_;subst e;have z:=y.BH hn b0 v;obtain ⟨s1,s2,s3⟩:=xl h k 0;obtain ⟨t1,t2,t3⟩:=T.same;refine ih _ (h.put k 0) (by omega) ⟨⟨_,_,z⟩,T.V,⟨s1.trans t1,s2.trans t2,s3.trans t3⟩,by rw [Hd.gQ];exact T.rw,fun i hi=>?_⟩;rw [Hd.jh y.ok.fit b0,show 256-j=k+1 by omega]
   by_cases e:i=k
   .subst e;rw [if_pos rfl,if_pos ⟨c0,by omega⟩]
   .rw [if_neg e,T.pg i hi]
    by_cases t:(aW o).toNat<=i/\i<k
    .rw [if_pos t,if_pos ⟨t.1,by omega⟩]
    .rw [if_neg t,if_neg (by omega)]
theorem aL.TS (hr:pR ask n V0 I) (hn:n<=3840) (u:Has n a A k) (t:A id=Y f) (j:Nat) (L:j<=122880) :
  aL n V0 I (lV ask n (id:Int) (j:Int)) a (fun _ a'=>Rl n id (k+bK f.pr) A f j a') E:=by
 obtain ⟨own,N,S,v,o⟩:=u;obtain ⟨h,hN,rfl⟩:=Has.at o t;obtain ⟨i0,i1,z⟩:=S.lay.ok _ _ hN;obtain ⟨r,b0,ht⟩:=S.rest id h (by omega) hN;refine (aL.load hr hn S hN).bind fun x a' e=>?_;obtain ⟨rfl,rfl⟩:=e;have y:bK (gB a'.V x).pr=x.lL:=(z.lL r).symm;have T:(aW j).toNat=(j+479)/480:=by unfold aW;omega
 refine aL.congr (m':=pJ ask j (256-(aW j).toNat) x) ?_ fun st=>if_pos ⟨by omega,by omega⟩;rw [y,<- v];refine aL.Vz hr hn (by omega) L o r (256-(aW j).toNat) a' x (by omega) ⟨⟨own,N,bu.start S hN⟩,rfl,⟨rfl,rfl,rfl⟩,rfl,fun i hi=>?_⟩;rw [if_neg (by omega)]
theorem aL.Ta (hr:pR ask n V0 I) (hn:n<=3840) (c0:0<n) {P:Unit->Aw->Prop} (b0:h0.fit) (hP:∀ a own N h,bu n a0 N0 id K a own N h->a.V=a0.V->h.n.rw=h0.n.rw->(∀ i,i<256->h.aN i=0)->P () a) :
  ∀ (j:Nat) (a:Aw) (own:Nat->Own) (N:Nat->Option Hd) (h:Hd),j<=256->bu n a0 N0 id K a own N h->a.V=a0.V->h.n.rw=h0.n.rw->(∀ i,i<256->h.aN i=if i<256-j then 0 else h0.aN i)->aL n V0 I (iD ask (h0.ic.drop (256-j))) a P E:=by
 intro j
 induction j with
 | zero=>
  intro a own N h _ T u y o;rw [List.drop_of_length_le (by rw [Hd.jA b0];omega)];exact aL.pure (hP a own N h T u y fun i hi=>by rw [o i hi,if_pos (by omega)])
 | succ j ih=>
  intro a own N h hj T u y o;obtain ⟨k,hk⟩:∃ k,256-(j+1)=k:=⟨_,rfl⟩
  have v:k<256:=by omega
  rw [hk] at o ⊢;rw [Hd.mj b0 v];have z:=o k v;rw [if_neg (by omega)] at z;have L:k+1=256-j:=by omega
  by_cases t:h0.aN k=0
  .refine aL.congr (m':=iD ask (h0.ic.drop (k+1))) ?_ fun st=>if_pos t
   rw [L];refine ih a own N h (by omega) T u y fun i hi=>?_;rw [o i hi]
   by_cases e:i=k
   .subst e;rw [if_neg (by omega),if_pos (by omega),t]
   .by_cases r:i<k
    .rw [if_pos r,if_pos (by omega)]
    .rw [if_neg r,if_neg (by omega)]
  .refine aL.congr (m':=WM.bind (cJ ask (h0.aN k).toNat H) fun _=>iD ask (h0.ic.drop (k+1))) ?_ fun st=>if_neg t
   refine (aL.mark hr c0).bind fun _ a' e=>?_;subst e;rw [<- z,L];refine ih _ _ _ (h.put k 0) (by omega) (T.BH hn v (by rw [z];exact t)) u (by rw [Hd.gQ];exact y) fun i hi=>?_;rw [Hd.jh T.ok.fit v]
   by_cases e:i=k
   .subst e;rw [if_pos rfl,if_pos (by omega)]
   .rw [if_neg e,o i hi]
    by_cases r:i<k
    .rw [if_pos r,if_pos (by omega)]
    .rw [if_neg r,if_neg (by omega)]
theorem JL (o:∀ i,i<256->h.aN i=0) (hr:h.n.rw=0):h.lL=1:=by
 unfold Hd.lL
 have e:j3 (dY h)=0:=by
  unfold j3;rw [H3];intro i hi j;exact (eU.1 j).2 (o i (List.mem_range.1 hi))
 rw [e,if_pos hr]
theorem bu.gone (T:bu n a0 N0 id K a own N h) (hn:n<=3840) (y:a.V=a0.V) (v:∀ id,A id=(N0 id).map (gB a0.V)) (r:h.n.rw=0) (o:∀ i,i<256->h.aN i=0):Has n { a with B:=dU a.B id H } (dp A id U) K:=by
 obtain ⟨i0,t,L⟩:=T.sp.lay.ok _ _ T.hN;refine ⟨dp own id mU,dp N id U,(T.sp.step (T.sp.lay.gone T.hN r o) (T.sp.bm.set hn t _ _ (by simp)) fun id' z=>aK _ _ z).shut fun g j=>(by rw [bC] at j;cases j),?_,fun id'=>?_⟩
 .have:=mi (own:=own) (x:=mU) t
  rw [T.sp.lay.td T.hN,if_pos rfl,if_neg (by simp)] at this;have u:=T.cons;rw [JL o r] at u;omega
 .by_cases e:id'=id
  .subst e;rw [bC,bC];rfl
  .rw [aK _ _ e,aK _ _ e,v id',<- T.Si id' e]
   show _=(N id').map (gB a.V)
   rw [y]
theorem aL.free (hr:pR ask n V0 I) (hn:n<=3840) (hh:Has n a A k) (hf:A id=Y f) :
  aL n V0 I (qx ask n (id:Int)) a (fun _ a'=>Has n a' (dp A id U) (k+bK f.pr)) E:=by
 obtain ⟨own,N,S,hk,y⟩:=hh;obtain ⟨h,hN,rfl⟩:=Has.at y hf;obtain ⟨i0,i1,z⟩:=S.lay.ok _ _ hN;obtain ⟨c0,e0,ht⟩:=S.rest id h (by omega) hN;refine (aL.load hr hn S hN).bind fun x a' e=>?_;obtain ⟨rfl,rfl⟩:=e;have d0:bK (gB a'.V x).pr=x.lL:=(z.lL c0).symm;rw [d0,<- hk];refine aL.bind (P:=fun _ j=>∃ v t h',bu n a' N id (xC own n+x.lL) j v t h'/\j.V=a'.V/\h'.n.rw=x.n.rw/\∀ i,i<256->h'.aN i=0) ?_ fun _ j e=>?_
 .have:=aL.Ta (E:=E) hr hn (by omega) (P:=fun _ j=>∃ v t h',bu n a' N id (xC own n+x.lL) j v t h'/\j.V=a'.V/\h'.n.rw=x.n.rw/\∀ i,i<256->h'.aN i=0) z.fit
   (fun a own N h T u r o=>⟨own,N,h,T,u,r,o⟩) 256 a' own N x (A2 _) (bu.start S hN) rfl rfl fun i hi=>by rw [if_neg (by omega)]
  rw [Nat.sub_self,List.drop_zero] at this;exact this
 .obtain ⟨v,t,h',T,u,r,o⟩:=e
  have b0:=z.id
  by_cases h0:x.n.rw=0
  .refine aL.congr (m':=cJ ask x.id H) ?_ fun st=>if_pos h0
   rw [b0];refine (aL.mark hr (by omega)).mono (fun _ a3 e=>?_) fun _ h=>h;subst e;exact T.gone hn u y (by rw [r];exact h0) o
  .refine aL.congr (m':=WM.bind (cJ ask x.n.rw.toNat H) fun _=>cJ ask x.id H) ?_ fun st=>if_neg h0
   rw [b0];refine (aL.mark hr (by omega)).bind fun _ a3 e=>?_;subst e;refine (aL.mark hr (by omega)).mono (fun _ a4 e=>?_) fun _ h=>h;subst e;have L:=T.Fa hn (by rw [r];exact h0) fun i _ hi=>o i hi;rw [r] at L;exact L.gone hn u y rfl o
end
section
variable {σ α:Type} {n id k:Nat} {own:Nat->Own} {N:Nat->Option Hd} {a a':Aw} {V0:Nat->List UInt8} {I:σ->Prop} {ask:cO σ} {E:Int->Prop} {P:α->Aw->Prop} {A:Nat->Option AF} {f:AF} {M:ik σ} {m:WM σ α}
theorem Has.congr (h:Has n a A k) (u:∀ i,0<i->i<n->a'.V i=a.V i) (hB:a'.B=a.B):Has n a' A k:=by
 obtain ⟨own,N,S,hk,T⟩:=h
 have v:∀ id g,N id=Y g->(∀ b,b=id\/own b=Jf id->a'.V b=a.V b)/\∀ b i,own b=E8 id i->a'.V b=a.V b:=by
  intro id g o;obtain ⟨i0,i1,ho⟩:=S.lay.ok _ _ o
  have y:∀ b,own b≠mU->own b≠ME->a'.V b=a.V b:=fun b r t=>by
   refine u b ?_ ?_
   .rcases Nat.eq_zero_or_pos b with e|e
    .subst e;exact absurd S.lay.zero t
    .exact e
   .refine Nat.lt_of_not_le fun L=>r (S.lay.out b L)
  refine ⟨fun b j=>?_,fun b i j=>y b (by rw [j];simp) (by rw [j];simp)⟩;rcases j with rfl|j
  .exact u b i0 i1
  .exact y b (by rw [j];simp) (by rw [j];simp)
 refine ⟨own,N,⟨S.lay,by rw [hB];exact S.bm,fun b h0 j=>by rw [u b h0 j];exact S.len b h0 j,fun id g b0 o=>?_⟩,hk,fun id=>?_⟩
 .obtain ⟨r,t,z⟩:=S.rest id g b0 o
  exact ⟨r,t.frame S.lay o (v id g o).1,z.frame S.lay o (v id g o).2⟩
 .rw [T id]
  cases o:N id with
  | none=>rfl
  | some g=>
   show Y (gB a.V g)=Y (gB a'.V g)
   congr 1;unfold gB;congr 1;funext p
   split
   .rename_i hp;exact (ot S.lay o (v id g o).2 hp).symm
   .rfl
structure oS (n:Nat) (V0:Nat->List UInt8) (I:σ->Prop) (M:ik σ) (A:Nat->Option AF) (k:Nat):Prop where
 gz:Good n V0 I M
 has:Has n (Na V0 M) A k
theorem oS.reader (h:oS n V0 I M A k) {s:σ} (j:I s):oS n V0 I { M with s:=s } A k:=⟨⟨h.gz.err,j,h.gz.wr,h.gz.rd,h.gz.keys⟩,h.has⟩
theorem oS.run (hr:pR ask n V0 I) (h0:0<n) (h:oS n V0 I M A k) (v:aL n V0 I m (Na V0 M) P E) :
  (∃ x M' a',dZ m M=(.ok x,M')/\P x a'/\∀ A' k',Has n a' A' k'->oS n V0 I M' A' k')\/∃ c j,dZ m M=(.bad c,{ M with s:=j })/\E c/\oS n V0 I { M with s:=j } A k:=by
 rcases aL.run hr h0 h.gz v with ⟨x,M',a',o,r,t,h4,u⟩|⟨c,j,o,r,t⟩
 .exact .inl ⟨x,M',a',o,t,fun A' k' y=>⟨r,y.congr u h4⟩⟩
 .exact .inr ⟨c,j,o,t,h.reader r⟩
variable (hr:pR ask n V0 I) (h0:0<n) (hn:n<=3840)
include hr h0
theorem CJ (h4:4<=n) (hn:n<=3840) (t:Good n V0 I M):∃ M',dZ (jd ask) M=(.ok (),M')/\oS n V0 I M' (fun id=>if id=1 then Y (jx 2) else U) (n-2):=by
 rcases aL.run hr h0 t (aL.format (E:=fun _=>False) hr h4 hn fun b _ v=>t.O7 hr v) with ⟨x,M',a',o,r,j,h4,u⟩|⟨c,y,o,r,j⟩
 .exact ⟨M',o,r,j.congr u h4⟩
 .exact j.elim
include hn
theorem Mp (h:oS n V0 I M A k) (v:A id=Y f):∃ x M',dZ (qy ask n (id:Int)) M=(.ok x,M')/\x.kd=f.kd/\x.lk=f.lk/\x.sz=f.sz/\oS n V0 I M' A k:=by
 rcases h.run hr h0 (aL.node (E:=fun _=>False) hr hn h.has v) with ⟨x,M',a',o,⟨j,r,h4,t⟩,u⟩|⟨c,y,o,j,r⟩
 .exact ⟨x,M',o,j,r,h4,u _ _ (by rw [t];exact h.has)⟩
 .exact j.elim
theorem DH (h:oS n V0 I M A k) (v:A id=Y f) (off j:Nat):∃ M',dZ (jD ask n (id:Int) (off:Int) (j:Int)) M=(.ok (f.sub off j),M')/\oS n V0 I M' A k:=by
 rcases h.run hr h0 (aL.Qp (E:=fun _=>False) hr hn h.has v off j) with ⟨x,M',a',r,⟨o,t⟩,u⟩|⟨c,z,r,o,y⟩
 .exact ⟨M',by rw [r,o],u _ _ (by rw [t];exact h.has)⟩
 .exact o.elim
theorem Px (h:oS n V0 I M A k) {kd:Int} (z:kd=1\/kd=2) :
  (∃ id M',dZ (wI ask n kd) M=(.ok id,M')/\A id=U/\0<id/\id<n/\0<k/\oS n V0 I M' (dp A id (Y (jx kd))) (k-1))\/(∃ j,dZ (wI ask n kd) M=(.bad 7,{ M with s:=j })/\k=0/\oS n V0 I { M with s:=j } A k):=by
 rcases h.run hr h0 (aL.new hr h0 hn h.has z) with ⟨x,M',a',o,⟨r,t,h4,u,v⟩,y⟩|⟨c,j,o,⟨rfl,r⟩,t⟩
 .exact .inl ⟨x,M',o,r,t,h4,u,y _ _ v⟩
 .exact .inr ⟨j,o,r,t⟩
theorem Gx (h:oS n V0 I M A k) (v:A id=Y f) (d:Int) :
  (∃ M',dZ (kK ask n (id:Int) d) M=(.ok (),M')/\(0<=wrap64 (f.lk+d)/\wrap64 (f.lk+d)<=65535)/\oS n V0 I M' (dp A id (Y { f with lk:=wrap64 (f.lk+d) })) k) \/
  (∃ j,dZ (kK ask n (id:Int) d) M=(.bad 1,{ M with s:=j })/\¬ (0<=wrap64 (f.lk+d)/\wrap64 (f.lk+d)<=65535)/\oS n V0 I { M with s:=j } A k):=by
 rcases h.run hr h0 (aL.Te hr hn h.has v d) with ⟨x,M',a',o,⟨r,t⟩,u⟩|⟨c,j,o,⟨rfl,r⟩,t⟩
 .exact .inl ⟨M',o,r,u _ _ t⟩
 .exact .inr ⟨j,o,r,t⟩
theorem G1 (h:oS n V0 I M A k) (u:A id=Y f) (j:Nat) (v:j<=122880) :
  ∃ M',dZ (lV ask n (id:Int) (j:Int)) M=(.ok (),M')/\oS n V0 I M' (dp A id (Y (f.cut j))) (k+bK f.pr-bK (f.cut j).pr):=by
 rcases h.run hr h0 (aL.TS (E:=fun _=>False) hr hn h.has u j v) with ⟨x,M',a',r,o,t⟩|⟨c,z,r,o,y⟩
 .exact ⟨M',r,t _ _ o⟩
 .exact o.elim
theorem J8 (h:oS n V0 I M A k) (t:A id=Y f):∃ M',dZ (qx ask n (id:Int)) M=(.ok (),M')/\oS n V0 I M' (dp A id U) (k+bK f.pr):=by
 rcases h.run hr h0 (aL.free (E:=fun _=>False) hr hn h.has t) with ⟨x,M',a',o,j,r⟩|⟨c,v,o,j,u⟩
 .exact ⟨M',o,r _ _ j⟩
 .exact j.elim
theorem sS (h:oS n V0 I M A k) (y:A id=Y f) (off:Nat) (d:List UInt8) (v:d.length<=4096) (z:off+d.length<=122880) :
  (∃ M',dZ (gD ask n (id:Int) (off:Int) d) M=(.ok (),M')/\bK (f.wr off d).pr<=k+bK f.pr/\oS n V0 I M' (dp A id (Y (f.wr off d))) (k+bK f.pr-bK (f.wr off d).pr)) \/
  (∃ j,dZ (gD ask n (id:Int) (off:Int) d) M=(.bad 7,{ M with s:=j })/\k+bK f.pr<bK (f.wr off d).pr/\oS n V0 I { M with s:=j } A k):=by
 rcases h.run hr h0 (aL.OQ hr hn h.has y off d v z) with ⟨x,M',a',o,⟨r,t⟩,u⟩|⟨c,j,o,⟨rfl,r⟩,t⟩
 .exact .inl ⟨M',o,t,u _ _ r⟩
 .exact .inr ⟨j,o,r,t⟩
end
variable {σ α β:Type} {m:WM σ α} {k:α->WM σ β} {ask:cO σ} {c d n:Nat}
def bL (m:WM σ α) (c:Nat):Prop:=∀ st a j,m st=(.ok a,j)->j.b.W.length<=st.b.W.length+c
theorem bL.bind (h:bL m c) (o:∀ a,bL (k a) d):bL (WM.bind m k) (c+d):=by
 intro st a y e;unfold WM.bind at e
 cases j:m st with
 | mk r v=>
  rw [j] at e
  cases r with
  | ok x=>have t:=h _ _ _ j;have u:=o x _ _ _ e;omega
  | bad c=>cases e
theorem bL.ft (h:bL m 0) (j:∀ a,bL (k a) d):bL (WM.bind m k) d:=by
 have:=h.bind j;rwa [R3] at this
theorem bL.mono (h:bL m c) (j:c<=d):bL m d:=fun st a o e=>by have:=h _ _ _ e;omega
theorem bL.pure (a:α):bL (WM.pure a:WM σ α) 0:=fun st b j e=>by cases e;exact A2 _
theorem bL.ite {p:Prop} [Decidable p] {j:WM σ α} (h:bL m c) (h':bL j c):bL (fun st=>if p then m st else j st) c:=fun st a o e=>by
 simp only at e;split at e;exact h _ _ _ e;exact h' _ _ _ e
theorem bL.stop (z:Int):bL (fun st=>(.bad z,st):WM σ α) 0:=fun st a j e=>by cases e
theorem bL.skip (a:α):bL (fun st=>(.ok a,st):WM σ α) 0:=fun st b j e=>by cases e;exact A2 _
theorem Df (b:ik σ) (id:Int):(gh ask b id).2.W=b.W:=by
 unfold gh
 split
 .rfl
 .split
  .rfl
  .split
   .rfl
   .unfold rH;split <;> rfl
theorem jO (id:Int):bL (cU ask id) 0:=fun st a j e=>by
 unfold cU at e
 split at e
 .cases e
 .split at e
  .cases e
  .cases e;show (gh ask st.b id).2.W.length<=_;rw [Df];omega
theorem kn (id:Int) (l:List UInt8):bL (bP id l:WM σ Unit) 1:=fun st a j e=>by
 unfold bP at e
 split at e
 .cases e
  show (SL.fw st.b.W id l).length<=_
  rw [CT];split <;> omega
 .cases e
theorem wZ:bL (lJ ask) 0:=fun st a j e=>by
 unfold lJ at e
 split at e
 .cases e;exact A2 _
 .split at e
  .rename_i h;cases e;have:=jO 0 _ _ _ h;exact this
  .cases e
theorem ib (id:Nat) (t:Bool):bL (cJ ask id t) 0:=wZ.ft fun l st a j e=>by cases e;exact A2 _
theorem ou:bL (iL ask n) 0:=wZ.ft fun l st a o e=>by
 unfold sw at e
 cases j:fi l n with
 | none=>rw [j] at e;cases e
 | some k=>rw [j] at e;cases e;exact A2 _
theorem nE (l:List Int):bL (eF n l:WM σ Unit) 0:=fun st a j e=>by
 unfold eF at e;split at e <;> cases e;exact A2 _
theorem uB (id:Nat) (nd:Nd) (row:List Int):bL (iX n id nd row:WM σ Hd) 0:=(nE _).ft fun _=>(nE _).ft fun _=>bL.pure _
theorem oo (id:Int):bL (fY ask n id) 0:=by
 refine bL.ite ((jO _).ft fun L=>bL.ite (bL.ite (uB _ _ _) ((nE _).ft fun _=>(jO _).ft fun L=>bL.ite (uB _ _ _) (bL.stop _))) (bL.stop _)) (bL.stop _)
theorem lj (h:Hd):bL (dK h:WM σ Unit) 2:=by
 refine bL.ite ((kn _ _).bind (d:=1) fun _=>bL.ite ((bL.skip _).mono (by omega)) (bL.ite (kn _ _) ((bL.stop _).mono (by omega)))) ((bL.stop _).mono (by omega))
def Still (m:WM σ α):Prop:=∀ st a j,m st=(.ok a,j)->j.b.W.length<=st.b.W.length/\j.dt=st.dt
theorem Still.bind (h:Still m) (u:∀ a,Still (k a)):Still (WM.bind m k):=by
 intro st a y e;unfold WM.bind at e
 cases t:m st with
 | mk r v=>
  rw [t] at e
  cases r with
  | ok x=>have j:=h _ _ _ t;have o:=u x _ _ _ e;exact ⟨J2 o.1 j.1,o.2.trans j.2⟩
  | bad c=>cases e
theorem Still.pure (a:α):Still (WM.pure a:WM σ α):=fun st b j e=>by cases e;exact ⟨A2 _,rfl⟩
theorem Still.ite {p:Prop} [Decidable p] {j:WM σ α} (h:Still m) (h':Still j):Still (fun st=>if p then m st else j st):=fun st a o e=>by
 simp only at e;split at e;exact h _ _ _ e;exact h' _ _ _ e
theorem Still.stop (z:Int):Still (fun st=>(.bad z,st):WM σ α):=fun st a j e=>by cases e
theorem Still.skip (a:α):Still (fun st=>(.ok a,st):WM σ α):=fun st b j e=>by cases e;exact ⟨A2 _,rfl⟩
theorem po (id:Int):Still (cU ask id):=fun st a j e=>by
 refine ⟨jO id _ _ _ e,?_⟩;unfold cU at e
 split at e
 .cases e
 .split at e <;> cases e
  rfl
theorem lT (l:List Int):Still (eF n l:WM σ Unit):=fun st a j e=>by
 unfold eF at e;split at e <;> cases e;exact ⟨A2 _,rfl⟩
theorem tj (id:Nat) (nd:Nd) (row:List Int):Still (iX n id nd row:WM σ Hd):=(lT _).bind fun _=>(lT _).bind fun _=>Still.pure _
theorem vW (id:Int):Still (fY ask n id):=
 Still.ite ((po _).bind fun L=>Still.ite (Still.ite (tj _ _ _) ((lT _).bind fun _=>(po _).bind fun L=>Still.ite (tj _ _ _) (Still.stop _))) (Still.stop _)) (Still.stop _)
theorem DC (node:Int):Still (qy ask n node):=(vW _).bind fun _=>Still.pure _
theorem vo (h:Hd) (off:Nat):∀ (f done:Nat) (L:List UInt8),Still (CG ask h off f done L)
 | 0,_,L=>Still.pure L
 | f+1,done,L=>Still.ite (Still.ite (vo h off f _ L) ((po _).bind fun _=>vo h off f _ _)) (Still.skip _)
theorem yE (node off j:Int):Still (jD ask n node off j):=(vW _).bind fun h=>Still.ite (Still.ite (Still.skip _) (vo _ _ _ _ _)) (Still.stop _)
theorem Still.run (h:Still m) {M M':ik σ} {x:α} (e:dZ m M=(.ok x,M')):M'.W.length<=M.W.length:=by
 cases j:m ⟨M,U,H⟩ with
 | mk r st=>
  cases r with
  | ok y=>
   have o:=h _ _ _ j;rw [nT j o.2] at e;cases e;exact o.1
  | bad z=>rw [lq j] at e;cases e
theorem bL.run (h:bL m c) {M M':ik σ} {x:α} (e:dZ m M=(.ok x,M')):M'.W.length<=M.W.length+(c+1):=by
 unfold dZ at e
 have t:bL (nx:WM σ Unit) 1:=fun st a u e=>by
  unfold nx at e
  split at e
  .exact kn _ _ st a u e
  .cases e;omega
 have o:bL (WM.bind m fun a=>WM.bind nx fun _=>WM.pure a) (c+1):=h.bind fun a=>t.bind (d:=0) fun _=>bL.pure a
 cases j:(WM.bind m fun a=>WM.bind nx fun _=>WM.pure a) ⟨M,U,H⟩ with
 | mk r st=>
  rw [j] at e
  cases r with
  | ok y=>cases e;exact o _ _ _ j
  | bad z=>cases e
theorem J9 (kd:Int):bL (wI ask n kd) 2:=bL.ite (ou.ft fun id=>(lj _).bind (d:=0) fun _=>bL.pure _) ((bL.stop _).mono (by omega))
theorem Dy (node j:Int):bL (kK ask n node j) 2:=(oo _).ft fun h=>bL.ite (lj _) ((bL.stop _).mono (by omega))
theorem pj:∀ j:List Int,bL (iD ask j) 0
 | []=>bL.pure _
 | p :: j=>bL.ite (pj j) ((ib _ _).ft fun _=>pj j)
theorem Gf (node:Int):bL (qx ask n node) 0:=(oo _).ft fun h=>(pj _).ft fun _=>bL.ite (ib _ _) ((ib _ _).ft fun _=>ib _ _)
theorem LG (h:Hd):bL (wN ask h) 1:=bL.ite ((bL.skip _).mono (by omega)) (bL.ite ((bL.skip _).mono (by omega)) ((jO _).ft fun L=>kn _ _))
theorem Aj (h:Hd):bL (A4 ask h) 3:=(LG h).bind (d:=2) fun _=>lj h
theorem KM (j:Int) (h:Hd):bL (Rz ask j h) 3:=bL.ite ((ib _ _).ft fun _=>Aj _) (Aj _)
theorem uV (o:Int):∀ (j:Nat) (h:Hd),bL (pJ ask o j h) 3
 | 0,h=>KM o h
 | j+1,h=>bL.ite (uV o j h) ((ib _ _).ft fun _=>uV o j _)
theorem C5 (node j:Int):bL (lV ask n node j) 3:=(oo _).ft fun h=>bL.ite (uV _ _ _) ((bL.stop _).mono (by omega))
theorem F6 (h:Hd) (i:Nat) (j:Bool):bL (mI ask n h i j) 0:=
 bL.ite (bL.ite (ou.ft fun r=>ou.ft fun _=>bL.pure _) (ou.ft fun _=>bL.pure _)) (bL.ite (bL.skip _) ((jO _).ft fun _=>bL.pure _))
def AH (off l done:Nat):Nat:=if done<l then (off+l-1)/480-(off+done)/480+1 else 0
theorem IC {off l done:Nat} (h:done<l):1+AH off l (done+iH (l-done) (off+done))<=AH off l done:=by
 have r:AH off l done=(off+l-1)/480-(off+done)/480+1:=if_pos h;rw [r]
 by_cases j:done+iH (l-done) (off+done)<l
 .have o:AH off l (done+iH (l-done) (off+done))=(off+l-1)/480-(off+(done+iH (l-done) (off+done)))/480+1:=if_pos j
  rw [o];have t:iH (l-done) (off+done)=480-(off+done)%480:=by unfold iH at j ⊢;omega
  rw [t] at j ⊢;omega
 .have o:AH off l (done+iH (l-done) (off+done))=0:=if_neg j
  rw [o];omega
theorem Fm (off:Nat) (dt:List UInt8):∀ (f done:Nat) (h:Hd),bL (xH ask n off dt f done h) (AH off dt.length done)
 | 0,_,h=>(bL.pure h).mono (by omega)
 | f+1,done,h=>by
  by_cases o:done<dt.length
  .have r:bL (WM.bind (mI ask n h ((off+done)/480) (iH (dt.length-done) (off+done) == 480)) (ze (xH ask n off dt f) done off (iH (dt.length-done) (off+done)) dt)) (1+AH off dt.length (done+iH (dt.length-done) (off+done))):=
    (F6 _ _ _).ft fun p=>(kn _ _).bind fun _=>Fm off dt f _ _
   intro st a t e;have j:xH ask n off dt (f+1) done h st=(WM.bind (mI ask n h ((off+done)/480) (iH (dt.length-done) (off+done) == 480)) (ze (xH ask n off dt f) done off (iH (dt.length-done) (off+done)) dt)) st:=if_pos o;rw [j] at e;have u:=r _ _ _ e;have h4:=IC (off:=off) o;omega
  .intro st a t e
   have j:xH ask n off dt (f+1) done h st=(.ok h,st):=if_neg o;rw [j] at e;cases e
   omega
theorem zg (node off:Int) (dt:List UInt8):bL (gD ask n node off dt) (dt.length/480+4):=by
 refine (oo _).ft fun h=>bL.ite (bL.ite ((bL.skip _).mono (by omega)) (((Fm _ _ _ _ _).mono (d:=dt.length/480+2) ?_).bind fun _=>lj _)) ((bL.stop _).mono (by omega));unfold AH
 split <;> omega
theorem Cq:bL (jd ask) 2:=fun st a j e=>((ib 0 Q).ft fun _=>(ib 1 Q).ft fun _=>lj _) { st with bits:=Y (zs 480) } a j e
end Go.SL
namespace Go.SL
open RowKit
theorem Ry {α:Type} (f:Nat->α) (k:Nat) (x y:α):dp (dp f k x) k y=dp f k y:=by
 funext b;unfold dp;split <;> rfl
end Go.SL
namespace Go.Proofs.Fs
open RowKit SL Proofs.Ba
structure Fx (n:Nat) where
 σ:Type
 c:Cx σ
 V0:Nat->List UInt8
 I:σ->Prop
 ok:c.Ok
 Ny:pR c.ask n V0 I
 h4:4<=n
 hn:n<=3840
 R:Hp->ai
 hR:∀ S S',Ext S S'->∀ h,R S h->R S' h
 C:Nat
@[reducible] def Fx.more {n:Nat} (x:Fx n) (m:Nat):Fx n:=⟨x.σ,x.c,x.V0,x.I,x.ok,x.Ny,x.h4,x.hn,x.R,x.hR,x.C+m⟩
def Qn {n:Nat} (x:Fx n) (b:Nat) (M:ik x.σ):ai:=ex fun S=>cH x.c S b M*(aq S*x.R S)
abbrev Cf {n:Nat} (x:Fx n) (M:ik x.σ) (A:Nat->Option AF) (k:Nat):Prop:=oS n x.V0 x.I M A k/\M.W.length<=x.C
def dS {n:Nat} (x:Fx n) (b:Nat) (A:Nat->Option AF) (k:Nat):ai:=ex fun M=>fact (Cf x M A k)*Qn x b M
section
variable {n:Nat} {x:Fx n} {b k:Nat} {A:Nat->Option AF} {M:ik x.σ} {w w':G} {F:ai}
theorem ag.oU (h:ag w (Qn x b M*F)):∃ S,ag w (cH x.c S b M*(aq S*(x.R S*F))):=by
 obtain ⟨S,j⟩:=ag.ax.1 h;exact ⟨S,j.to (by ac_rfl)⟩
theorem ag.ui {S S':Hp} (o:Ext S S') (h:ag w (cH x.c S' b M*(aq S'*(x.R S*F)))):ag w (Qn x b M*F):=by
 have j:=(h.to (by ac_rfl:_=x.R S*(cH x.c S' b M*(aq S'*F)))).fp (x.hR S S' o);exact ag.ax.2 ⟨S',j.to (by ac_rfl)⟩
theorem ag.mA (h:ag w (dS x b A k*F)):∃ M,Cf x M A k/\ag w (Qn x b M*F):=by
 obtain ⟨M,j⟩:=ag.ax.1 h;obtain ⟨o,r⟩:=ag.au.1 (j.to (ay _ _ _));exact ⟨M,o,r⟩
theorem ag.qK (j:Cf x M A k) (h:ag w (Qn x b M*F)):ag w (dS x b A k*F):=
 ag.ax.2 ⟨M,(ag.au.2 ⟨j,h⟩:ag w (fact (Cf x M A k)*(Qn x b M*F))).to (ay _ _ _).symm⟩
theorem ag.xX (m:Nat) (h:ag w (dS x b A k*F)):ag w (dS (x.more m) b A k*F):=by
 obtain ⟨M,j,o⟩:=ag.mA h;exact ag.qK (x:=x.more m) ⟨j.1,J2 j.2 (Nat.le_add_right _ _)⟩ o
def YI {n:Nat} (x:Fx n) (b:Nat) (A:Nat->Option AF) (k:Nat) (v c:Int) (F:ai) (w:G) (e:Ending) (w':G):Prop:=
 e = Z' (.tuple #[Z .i64 v,Z .i64 c])/\aj w w'/\ag w' (dS x b A k*F)
def YE {n:Nat} (x:Fx n) (b:Nat) (A:Nat->Option AF) (k:Nat) (c:Int) (F:ai) (w:G) (e:Ending) (w':G):Prop:=
 e = Z' (Z .i64 c)/\aj w w'/\ag w' (dS x b A k*F)
def YB {n:Nat} (x:Fx n) (b:Nat) (A:Nat->Option AF) (k:Nat) (l:List UInt8) (F:ai) (w:G) (e:Ending) (w':G):Prop:=
 ∃ v,e = Z' (.tuple #[v,Z .i64 0])/\aj w w'/\ag w' (bs 5 v l*(dS x b A k*F))
def YN {n:Nat} (x:Fx n) (b:Nat) (A:Nat->Option AF) (k:Nat) (f:AF) (F:ai) (w:G) (e:Ending) (w':G):Prop:=
 ∃ y:Nd,e = Z' (.tuple #[.agg (ints y.l),Z .i64 0])/\y.dr.length=16/\y.kd=f.kd/\y.lk=f.lk/\y.sz=f.sz/\aj w w'/\ag w' (dS x b A k*F)
def UI {n:Nat} (x:Fx n) (b:Nat) (A:Nat->Option AF) (k:Nat) (kd:Int) (F:ai) (w:G) (e:Ending) (w':G):Prop:=
 ∃ id:Nat,e = Z' (.tuple #[Z .i64 (id:Int),Z .i64 0])/\A id=U/\0<id/\id<n/\aj w w'/\ag w' (dS x b (dp A id (Y (jx kd))) (k-1)*F)
section
variable {S:Hp} {c:Int} {M':ik x.σ} {A':Nat->Option AF} {k':Nat} {e:Ending}
theorem Ms.ye {p:Rs Unit × ik x.σ} (h:Ms x.c b S (x.R S*F) w p e w') (t:p=(.ok (),M')) (j:Cf x M' A' k'):YE x b A' k' 0 F w e w':=by
 subst t;obtain ⟨S',o,d,r,u⟩:=h;exact ⟨r,d,ag.qK j (ag.ui o u)⟩
theorem Ms.no {p:Rs Unit × ik x.σ} (h:Ms x.c b S (x.R S*F) w p e w') (t:p=(.bad c,M')) (j:Cf x M' A' k'):YE x b A' k' c F w e w':=by
 subst t;obtain ⟨S',o,d,r,u⟩:=h;exact ⟨r,d,ag.qK j (ag.ui o u)⟩
end
variable (h:ag w (dS x b A k*F))
include h
theorem Tp {kd:Int} (z:kd=1\/kd=2) (hk:0<k):Calls W 71 #[fS b n,Z .i64 kd] w (UI (x.more 3) b A k kd F w):=by
 obtain ⟨M,o,h0⟩:=ag.mA h;obtain ⟨S,u⟩:=ag.oU h0;refine (QC x.c x.ok n x.h4 x.hn b M w S kd (x.R S*F) u).mono fun e w' r=>?_;rcases Px x.Ny (by have:=x.h4;omega) x.hn o.1 z with ⟨id,M1,j,r1,T,i1,-,t⟩|⟨s',-,h0,-⟩
 .rw [j] at r
  obtain ⟨S',v,d,y,L⟩:=r;exact ⟨id,y,r1,T,i1,d,ag.qK (x:=x.more 3) ⟨t,J2 ((J9 kd).run j) (Z2 o.2 3)⟩ (ag.ui (x:=x.more 3) v L)⟩
 .omega
theorem Sb {id:Nat} {f:AF} (u:A id=Y f):Calls W 38 #[fS b n,Z .i64 (id:Int)] w (YE (x.more 1) b (dp A id U) (k+bK f.pr) 0 F w):=by
 obtain ⟨M,o,h0⟩:=ag.mA h;obtain ⟨S,t⟩:=ag.oU h0;refine (Pm x.c x.ok n x.h4 x.hn b M w S id (x.R S*F) t).mono fun e w' v=>?_;obtain ⟨y,j,r⟩:=J8 x.Ny (by have:=x.h4;omega) x.hn o.1 u;exact v.ye (x:=x.more 1) j ⟨r,J2 ((Gf _).run j) (Z2 o.2 1)⟩
theorem EN {id:Nat} {f:AF} (v:A id=Y f) (j:Nat) (z:j<=122880):Calls W 60 #[fS b n,Z .i64 (id:Int),Z .i64 (j:Int)] w (YE (x.more 4) b (dp A id (Y (f.cut j))) (k+bK f.pr-bK (f.cut j).pr) 0 F w):=by
 obtain ⟨M,r,h0⟩:=ag.mA h;obtain ⟨S,u⟩:=ag.oU h0;refine (LH x.c x.ok n x.h4 x.hn b M w S id j (x.R S*F) u).mono fun e w' y=>?_;obtain ⟨L,o,t⟩:=G1 x.Ny (by have:=x.h4;omega) x.hn r.1 v j z;exact y.ye (x:=x.more 4) o ⟨t,J2 ((C5 _ _).run o) (Z2 r.2 4)⟩
theorem Mn {id:Nat} {f:AF} (hf:A id=Y f) (off j:Nat):Calls W 107 #[fS b n,Z .i64 (id:Int),Z .i64 (off:Int),Z .i64 (j:Int)] w (YB x b A k (f.sub off j) F w):=by
 obtain ⟨M,v,h0⟩:=ag.mA h;obtain ⟨S,z⟩:=ag.oU h0;refine (GL x.c x.ok n x.h4 x.hn b M w S id off j (x.R S*F) z).mono fun e w' y=>?_;obtain ⟨r,t,o⟩:=DH x.Ny (by have:=x.h4;omega) x.hn v.1 hf off j;have o:Cf x r A k:=⟨o,J2 ((yE _ _ _).run t) v.2⟩
 rw [t] at y;obtain ⟨S',u,T,d,he,hs⟩:=y;refine ⟨u,he,d,?_⟩;have L:=ag.qK o (ag.ui T (hs.to (by unfold gi;ac_rfl:_=cH x.c S' b r*(aq S'*(x.R S*(bs 5 u (f.sub off j)*F))))));exact L.ah
theorem EH {id:Nat} {f:AF} (hf:A id=Y f):Calls W 97 #[fS b n,Z .i64 (id:Int)] w (YN x b A k f F w):=by
 obtain ⟨M,r,h0⟩:=ag.mA h;obtain ⟨S,v⟩:=ag.oU h0;refine (N9 x.c x.ok n x.h4 x.hn b M w S id (x.R S*F) v).mono fun e w' t=>?_;obtain ⟨b0,u,o,y1,y2,y3,j⟩:=Mp x.Ny (by have:=x.h4;omega) x.hn r.1 hf;have j:Cf x u A k:=⟨j,J2 ((DC _).run o) r.2⟩
 rw [o] at t;obtain ⟨S',c0,L,d,T,hs⟩:=t;obtain ⟨⟨rfl,y⟩,z⟩:=ag.au.1 hs;exact ⟨b0,T,y,y1,y2,y3,d,ag.qK j (ag.ui L z)⟩
theorem FH {id:Nat} {f:AF} (y:A id=Y f) (d:Int) (h0:0<=wrap64 (f.lk+d)/\wrap64 (f.lk+d)<=65535):Calls W 37 #[fS b n,Z .i64 (id:Int),Z .i64 d] w (YE (x.more 3) b (dp A id (Y { f with lk:=wrap64 (f.lk+d) })) k 0 F w):=by
 obtain ⟨M,o,t⟩:=ag.mA h;obtain ⟨S,u⟩:=ag.oU t;refine (Lc x.c x.ok n x.h4 x.hn b M w S id d (x.R S*F) u).mono fun e w' z=>?_;rcases Gx x.Ny (by have:=x.h4;omega) x.hn o.1 y d with ⟨L,j,-,r⟩|⟨T,-,v,-⟩
 .exact z.ye (x:=x.more 3) j ⟨r,J2 ((Dy _ _).run j) (Z2 o.2 3)⟩
 .exact absurd h0 v
omit h
variable {D:ai} {va:Option Addr} {cap:Nat} {l:List UInt8}
theorem zu {id:Nat} {f:AF} (L:A id=Y f) (off:Nat) (y:∀ j P,ag j (D*P)->Rd j (J va l.length cap) l) (z:l.length<=cap) (T:l.length<=4096) (hm:off+l.length<=122880) (hk:bK (f.wr off l).pr<=k+bK f.pr) (h:ag w (dS x b A k*(D*F))) :
  Calls W 52 #[fS b n,Z .i64 (id:Int),Z .i64 (off:Int),J va l.length cap] w (YE (x.more (l.length/480+5)) b (dp A id (Y (f.wr off l))) (k+bK f.pr-bK (f.wr off l).pr) 0 (D*F) w):=by
 obtain ⟨M,r,h0⟩:=ag.mA h;obtain ⟨S,v⟩:=ag.oU h0;refine (wu x.c x.ok n x.h4 x.hn b M w S id off l va cap D y z (by omega) (x.R S*F) (v.to (by ac_rfl))).mono fun e w' t=>?_;rw [aG] at t;rcases sS x.Ny (by have:=x.h4;omega) x.hn r.1 L off l T hm with ⟨M1,o,-,u⟩|⟨s',-,h9,-⟩
 .exact t.ye (x:=x.more (l.length/480+5)) o ⟨u,J2 ((zg _ _ _).run o) (Z2 r.2 (l.length/480+5))⟩
 .omega
theorem Lv {id:Nat} {f:AF} (L:A id=Y f) (off:Nat) (y:∀ o P,ag o (D*P)->Rd o (J va l.length cap) l) (z:l.length<=cap) (T:l.length<=4096) (hm:off+l.length<=122880) (hk:k+bK f.pr<bK (f.wr off l).pr) (h:ag w (dS x b A k*(D*F))) :
  Calls W 52 #[fS b n,Z .i64 (id:Int),Z .i64 (off:Int),J va l.length cap] w (YE x b A k 7 (D*F) w):=by
 obtain ⟨M,t,h0⟩:=ag.mA h;obtain ⟨S,v⟩:=ag.oU h0;refine (wu x.c x.ok n x.h4 x.hn b M w S id off l va cap D y z (by omega) (x.R S*F) (v.to (by ac_rfl))).mono fun e w' u=>?_;rw [aG] at u;rcases sS x.Ny (by have:=x.h4;omega) x.hn t.1 L off l T hm with ⟨M1,r,h9,j⟩|⟨s',r,-,j⟩
 .omega
 .exact u.no r ⟨j,t.2⟩
end
theorem qm (w:G) (v:Value) (l:List UInt8) (h:Rd w v l):(convert 22 9 v).run W w = .ok (.string (str l)) w:=by
 have uq:∀ (l:List UInt8) (s:ByteArray),(l.map fun x=>(x.toNat:Int)).foldl (fun r n=>r.push (UInt8.ofNat n.toNat)) s=⟨s.data++l.toArray⟩:=by
  intro l
  induction l with
  | nil=>intro s;simp
  | cons a l t=>intro s;simp only [List.map_cons,List.foldl_cons,t];simp [ByteArray.push]
 obtain ⟨_,hr⟩:=h;rcases hr with ⟨rfl,h0⟩|⟨a,c,rfl,o⟩
 .have:l=[]:=List.eq_nil_of_length_eq_zero h0
  subst this;rw [run_convert_bytes_string w _ _ 5 U 0 0 underlying22 underlying5 underlying9]
  rfl
 .rw [run_convert_bytes_string w _ _ 5 (Y a) _ c underlying22 underlying5 underlying9]
  have j:=run_loadCells_list (P:=W) (w:=w) a (l.map u8) o;rw [U2] at j
  have:=run_bytesToString (P:=W) w a l.length c (l.map fun x=>(x.toNat:Int)) (by
   rw [j];simp [u8,Function.comp_def])
  rw [this,uq];simp [str]
end Go.Proofs.Fs

/- Steps. -/
import Derived.Test.YtebfaobobccikaaGreatDoorSP24
import Derived.DataElems
import Derived.Deep.RegionLaw
set_option linter.all false
set_option maxRecDepth 99999
set_option maxHeartbeats 0
open Go.SL
open Go.Value renaming int->Z,slice->J,pointer->O
open Go.Obj renaming cells->X
open Go.Ending renaming returned->Z'
open Go renaming World->G
open Go.Proofs.Tryz renaming prog->W
open Option renaming some->Y,none->U
open Bool renaming true->Q,false->H
open Go.Proofs.Tryz
open Nat renaming le_refl->D2,le_trans->K2,add_le_add_right->H3,zero_add->J4
open List renaming getD->E2,range->H2,replicate->L2,getElem?_eq_getElem->R2,getElem?_replicate->W2,length_take->X2,length_map->Y2,drop_left'->Z2,countP_append->B3,all_eq_true->D3,getElem_of_mem->G3,getElem?_take->J3,getElem?_drop->K3,append_assoc->L3,drop_drop->P3,countP_eq_zero->S3,length_drop->T3,length_append->W3,range_succ->X3,countP_cons->Y3,countP_congr->Z3,getElem?_append_left->K4,eq_replicate_iff->S4,getElem?_append_right->T4
open Int renaming toNat_natCast->J2
open Bool renaming and_eq_true->N2,or_eq_true->P2,or_true->L4
open Go.World renaming size_alloc->O2
namespace Go.SL
open RowKit
section
variable {σ:Type}
def qL (ask:cO σ) (n:Nat) (h:Hd) (i:Nat):WM σ (Hd × Int × List UInt8):=WM.bind (iZ ask n) fun b=>WM.pure (h.put i (b:Int),(b:Int),zs 480)
def nh (ask:cO σ) (n:Nat) (h:Hd) (i:Nat) (j:Bool):WM σ (Hd × Int × List UInt8):=fun st=>
 if h.aO i=0 then (if 16<=i/\h.n.rw=0 then (WM.bind (iZ ask n) fun r=>qL ask n (h.dK (r:Int)) i) st else qL ask n h i st)
 else if j=Q then (.ok (h,h.aO i,zs 480),st) else (WM.bind (de ask (h.aO i)) fun L=>WM.pure (h,h.aO i,L)) st
end
end Go.SL
namespace Go.Proofs.Fs
open RowKit SL Proofs.Ba
section
variable {σ α:Type}
def vm (x:Wk σ) (o:Nat) (S:Hp) (F:ai) (w:G):Rs (Hd × Int × List UInt8) × eP σ->Ending->G->Prop
 | (.ok p,j),e,w'=>∃ S' v,Ext S S'/\aj w w'/\p.2.2.length=480/\e = Z' (.tuple #[Z .i64 p.2.1,v])/\ag w' (bs 5 v p.2.2*(aR o p.1*(aG x S' j*(ak S'*F))))
 | (.bad c,j),e,w'=>∃ S' h',Ext S S'/\aj w w'/\e = .panicked (Ks c)/\ag w' (aR o h'*(aG x S' j*(ak S'*F)))
theorem od (x:Wk σ) (hc:x.c.Ok) (hn:x.n<=3840) (w:G) (S:Hp) (st:eP σ) (j:Nat) (h:Hd) (i:Nat) (wh:Bool) (F:ai) (hi:i<256) (hs:ag w (aR j h*(aG x S st*(ak S*F)))) :
  Calls W 105 #[O (Y ⟨x.k,0,U⟩),O (Y ⟨j,0,U⟩),Z .i64 (i:Int),.bool wh] w (vm x j S F w (nh x.c.ask x.n h i wh st)):=by
 refine aH fun r0 HQ=>?_;have d0:=oD w j h _ hs i hi;unfold MI at d0;have x0:(i:Int)<256:=by omega
 obtain ⟨l0,z⟩:∃ l0,nh x.c.ask x.n h i wh st=l0:=⟨_,rfl⟩
 rw [z] at HQ;have D0:∀ w,(Instr.makeSlice 22 (Z .i64 480) (Z .i64 480)).run W w = .ok (J (Y ⟨w.heap.size,0,U⟩) 480 480) (w.alloc (X (eA (zs 480)) 5 (0,0))):=fB 480 (by omega);have hf:=(ag.held.1 hs).1;have g0:w.cell? ⟨j,20,U⟩=Y (Z .i64 h.n.rw):=si hf (ag.held.1 hs).2;have Hs:=ae hs;have Hf:=ae hf;clear hs hf
 by_cases h0:h.aO i=0
 .rw [h0] at d0
  by_cases hr:16<=i/\h.n.rw=0
  .have y:(WM.bind (iZ x.c.ask x.n) fun e0=>qL x.c.ask x.n (h.dK (e0:Int)) i) st=l0:=((if_pos h0).trans (if_pos hr)).symm.trans z
   have o0:16<=(i:Int):=by omega
   have ht:=oL x hc hn w S st _ (Hs.out.to (by ac_rfl:_=aG x S st*(ak S*(aR j h*F))));obtain ⟨⟨r1,aS⟩,L⟩:∃ p,iZ x.c.ask x.n st=p:=⟨_,rfl⟩
   rw [L] at ht;rw [hr.2] at g0
   cases r1 with
   | bad cN=>
    have t:=ae ((WM.bk L).symm.trans y);clear z y h0 hr L
    go_enter func105,ntmps105
    go_wp2_with fail
    (with_reducible refine d0.mono ?_)
    rintro e w2 ⟨rfl,rfl⟩
    go_wp2_with fail
    (with_reducible refine ht.mono ?_)
    rintro e w2 ⟨S',hS,d2,rfl,h2⟩
    go_wp2_with fail
    exact ⟨rfl,HQ.out _ _ (by rw [<- t.out];exact ⟨S',h,hS,d2,rfl,h2.to (by ac_rfl)⟩)⟩
   | ok e0=>
    have t:=ae ((WM.bd L).symm.trans y);clear z y h0 hr L
    go_enter func105,ntmps105
    go_wp2_with fail
    (with_reducible refine d0.mono ?_)
    rintro e w2 ⟨rfl,rfl⟩
    go_wp2_with fail
    (with_reducible refine ht.mono ?_)
    rintro e w2 ⟨S',v,hS,d2,rfl,h2⟩;obtain ⟨rfl,h3⟩:=ag.aq.1 h2;have h4:=h3.to (by ac_rfl:_=aR j h*(aG x S' aS*(ak S'*F)));have s0:=(di h4 (j:=20) (by decide)).1;have u0:=(di h4 (j:=20) (by decide)).2;generalize h.l.getD 20 0=G0 at *;have h5:=kM (h':=h.dK (e0:Int)) h4 (j:=20) (z:=(e0:Int)) Hf.out (Hd.Gv Hf.out _);have d5:=d2.setCell ⟨j,20,U⟩ (Z .i64 (e0:Int));have f0:=oL x hc hn _ S' aS _ (h5.to (by ac_rfl:_=aG x S' aS*(ak S'*(aR j (h.dK (e0:Int))*F))));have c0:=ae f0;clear h2 h3 h4 ht f0 g0
    go_wp2_with fail
    generalize w2.setCell ⟨j,20,U⟩ (Z .i64 (e0:Int))=w3 at *;clear h5;refine c0.out.mono ?_;generalize h.dK (e0:Int)=hk at *;obtain ⟨⟨r6,k0⟩,r⟩:∃ p,iZ x.c.ask x.n aS=p:=⟨_,rfl⟩
    rw [r]
    cases r6 with
    | bad cN=>
     have T:=ae ((WM.bk r).symm.trans t.out);rintro e w6 ⟨o,b0,d6,rfl,u⟩;clear c0 r
     go_wp2_with fail
     exact ⟨rfl,HQ.out _ _ (by rw [<- T.out];exact ⟨o,hk,hS.trans b0,d5.trans d6,rfl,u.to (by ac_rfl)⟩)⟩
    | ok b=>
     have T:=ae ((WM.bd r).symm.trans t.out);rintro e w6 ⟨o,v6,b0,d6,rfl,u⟩;obtain ⟨rfl,h7⟩:=ag.aq.1 u;have i0:=rR w6 j hk _ (h7.to (by ac_rfl:_=aR j hk*(aG x o k0*(ak o*F)))) i hi (b:Int);clear c0 r u h7
     go_wp2_with fail
     (with_reducible refine i0.mono ?_)
     rintro e w7 ⟨rfl,h8,d8⟩
     go_wp2_with fail
     have hB:=pH 480 (by decide) h8.drew;have D9:=ae ((((d5.trans d6).trans d8).drew).alloc (X (eA (zs 480)) 5 (0,0)));have HB:=ae hB;clear h8 hB
     go_region_held3 (fun _=>True) (trivial) (fail)
     all_goals
      go_wp2_with fail
      exact HQ.out _ _ (by rw [<- T.out];exact ⟨o,_,hS.trans b0,D9.out,bq 480,rfl,HB.out⟩)
  .have y:qL x.c.ask x.n h i st=l0:=((if_pos h0).trans (if_neg hr)).symm.trans z
   have t:=ae y;have f0:=oL x hc hn w S st _ (Hs.out.to (by ac_rfl:_=aG x S st*(ak S*(aR j h*F))));have c0:=ae f0;obtain ⟨bb,m0⟩:∃ b,b=decide (16<=(i:Int)):=⟨_,rfl⟩
   cases bb with
   | false=>
    have o0:¬ 16<=(i:Int):=by simpa using m0
    clear z y h0 hr f0 m0
    go_enter func105,ntmps105
    go_wp2_with fail
    (with_reducible refine d0.mono ?_)
    rintro e w2 ⟨rfl,rfl⟩
    go_wp2_with fail
    refine c0.out.mono ?_;obtain ⟨⟨r6,k0⟩,r⟩:∃ p,iZ x.c.ask x.n st=p:=⟨_,rfl⟩
    rw [r]
    cases r6 with
    | bad cN=>
     have T:=ae ((WM.bk r).symm.trans t.out);rintro e w6 ⟨o,b0,d6,rfl,u⟩;clear c0 r
     go_wp2_with fail
     exact ⟨rfl,HQ.out _ _ (by rw [<- T.out];exact ⟨o,h,b0,d6,rfl,u.to (by ac_rfl)⟩)⟩
    | ok b=>
     have T:=ae ((WM.bd r).symm.trans t.out);rintro e w6 ⟨o,v6,b0,d6,rfl,u⟩;obtain ⟨rfl,h7⟩:=ag.aq.1 u;have i0:=rR w6 j h _ (h7.to (by ac_rfl:_=aR j h*(aG x o k0*(ak o*F)))) i hi (b:Int);clear c0 r u h7
     go_wp2_with fail
     (with_reducible refine i0.mono ?_)
     rintro e w7 ⟨rfl,h8,d8⟩
     go_wp2_with fail
     have hB:=pH 480 (by decide) h8.drew;have D9:=ae (((d6.trans d8).drew).alloc (X (eA (zs 480)) 5 (0,0)));have HB:=ae hB;clear h8 hB
     go_region_held3 (fun _=>True) (trivial) (fail)
     all_goals
      go_wp2_with fail
      exact HQ.out _ _ (by rw [<- T.out];exact ⟨o,_,b0,D9.out,bq 480,rfl,HB.out⟩)
   | true=>
    have o0:16<=(i:Int):=by simpa using m0
    have F0:(h.n.rw == 0)=H:=by simp only [beq_eq_false_iff_ne];intro h9;exact hr ⟨by omega,h9⟩
    clear z y h0 hr f0 m0;generalize h.n.rw=ze at *
    go_enter func105,ntmps105
    go_wp2_with fail
    (with_reducible refine d0.mono ?_)
    rintro e w2 ⟨rfl,rfl⟩
    go_wp2_with fail
    refine c0.out.mono ?_;obtain ⟨⟨r6,k0⟩,r⟩:∃ p,iZ x.c.ask x.n st=p:=⟨_,rfl⟩
    rw [r]
    cases r6 with
    | bad cN=>
     have T:=ae ((WM.bk r).symm.trans t.out);rintro e w6 ⟨o,b0,d6,rfl,u⟩;clear c0 r
     go_wp2_with fail
     exact ⟨rfl,HQ.out _ _ (by rw [<- T.out];exact ⟨o,h,b0,d6,rfl,u.to (by ac_rfl)⟩)⟩
    | ok b=>
     have T:=ae ((WM.bd r).symm.trans t.out);rintro e w6 ⟨o,v6,b0,d6,rfl,u⟩;obtain ⟨rfl,h7⟩:=ag.aq.1 u;have i0:=rR w6 j h _ (h7.to (by ac_rfl:_=aR j h*(aG x o k0*(ak o*F)))) i hi (b:Int);clear c0 r u h7
     go_wp2_with fail
     (with_reducible refine i0.mono ?_)
     rintro e w7 ⟨rfl,h8,d8⟩
     go_wp2_with fail
     have hB:=pH 480 (by decide) h8.drew;have D9:=ae (((d6.trans d8).drew).alloc (X (eA (zs 480)) 5 (0,0)));have HB:=ae hB;clear h8 hB
     go_region_held3 (fun _=>True) (trivial) (fail)
     all_goals
      go_wp2_with fail
      exact HQ.out _ _ (by rw [<- T.out];exact ⟨o,_,b0,D9.out,bq 480,rfl,HB.out⟩)
 .have h1:(h.aO i != 0)=Q:=by simpa using h0
  cases wh with
  | true=>
   have t:=ae (((if_neg h0).trans (if_pos rfl)).symm.trans z);have hB:=pH 480 (by decide) Hs.out.drew;have D9:=ae (((aj.refl w).drew).alloc (X (eA (zs 480)) 5 (0,0)));have HB:=ae hB;clear z h0 hB g0;generalize h.aO i=p0 at *
   go_enter func105,ntmps105
   go_wp2_with fail
   (with_reducible refine d0.mono ?_)
   rintro e w2 ⟨rfl,rfl⟩
   go_wp2_with fail
   go_region_held3 (fun _=>True) (trivial) (fail)
   all_goals
    go_wp2_with fail
    exact HQ.out _ _ (by rw [<- t.out];exact ⟨S,_,Ext.refl S,D9.out,bq 480,rfl,HB.out⟩)
  | false=>
   have y:=((if_neg h0).trans (if_neg (by decide))).symm.trans z;have n0:=lT x hc w S st (h.aO i) _ (Hs.out.to (by ac_rfl:_=aG x S st*(ak S*(aR j h*F))));obtain ⟨⟨r1,aS⟩,L⟩:∃ p,de x.c.ask (h.aO i) st=p:=⟨_,rfl⟩
   rw [L] at n0
   cases r1 with
   | bad cN=>
    have t:=ae ((WM.bk L).symm.trans y);clear z y h0 L g0;generalize h.aO i=p0 at *
    go_enter func105,ntmps105
    go_wp2_with fail
    (with_reducible refine d0.mono ?_)
    rintro e w2 ⟨rfl,rfl⟩
    go_wp2_with fail
    (with_reducible refine n0.mono ?_)
    rintro e w2 ⟨S',hS,d2,rfl,h2⟩
    go_wp2_with fail
    exact ⟨rfl,HQ.out _ _ (by rw [<- t.out];exact ⟨S',h,hS,d2,rfl,h2.to (by ac_rfl)⟩)⟩
   | ok q0=>
    have t:=ae ((WM.bd L).symm.trans y);have HL:=ae (ji L);clear z y h0 L g0;generalize h.aO i=p0 at *
    go_enter func105,ntmps105
    go_wp2_with fail
    (with_reducible refine d0.mono ?_)
    rintro e w2 ⟨rfl,rfl⟩
    go_wp2_with fail
    (with_reducible refine n0.mono ?_)
    rintro e w2 ⟨S',v,hS,d2,rfl,h2⟩;unfold gw at h2;have h3:=ae (h2.to (by ac_rfl:_=bs 5 v q0*(aR j h*(aG x S' aS*(ak S'*F)))));obtain ⟨va,vc,rfl⟩:=aF h2;clear h2 n0
    go_wp2_with fail
    exact HQ.out _ _ (by rw [<- t.out];exact ⟨S',_,hS,d2,HL.out,rfl,h3.out⟩)
end
end Go.Proofs.Fs
namespace Go.SL
open RowKit
section
variable {σ:Type}
def zu (f:Nat->Hd->WM σ Hd) (done off l:Nat) (d:List UInt8) (p:Hd × Int × List UInt8):WM σ Hd:=
 WM.bind (bQ p.2.1 (putAt p.2.2 ((off+done)%480) ((d.drop done).take l))) fun _=>f (done+l) p.1
def yF (ask:cO σ) (n off:Nat) (d:List UInt8):Nat->Nat->Hd->WM σ Hd
 | 0,_,h=>WM.pure h
 | f+1,done,h=>fun st=>
  if done<d.length then (WM.bind (nh ask n h ((off+done)/480) (iU (d.length-done) (off+done) == 480)) (zu (yF ask n off d f) done off (iU (d.length-done) (off+done)) d)) st else (.ok h,st)
def IB (off:Nat) (d:List UInt8) (h:Hd):WM σ Unit:=ez (h.cR (max h.n.sz ((off+d.length:Nat):Int)))
def Gp (ask:cO σ) (n:Nat) (off:Int) (d:List UInt8) (h:Hd):WM σ Unit:=fun st=>
 if 0<=off/\d.length<=4096/\off<=122880-d.length then (if d.length=0 then (.ok (),st) else (WM.bind (yF ask n off.toNat d d.length 0 h) (IB off.toNat d)) st) else (.bad 1,st)
def gP (ask:cO σ) (n:Nat) (node off:Int) (d:List UInt8):WM σ Unit:=WM.bind (gv ask n node) (Gp ask n off d)
theorem pY {α β:Type} {m j:WM σ α} {k:α->WM σ β} {st o:eP σ} (h:m st=j o):(WM.bind m k) st=(WM.bind j k) o:=by unfold WM.bind;rw [h]
theorem PQ {ask:cO σ} {h:Hd} {n off f done:Nat} {d:List UInt8} (j:d.length<=done) (st:eP σ):yF ask n off d f done h st=(.ok h,st):=by
 cases f with
 | zero=>rfl
 | succ f=>exact if_neg (by omega)
theorem Vq {ask:cO σ} {h:Hd} {n off f done:Nat} {d:List UInt8} (o:done<d.length) {st j:eP σ} {c:Int}
  (hr:nh ask n h ((off+done)/480) (iU (d.length-done) (off+done) == 480) st=(.bad c,j)):yF ask n off d (f+1) done h st=(.bad c,j):=(if_pos o).trans (WM.bk hr)
theorem Vd {ask:cO σ} {h:Hd} {n off f done:Nat} {d:List UInt8} (o:done<d.length) {st j:eP σ} {p:Hd × Int × List UInt8}
  (hr:nh ask n h ((off+done)/480) (iU (d.length-done) (off+done) == 480) st=(.ok p,j)):yF ask n off d (f+1) done h st=zu (yF ask n off d f) done off (iU (d.length-done) (off+done)) d p j:=(if_pos o).trans (WM.bd hr)
end
end Go.SL
namespace Go.Proofs.Fs
open RowKit SL Proofs.Ba
section
variable {σ α:Type}
def OT (b:Nat) (v:Value):ai:=pt b (X #[v] 22 (0,0))
def Vf (x:Wk σ) (r off:Nat) (d:List UInt8) (S:Hp) (F:ai) (w:G) (T:Rs Unit × eP σ) (u:Value) (wr:G):Prop:=
 ∃ (done f:Nat) (h:Hd) (o:eP σ) (j:Hp),done<=d.length/\d.length-done<=f/\u = Z .i64 (done:Int)/\(WM.bind (yF x.c.ask x.n off d f done h) (IB off d)) o=T/\Ext S j/\aj w wr /\
  ag wr (aR r h*(aG x j o*(ak j*F)))
theorem BR {c:Cx σ} (hc:c.Ok) {n:Nat} (hn:n<=3840) (node off:Int) (l:List UInt8) (va:Option Addr) (cap:Nat) (D:ai) (hD:∀ u P,ag u (D*P)->Rd u (J va l.length cap) l) (r1:l.length<=cap) (q1:l.length<=1000000000000) (nb ob db:Nat) :
  DE c n 104 #[O (Y ⟨nb,0,U⟩),O (Y ⟨ob,0,U⟩),O (Y ⟨db,0,U⟩)] jA (bp nb node*(bp ob off*(OT db (J va l.length cap)*D))) (gP c.ask n node off l):=by
 intro x w S st F x1 y1 h;subst x1 y1;have cn:w.cell? ⟨nb,0,U⟩=Y (Z .i64 node):=(h.to (by ac_rfl:_=bp nb node*((bp ob off*(OT db (J va l.length cap)*D))*(aG x S st*(ak S*F))))).cell 0;show Calls W 104 #[O (Y ⟨x.k,0,U⟩),O (Y ⟨nb,0,U⟩),O (Y ⟨ob,0,U⟩),O (Y ⟨db,0,U⟩)] w _
 refine aH fun K1 HQ=>?_;have hl:=km x hc w S st node _ h;obtain ⟨⟨r,aS⟩,hp⟩:∃ p,gv x.c.ask x.n node st=p:=⟨_,rfl⟩
 rw [hp] at hl;clear h;obtain ⟨z,hG⟩:∃ z,z=bp nb node*(bp ob off*(OT db (J va l.length cap)*D))*F:=⟨_,rfl⟩
 rw [<- hG] at hl HQ;have HG:=ae hG
 cases r with
 | bad cN=>
  have HE:=ae (show gP x.c.ask x.n node off l st=(.bad cN,aS) from WM.bk hp);clear hp hG
  go_enter func104,ntmps104
  go_wp2_with fail
  (with_reducible refine hl.mono ?_)
  rintro e w2 ⟨S',hS,d2,rfl,h2⟩
  go_wp2_with fail
  exact ⟨rfl,HQ.out _ _ (by rw [HE.out];exact ⟨S',hS,d2,rfl,h2⟩)⟩
 | ok hh=>
  obtain ⟨c0,hT⟩:∃ c0,Gp x.c.ask x.n off l hh aS=c0:=⟨_,rfl⟩
  have HE:=ae (show gP x.c.ask x.n node off l st=c0 from (WM.bd hp).trans hT);have HT:=ae hT;clear hp hG hT
  have sO:∀ u P,ag u (P*z)->u.cell? ⟨ob,0,U⟩=Y (Z .i64 off):=fun u P hW=>by
   rw [HG.out] at hW;exact (hW.to (by ac_rfl:_=bp ob off*(bp nb node*(OT db (J va l.length cap)*(D*(F*P)))))).cell 0
  have sB:∀ u P,ag u (P*z)->u.cell? ⟨db,0,U⟩=Y (J va l.length cap):=fun u P hW=>by
   rw [HG.out] at hW;exact (hW.to (by ac_rfl:_=OT db (J va l.length cap)*(bp nb node*(bp ob off*(D*(F*P)))))).cell 0
  have sR:∀ u P,ag u (P*z)->Rd u (J va l.length cap) l:=fun u P hW=>by
   rw [HG.out] at hW;exact hD u _ (hW.to (by ac_rfl:_=D*(OT db (J va l.length cap)*(bp nb node*(bp ob off*(F*P))))))
  have SO:=ae sO;have SB:=ae sB;have SR:=ae sR;clear sO sB sR;have e1:Hid (∃ m,l.length=m):=⟨_,rfl⟩
  obtain ⟨m,hm⟩:=e1.out;rw [hm] at SB SR r1 q1;have y:=ae hm;clear hm e1 hD
  go_enter func104,ntmps104
  go_wp2_with fail
  (with_reducible refine hl.mono ?_)
  rintro e w2 ⟨S',v,hS,d2,rfl,h2⟩;obtain ⟨j,rfl,h3⟩:=ag.qi h2;have h4:ag w2 (aR j hh*(aG x S' aS*(ak S'*z))):=h3.to (by ac_rfl);have co:=SO.out w2 (aR j hh*(aG x S' aS*ak S')) (h4.to (by ac_rfl));have cb:=SB.out w2 (aR j hh*(aG x S' aS*ak S')) (h4.to (by ac_rfl));have H4:=ae h4;clear h2 h3 hl cn h4;have L1:(m:Int)<=1000000000000:=by omega
  by_cases T:0<=off/\l.length<=4096/\off<=122880-(l.length:Int)
  .obtain ⟨z0,z1,z2⟩:=T
   obtain ⟨o,rfl⟩:∃ o:Nat,off=(o:Int):=⟨off.toNat,by omega⟩
   by_cases h0:m=0
   .subst h0
    have e0:Hid (c0=(.ok (),aS)):=by rw [<- HT.out];exact (if_pos ⟨z0,z1,z2⟩).trans (if_pos y.out)
    rw [y.out] at z2;have z3:(o:Int)<=122880:=by omega
    clear z1 z2 HT
    go_wp2_with fail
    (with_reducible refine (gO w2).mono ?_)
    rintro e w3 ⟨rfl,rfl⟩
    go_wp2_with fail
    go_end0
    exact HQ.out _ _ (by rw [HE.out,e0.out];exact ⟨S',_,hS,d2,rfl,ag.aq.2 ⟨rfl,(H4.out).right⟩⟩)
   .have i1:(WM.bind (yF x.c.ask x.n o l l.length 0 hh) (IB o l)) aS=c0:=by
     rw [<- HT.out];exact ((if_pos ⟨z0,z1,z2⟩).trans (if_neg (by rw [y.out];exact h0))).symm
    have e0:=ae i1;rw [y.out] at z1 z2;have b2:(m:Int)<=4096:=by omega
    have c2:(o:Int)+(m:Int)<=122880:=by omega
    have z3:(o:Int)<=122880-(m:Int):=by omega
    have R1:((m:Int) == 0)=H:=by simpa using h0
    clear i1 HT z2
    go_wp2_with fail
    (with_reducible refine (gO w2).mono ?_)
    rintro e w3 ⟨rfl,rfl⟩;have S1:(m:Int)≠0:=by omega
    clear co cb;have cb:w2.cell? ⟨db,0,U⟩=Y (J va m cap):=SB.out w2 (aR j hh*(aG x S' aS*ak S')) (H4.out.to (by ac_rfl))
    go_wp2_with fail
    clear cb
    go_loopw [6] (fun G0 wr=>Vf x j o l S z w c0 G0 wr) (fun G0 _=>m-(intOf G0).toNat)
    case atStart=>exact ⟨0,l.length,hh,aS,S',Nat.zero_le _,D2 _,rfl,e0.out,hS,d2,H4.out⟩
    case round=>
     obtain ⟨done,f,h,d0,Sk,s1,hf,rfl,j1,h1,dk,f0⟩:=hrel;have H0:=ae j1;have o0:=ae h1;clear H4 e0 j1 h1;rw [y.out] at s1 hf;have co:=SO.out wr (aR j h*(aG x Sk d0*ak Sk)) (f0.to (by ac_rfl));have cb:=SB.out wr (aR j h*(aG x Sk d0*ak Sk)) (f0.to (by ac_rfl))
     by_cases u1:done<m
     .have v1:(done:Int)<(m:Int):=by omega
      obtain ⟨f',rfl⟩:∃ f',f=f'+1:=⟨f-1,by omega⟩
      have hA:done<l.length:=by rw [y.out];exact u1
      obtain ⟨k,hk⟩:∃ k,iU (l.length-done) (o+done)=k:=⟨_,rfl⟩
      have S0:k=min (m-done) (480-(o+done)%480):=by rw [<- hk,y.out];rfl
      obtain ⟨q,hq⟩:∃ q,(o+done)/480=q:=⟨_,rfl⟩
      obtain ⟨r,hr⟩:∃ r,(o+done)%480=r:=⟨_,rfl⟩
      have w1:q<256:=by omega
      have V1:r<480:=by omega
      rw [hr] at S0;have M1:1<=k:=by omega
      have N1:done+k<=m:=by omega
      have O1:r+k<=480:=by omega
      have U1:((o:Int)+(done:Int)).tdiv 480=(q:Int):=by rw [Int.tdiv_eq_ediv_of_nonneg (by omega)];omega
      have W1:((o:Int)+(done:Int)).tmod 480=(r:Int):=by rw [Int.tmod_eq_emod_of_nonneg (by omega)];omega
      have T1:(if (480:Int)-(r:Int)<((m-done:Nat):Int) then (480:Int)-(r:Int) else ((m-done:Nat):Int))=(k:Int):=by split <;> omega
      have X1:(m:Int)-(done:Int)=((m-done:Nat):Int):=by omega
      have s0:=od x hc hn wr Sk d0 j h q (k == 480) z w1 f0;obtain ⟨⟨r2,k0⟩,x0⟩:∃ p,nh x.c.ask x.n h q (k == 480) d0=p:=⟨_,rfl⟩
      rw [x0] at s0;have g0:nh x.c.ask x.n h ((o+done)/480) (iU (l.length-done) (o+done) == 480) d0=(r2,k0):=by rw [hq,hk];exact x0
      have X0:((k:Int) == 480)=(k == 480):=by
       by_cases h9:k=480
       .subst h9;rfl
       .rw [beq_eq_false_iff_ne.2 h9,beq_eq_false_iff_ne.2 (by omega)]
      have u0:=s0;rw [<- X0] at u0
      cases r2 with
      | bad cN=>
       have HN:=ae ((WM.bk (Vq hA g0)).symm.trans H0.out);clear x0 g0 S0 hq hr hk s0 X0
       go_wp2_with fail
       (with_reducible refine u0.mono ?_)
       rintro e w4 ⟨S2,h',q0,d4,rfl,h6⟩
       go_wp2_with fail
       exact ⟨rfl,HQ.out _ _ (by rw [HE.out,<- HN.out];exact ⟨S2,o0.out.trans q0,dk.trans d4,rfl,h6.right⟩)⟩
      | ok p=>
       obtain ⟨h',b,L⟩:=p
       have n0:=ae (show (WM.bind (zu (yF x.c.ask x.n o l f') done o k l (h',b,L)) (IB o l)) k0=c0 from by
        rw [<- hk];exact (pY (Vd hA g0)).symm.trans H0.out)
       clear x0 g0 S0 hq hk s0 X0
       go_wp2_with fail
       (with_reducible refine u0.mono ?_)
       rintro e w4 ⟨S2,v4,q0,d4,hL,rfl,h6⟩;dsimp only at hL h6 ⊢;have HL:=ae hL;obtain ⟨ga,ca,K0,rfl,a1,a2,a3,a4,a5,a6⟩:=pG h6 (by rw [hL];decide);have rd:=(SR.out w4 (bs 5 (J (Y ⟨ga,0,U⟩) L.length ca) L*(aR j h'*(aG x S2 k0*ak S2))) (h6.to (by ac_rfl)))
       obtain ⟨-,(⟨-,h9⟩|⟨D1,c',e,ha⟩)⟩:=rd
       .exact absurd h9 (by rw [y.out];omega)
       simp only [Value.slice.injEq] at e;obtain ⟨rfl,-,rfl⟩:=e;obtain ⟨part,D0⟩:∃ part,(l.drop done).take k=part:=⟨_,rfl⟩
       have i0:part.length=k:=by rw [<- D0,X2,T3,y.out];omega
       have h7:=(a6 r part (by rw [i0,hL];omega)).1
       have r0:=fun ty=>run_copy_row (P:=W) w4 22 22 ty 5 ga r (480-r) (ca-r) (D1.add done) k (cap-done) K0 5 (part.map SL.u8) underlying22 Bp a4
        (by rw [Y2,i0];exact (Nat.min_eq_left (by omega)).symm)
        (fun m1 v hv=>by
         have hj:m1<k:=by rw [<- i0];simpa using (List.getElem?_eq_some_iff.1 hv).1
         rw [Addr.add_add];refine ha (done+m1) v ?_;rw [<- hv,<- D0,List.getElem?_map,List.getElem?_map,J3,if_pos hj,K3])
        (by rw [Y2,i0,a3];omega) (s6 _)
       rw [Y2,i0] at r0;obtain ⟨RW,p0⟩:∃ RW,RW=(K0.toList.take r++part.map SL.u8++K0.toList.drop (r+(part.map SL.u8).length)).toArray:=⟨_,rfl⟩
       rw [<- p0] at h7;rw [Y2,i0] at p0;rw [<- p0] at r0;have d1:=ae r0;have k1:=h7.oI;have m0:=mE x _ S2 k0 b _ (putAt L r part) _ (h7.to (by ac_rfl:_=aG x S2 k0*(ak S2*(bs 5 (J (Y ⟨ga,0,U⟩) L.length ca) (putAt L r part)*(aR j h'*z))))) k1;obtain ⟨⟨r3,Z0⟩,g0⟩:∃ p,bQ b (putAt L r part) k0=p:=⟨_,rfl⟩
       have hK:∀ p,bQ b (putAt L r part) k0=p->zu (yF x.c.ask x.n o l f') done o k l (h',b,L) k0=match p with|(.ok _,Y0)=>yF x.c.ask x.n o l f' (done+k) h' Y0|(.bad c,Y0)=>(.bad c,Y0):=by
        intro p hp;unfold zu WM.bind;dsimp only;rw [hr,D0,hp]
        cases p with
        | mk a c=>cases a <;> rfl
       have g1:=hK _ g0;rw [g0] at m0;have t1:(putAt L r part).length=480:=by rw [gF (by rw [i0,HL.out];omega)];exact HL.out
       rw [HL.out] at m0 a1 ⊢;have n1:=ae m0;have D5:=ae ((dk.trans d4).setRow ga RW);clear u0 h6 h7 r0 p0 k1 m0 ha a2 a3 a4 a5 a6 hK g0 hL i0 D0 hr t1 cb
       go_wp2_with (refine fH (d1.out _) _ _ rfl rfl rfl rfl rfl ?_)
       generalize w4.setRow ga RW=w5 at *;clear d1;refine n1.out.mono ?_
       cases r3 with
       | bad cN=>
        have HN:=ae ((WM.bk g1).symm.trans n0.out);rintro e w6 ⟨t,l0,d6,rfl,h8⟩
        go_wp2_with fail
        exact ⟨rfl,HQ.out _ _ (by rw [HE.out,<- HN.out];exact ⟨t,(o0.out.trans q0).trans l0,D5.out.trans d6,rfl,(h8.to (by ac_rfl:_=(bs 5 (J (Y ⟨ga,0,U⟩) 480 ca) (putAt L r part)*aR j h')*(aG x t Z0*(ak t*z)))).right⟩)⟩
       | ok G0=>
        have HN:=ae ((pY g1).symm.trans n0.out);rintro e w6 ⟨t,v6,l0,d6,rfl,h8⟩;obtain ⟨rfl,h9⟩:=ag.aq.1 h8;clear h8
        go_wp2_with fail
        go_roundw
        case rel=>exact ⟨done+k,f',h',Z0,t,by rw [y.out];omega,by rw [y.out];omega,by go_num,HN.out,(o0.out.trans q0).trans l0,D5.out.trans d6,(h9.to (by ac_rfl:_=bs 5 (J (Y ⟨ga,0,U⟩) 480 ca) (putAt L r part)*(aR j h'*(aG x t Z0*(ak t*z))))).right⟩
        case measure=>simp [intOf];omega
     .obtain rfl:done=m:=by omega
      have n0:=ae (show IB o l h d0=c0 from (WM.bd (PQ (by rw [y.out];exact D2 _) d0)).symm.trans H0.out);have hf:=ag.Aq f0;have c3:=(di f0 (j:=3) (by decide)).1;have f3:=(di f0 (j:=3) (by decide)).2;rw [show h.l.getD 3 0=h.n.sz from rfl] at c3;obtain ⟨b0,T⟩:∃ b0,max h.n.sz ((o+l.length:Nat):Int)=b0:=⟨_,rfl⟩
      have L0:=(kM (h':=h.cR b0) f0 (j:=3) (z:=b0) hf rfl).drew;have c1:=ae (dk.setCell ⟨j,3,U⟩ (Z .i64 b0)).drew;have W0:=kn x _ Sk d0 j (h.cR b0) _ L0;obtain ⟨⟨r6,b1⟩,T0⟩:∃ p,ez (h.cR b0) d0=p:=⟨_,rfl⟩
      rw [T0] at W0;have HN:=ae (show (r6,b1)=c0 by rw [<- n0.out,<- T0,<- T];rfl);have m0:IntKind.i64.wrap ((o:Int)+(done:Int))=(o:Int)+(done:Int):=by rw [IntKind.wrap_i64];omega
      have F0:(if h.n.sz<IntKind.i64.wrap ((o:Int)+(done:Int)) then IntKind.i64.wrap ((o:Int)+(done:Int)) else h.n.sz)=b0:=by rw [m0,<- T,y.out];split <;> omega
      have o1:=ae F0;have f1:=ae W0;have H1:=ae L0;have v1:¬ (done:Int)<(done:Int):=by omega
      clear hf L0 W0 T0 T f0 n0 m0 F0;generalize h.n.sz=sz at *
      go_wp2_with fail
      go_region_law (fail)
      all_goals
       rw [o1.out];generalize (wr.setCell ⟨j,3,U⟩ (Z .i64 b0)).drew=Z1 at *
       cases r6 with
       | bad cN=>
        go_wp2_with fail
        refine f1.out.mono ?_;rintro e E1 ⟨t,l0,d6,rfl,R0⟩
        go_wp2_with fail
        exact ⟨rfl,HQ.out _ _ (by rw [HE.out,<- HN.out];exact ⟨t,o0.out.trans l0,c1.out.trans d6,rfl,(R0.to (by ac_rfl:_=aR j (h.cR b0)*(aG x t b1*(ak t*z)))).right⟩)⟩
       | ok u6=>
        go_wp2_with fail
        refine f1.out.mono ?_;rintro e E1 ⟨t,v6,l0,d6,rfl,R0⟩;obtain ⟨rfl,p1⟩:=ag.aq.1 R0
        go_wp2_with fail
        go_end0
        exact HQ.out _ _ (by rw [HE.out,<- HN.out];exact ⟨t,_,o0.out.trans l0,c1.out.trans d6,rfl,ag.aq.2 ⟨rfl,(p1.to (by ac_rfl:_=aR j (h.cR b0)*(aG x t b1*(ak t*z)))).right⟩⟩)
  .have hT:c0=(.bad 1,aS):=by rw [<- HT.out];exact if_neg T
   have e0:=ae hT;rw [y.out] at T;clear hT HT
   by_cases A1:0<=off
   .by_cases F0:(m:Int)<=4096
    .have l1:¬ off<=122880-(m:Int):=fun h9=>T ⟨A1,by omega,h9⟩
     have Y1:decide (off<=122880-(m:Int))=H:=decide_eq_false l1;clear T l1
     go_wp2_with fail
     (with_reducible refine (gX w2).mono ?_)
     rintro e w4 ⟨rfl,rfl⟩
     go_wp2_with fail
     exact ⟨rfl,HQ.out _ _ (by rw [HE.out,e0.out];exact ⟨S',hS,d2,rfl,H4.out.right⟩)⟩
    .clear T
     go_wp2_with fail
     (with_reducible refine (gX w2).mono ?_)
     rintro e w4 ⟨rfl,rfl⟩
     go_wp2_with fail
     exact ⟨rfl,HQ.out _ _ (by rw [HE.out,e0.out];exact ⟨S',hS,d2,rfl,H4.out.right⟩)⟩
   .have F0:off<0:=by omega
    clear T
    go_wp2_with fail
    (with_reducible refine (gX w2).mono ?_)
    rintro e w4 ⟨rfl,rfl⟩
    go_wp2_with fail
    exact ⟨rfl,HQ.out _ _ (by rw [HE.out,e0.out];exact ⟨S',hS,d2,rfl,H4.out.right⟩)⟩
end
section
variable {σ α:Type}
abbrev cP (j n:Nat):Obj:=X #[O (Y ⟨j,0,U⟩),Z .i64 (n:Int)] 72 (0,0)
def PH:Value:=.agg #[Z .i64 0,Z .i64 0,Z .i64 0,Z .i64 0,Z .i64 0,Z .i64 0,Z .i64 0,Z .i64 0,Z .i64 0,Z .i64 0,Z .i64 0,Z .i64 0,Z .i64 0,Z .i64 0,Z .i64 0,Z .i64 0,Z .i64 0,Z .i64 0,Z .i64 0,Z .i64 0]
def V8:Rs Nat->Value
 | .ok a=>Z .i64 (a:Int)
 | .bad _=>Z .i64 0
def VY (c:Cx σ) (j:Nat) (S:Hp) (F:ai) (w:G) (p:Rs Nat × gZ σ) (e:Ending) (w':G):Prop:=
 ∃ S',Ext S S'/\aj w w'/\e = Z' (.tuple #[V8 p.1,Z .i64 p.1.code])/\ag w' (cI c S' j p.2*(ak S'*F))
theorem JU (c:Cx σ) (T:c.Ok) (n:Nat) (d0:4<=n) (e0:n<=3840) (j:Nat) (M:gZ σ) (w:G) (S:Hp)  (F:ai) (h:ag w (cI c S j M*(ak S*(F)))) :
  Calls W 67 #[fV j n] w (OF c j S F w (ed (jy c.ask) M)):=by
 refine aH fun f0 u=>?_;obtain ⟨p,hp⟩:∃ p,ed (jy c.ask) M=p:=⟨_,rfl⟩
 rw [hp] at u;have g0:=nB W;have r:=fun  w F h=>wS c T n d0 e0 124 #[] (emp) (jy c.ask) (fun c0 w=>enters func124 (by kernel_rfl) rfl c0 w) (EC T) j M w S F h;rw [hp] at r;have v:=ae r;have z:=(h.alloc (cP j n))
 have dA:=((aj.refl w).alloc (cP j n))
 have L:ag (w.alloc (cP j n)) (cI c S j M*(ak S*((emp)*(pt w.heap.size (cP j n)*F)))):=(ag.kC z).to (by unfold cP;ac_rfl);have t:=ae L;clear z L r h;unfold fV
 go_enter func67,ntmps67
 go_wp2_with fail
 refine v.out _ _ t.out _ ?_;clear v t;generalize i0:(w.alloc (cP j n))=w1 at *;generalize w.heap.size=b0 at *;rintro e w2 ⟨o,hS,d2,rfl,y⟩;have h3:=ae (y.to (by ac_rfl:_=((emp*pt b0 (cP j n)))*(cI c o j p.2*(ak o*F)))).right;clear y
 go_wp2_with fail
 try go_ret
 exact u.out _ _ ⟨o,hS,dA.trans d2,rfl,h3.out⟩
theorem Qp (c:Cx σ) (hc:c.Ok) (n:Nat) (f0:4<=n) (d0:n<=3840) (j:Nat) (M:gZ σ) (w:G) (S:Hp)  (F:ai) (h:ag w (cI c S j M*(ak S*(F)))) :
  Calls W 44 #[fV j n] w (VY c j S F w (ed (qe c.ask n) M)):=by
 refine aH fun i0 t=>?_;obtain ⟨p,hp⟩:∃ p,ed (qe c.ask n) M=p:=⟨_,rfl⟩
 rw [hp] at t;have k0:=nB W;have L:=fun  w F h=>CO c hc n f0 d0 99 #[] (emp) (qe c.ask n) (fun e0 w=>enters func99 (by kernel_rfl) rfl e0 w) (Ot hc d0) j M w S F h;rw [hp] at L;have c0:=ae L;have hA:=(h.alloc (cP j n))
 have dA:=((aj.refl w).alloc (cP j n))
 have hB:ag (w.alloc (cP j n)) (cI c S j M*(ak S*((emp)*(pt w.heap.size (cP j n)*F)))):=(ag.kC hA).to (by unfold cP;ac_rfl);have T:=ae hB;clear hA hB L h;unfold fV
 go_enter func44,ntmps44
 go_wp2_with fail
 refine c0.out _ _ T.out _ ?_;clear c0 T;generalize l0:(w.alloc (cP j n))=w1 at *;generalize w.heap.size=b0 at *;obtain ⟨g0,M2⟩:=p
 cases g0 with
 | bad cN=>
  rintro e w2 ⟨o,z,u,rfl,r⟩;have y:=ae (r.to (by ac_rfl:_=((emp*pt b0 (cP j n)))*(cI c o j M2*(ak o*F)))).right;clear r
  go_wp2_with fail
  try go_ret
  exact t.out _ _ ⟨o,z,dA.trans u,rfl,y.out⟩
 | ok a=>
  rintro e w2 ⟨o,v,z,u,rfl,r⟩;have y:=ae (r.to (by ac_rfl:_=((emp*pt b0 (cP j n)))*(FQ a v*(cI c o j M2*(ak o*F))))).right;clear r;obtain ⟨rfl,h4⟩:=ag.aq.1 y.out
  go_wp2_with fail
  try go_ret
  exact t.out _ _ ⟨o,z,dA.trans u,rfl,h4⟩
theorem Tw (c:Cx σ) (hc:c.Ok) (n:Nat) (g0:4<=n) (e0:n<=3840) (j:Nat) (M:gZ σ) (w:G) (S:Hp) (kd:Int) (F:ai) (h:ag w (cI c S j M*(ak S*(F)))) :
  Calls W 71 #[fV j n,Z .i64 kd] w (VY c j S F w (ed (xH c.ask n kd) M)):=by
 refine aH fun k0 t=>?_;obtain ⟨p,hp⟩:∃ p,ed (xH c.ask n kd) M=p:=⟨_,rfl⟩
 rw [hp] at t;have l0:=nB W;have T:=fun c0 w F h=>CO c hc n g0 e0 128 #[O (Y ⟨c0,0,U⟩)] (bp c0 kd) (xH c.ask n kd) (fun f0 w=>enters func128 (by kernel_rfl) rfl f0 w) (Qt hc e0 kd c0) j M w S F h;rw [hp] at T;have d0:=ae T;have z:=((h.alloc (cP j n)).alloc (X #[Z .i64 kd] 3 (0,0)))
 have dA:=(((aj.refl w).alloc (cP j n)).alloc (X #[Z .i64 kd] 3 (0,0)))
 simp only [O2] at z;have hB:ag ((w.alloc (cP j n)).alloc (X #[Z .i64 kd] 3 (0,0))) (cI c S j M*(ak S*((bp (w.heap.size+1) kd)*(pt w.heap.size (cP j n)*F)))):=z.to (by unfold bp;ac_rfl);have HB:=ae hB;clear z hB T h;unfold fV
 go_enter func71,ntmps71
 go_wp2_with fail
 refine d0.out (w.heap.size+1) _ _ HB.out _ ?_;clear d0 HB;generalize m0:((w.alloc (cP j n)).alloc (X #[Z .i64 kd] 3 (0,0)))=w1 at *;generalize w.heap.size+1=b1 at *;generalize w.heap.size=b0 at *;obtain ⟨i0,M2⟩:=p
 cases i0 with
 | bad cN=>
  rintro e w2 ⟨o,L,u,rfl,r⟩;have y:=ae (r.to (by ac_rfl:_=(pt b0 (cP j n)*bp b1 kd)*(cI c o j M2*(ak o*F)))).right;clear r
  go_wp2_with fail
  try go_ret
  exact t.out _ _ ⟨o,L,dA.trans u,rfl,y.out⟩
 | ok a=>
  rintro e w2 ⟨o,v,L,u,rfl,r⟩;have y:=ae (r.to (by ac_rfl:_=(pt b0 (cP j n)*bp b1 kd)*(FQ a v*(cI c o j M2*(ak o*F))))).right;clear r;obtain ⟨rfl,h4⟩:=ag.aq.1 y.out
  go_wp2_with fail
  try go_ret
  exact t.out _ _ ⟨o,L,dA.trans u,rfl,h4⟩
theorem O5 (c:Cx σ) (hc:c.Ok) (n:Nat) (e0:4<=n) (c0:n<=3840) (j:Nat) (M:gZ σ) (w:G) (S:Hp) (node:Int) (F:ai) (h:ag w (cI c S j M*(ak S*(F)))) :
  Calls W 38 #[fV j n,Z .i64 node] w (OF c j S F w (ed (qZ c.ask n node) M)):=by
 refine aH fun f0 y=>?_;obtain ⟨p,hp⟩:∃ p,ed (qZ c.ask n node) M=p:=⟨_,rfl⟩
 rw [hp] at y;have g0:=nB W;have t:=fun u w F h=>wS c hc n e0 c0 88 #[O (Y ⟨u,0,U⟩)] (bp u node) (qZ c.ask n node) (fun d0 w=>enters func88 (by kernel_rfl) rfl d0 w) (MB hc c0 node u) j M w S F h;rw [hp] at t;have z:=ae t;have r:=((h.alloc (cP j n)).alloc (X #[Z .i64 node] 3 (0,0)))
 have dA:=(((aj.refl w).alloc (cP j n)).alloc (X #[Z .i64 node] 3 (0,0)))
 simp only [O2] at r;have T:ag ((w.alloc (cP j n)).alloc (X #[Z .i64 node] 3 (0,0))) (cI c S j M*(ak S*((bp (w.heap.size+1) node)*(pt w.heap.size (cP j n)*F)))):=r.to (by unfold bp;ac_rfl);have v:=ae T;clear r T t h;unfold fV
 go_enter func38,ntmps38
 go_wp2_with fail
 refine z.out (w.heap.size+1) _ _ v.out _ ?_;clear z v;generalize i0:((w.alloc (cP j n)).alloc (X #[Z .i64 node] 3 (0,0)))=w1 at *;generalize w.heap.size+1=b1 at *;generalize w.heap.size=b0 at *;rintro e w2 ⟨o,hS,d2,rfl,L⟩;have h3:=ae (L.to (by ac_rfl:_=(pt b0 (cP j n)*bp b1 node)*(cI c o j p.2*(ak o*F)))).right;clear L
 go_wp2_with fail
 try go_ret
 exact y.out _ _ ⟨o,hS,dA.trans d2,rfl,h3.out⟩
theorem Lo (c:Cx σ) (hc:c.Ok) (n:Nat) (d0:4<=n) (e0:n<=3840) (j:Nat) (M:gZ σ) (w:G) (S:Hp) (node:Int) (d:Int) (F:ai) (h:ag w (cI c S j M*(ak S*(F)))) :
  Calls W 37 #[fV j n,Z .i64 node,Z .i64 d] w (OF c j S F w (ed (lD c.ask n node d) M)):=by
 refine aH fun f0 z=>?_;obtain ⟨p,hp⟩:∃ p,ed (lD c.ask n node d) M=p:=⟨_,rfl⟩
 rw [hp] at z;have g0:=nB W;have u:=fun v r w F h=>wS c hc n d0 e0 84 #[O (Y ⟨v,0,U⟩),O (Y ⟨r,0,U⟩)] (bp v node*(bp r d)) (lD c.ask n node d) (fun c0 w=>enters func84 (by kernel_rfl) rfl c0 w) (Kc hc node d v r) j M w S F h;rw [hp] at u;have L:=ae u;have t:=(((h.alloc (cP j n)).alloc (X #[Z .i64 node] 3 (0,0))).alloc (X #[Z .i64 d] 3 (0,0)))
 have dA:=((((aj.refl w).alloc (cP j n)).alloc (X #[Z .i64 node] 3 (0,0))).alloc (X #[Z .i64 d] 3 (0,0)))
 simp only [O2] at t;have hB:ag (((w.alloc (cP j n)).alloc (X #[Z .i64 node] 3 (0,0))).alloc (X #[Z .i64 d] 3 (0,0))) (cI c S j M*(ak S*((bp (w.heap.size+1) node*(bp (w.heap.size+1+1) d))*(pt w.heap.size (cP j n)*F)))):=t.to (by unfold bp;ac_rfl);have y:=ae hB;clear t hB u h;unfold fV
 go_enter func37,ntmps37
 go_wp2_with fail
 refine L.out (w.heap.size+1) (w.heap.size+1+1) _ _ y.out _ ?_;clear L y;generalize i0:(((w.alloc (cP j n)).alloc (X #[Z .i64 node] 3 (0,0))).alloc (X #[Z .i64 d] 3 (0,0)))=w1 at *;generalize w.heap.size+1+1=b2 at *;generalize w.heap.size+1=b1 at *;generalize w.heap.size=b0 at *;rintro e w2 ⟨o,hS,d2,rfl,T⟩;have h3:=ae (T.to (by ac_rfl:_=(pt b0 (cP j n)*bp b1 node*bp b2 d)*(cI c o j p.2*(ak o*F)))).right;clear T
 go_wp2_with fail
 try go_ret
 exact z.out _ _ ⟨o,hS,dA.trans d2,rfl,h3.out⟩
theorem Np (c:Cx σ) (hc:c.Ok) (n:Nat) (e0:4<=n) (c0:n<=3840) (j:Nat) (M:gZ σ) (w:G) (S:Hp) (node:Int) (o:Int) (F:ai) (h:ag w (cI c S j M*(ak S*(F)))) :
  Calls W 60 #[fV j n,Z .i64 node,Z .i64 o] w (OF c j S F w (ed (mN c.ask n node o) M)):=by
 refine aH fun f0 L=>?_;obtain ⟨p,hp⟩:∃ p,ed (mN c.ask n node o) M=p:=⟨_,rfl⟩
 rw [hp] at L;have g0:=nB W;have u:=fun v y w F h=>wS c hc n e0 c0 109 #[O (Y ⟨v,0,U⟩),O (Y ⟨y,0,U⟩)] (bp v node*(bp y o)) (mN c.ask n node o) (fun d0 w=>enters func109 (by kernel_rfl) rfl d0 w) (G8 hc c0 node o v y) j M w S F h;rw [hp] at u;have T:=ae u;have t:=(((h.alloc (cP j n)).alloc (X #[Z .i64 node] 3 (0,0))).alloc (X #[Z .i64 o] 3 (0,0)))
 have dA:=((((aj.refl w).alloc (cP j n)).alloc (X #[Z .i64 node] 3 (0,0))).alloc (X #[Z .i64 o] 3 (0,0)))
 simp only [O2] at t;have hB:ag (((w.alloc (cP j n)).alloc (X #[Z .i64 node] 3 (0,0))).alloc (X #[Z .i64 o] 3 (0,0))) (cI c S j M*(ak S*((bp (w.heap.size+1) node*(bp (w.heap.size+1+1) o))*(pt w.heap.size (cP j n)*F)))):=t.to (by unfold bp;ac_rfl);have z:=ae hB;clear t hB u h;unfold fV
 go_enter func60,ntmps60
 go_wp2_with fail
 refine T.out (w.heap.size+1) (w.heap.size+1+1) _ _ z.out _ ?_;clear T z;generalize i0:(((w.alloc (cP j n)).alloc (X #[Z .i64 node] 3 (0,0))).alloc (X #[Z .i64 o] 3 (0,0)))=w1 at *;generalize w.heap.size+1+1=b2 at *;generalize w.heap.size+1=b1 at *;generalize w.heap.size=b0 at *;rintro e w2 ⟨r,hS,d2,rfl,h2⟩;have h3:=ae (h2.to (by ac_rfl:_=(pt b0 (cP j n)*bp b1 node*bp b2 o)*(cI c r j p.2*(ak r*F)))).right;clear h2
 go_wp2_with fail
 try go_ret
 exact L.out _ _ ⟨r,hS,dA.trans d2,rfl,h3.out⟩
theorem Kr (c:Cx σ) (hc:c.Ok) (n:Nat) (k0:4<=n) (g0:n<=3840) (j:Nat) (M:gZ σ) (w:G) (S:Hp) (node:Int) (off:Int) (o:Int) (F:ai) (h:ag w (cI c S j M*(ak S*(F)))) :
  Calls W 107 #[fV j n,Z .i64 node,Z .i64 off,Z .i64 o] w (Cf c j (J U 0 0) gw S F w (ed (jZ c.ask n node off o) M)):=by
 refine aH fun m0 u=>?_;obtain ⟨p,hp⟩:∃ p,ed (jZ c.ask n node off o) M=p:=⟨_,rfl⟩
 rw [hp] at u;have n0:=nB W;have c0:=fun d0 e0 y w F h=>ve c hc n k0 g0 164 #[O (Y ⟨d0,0,U⟩),O (Y ⟨e0,0,U⟩),O (Y ⟨y,0,U⟩)] (bp d0 node*(bp e0 off*(bp y o))) (jZ c.ask n node off o) (fun i0 w=>enters func164 (by kernel_rfl) rfl i0 w) (Eg hc g0 node off o d0 e0 y) j M w S F h;rw [hp] at c0;have f0:=ae c0;have T:=((((h.alloc (cP j n)).alloc (X #[Z .i64 node] 3 (0,0))).alloc (X #[Z .i64 off] 3 (0,0))).alloc (X #[Z .i64 o] 3 (0,0)))
 have dA:=(((((aj.refl w).alloc (cP j n)).alloc (X #[Z .i64 node] 3 (0,0))).alloc (X #[Z .i64 off] 3 (0,0))).alloc (X #[Z .i64 o] 3 (0,0)))
 simp only [O2] at T;have hB:ag ((((w.alloc (cP j n)).alloc (X #[Z .i64 node] 3 (0,0))).alloc (X #[Z .i64 off] 3 (0,0))).alloc (X #[Z .i64 o] 3 (0,0))) (cI c S j M*(ak S*((bp (w.heap.size+1) node*(bp (w.heap.size+1+1) off*(bp (w.heap.size+1+1+1) o)))*(pt w.heap.size (cP j n)*F)))):=T.to (by unfold bp;ac_rfl);have HB:=ae hB;clear T hB c0 h;unfold fV
 go_enter func107,ntmps107
 go_wp2_with fail
 refine f0.out (w.heap.size+1) (w.heap.size+1+1) (w.heap.size+1+1+1) _ _ HB.out _ ?_;clear f0 HB;generalize o0:((((w.alloc (cP j n)).alloc (X #[Z .i64 node] 3 (0,0))).alloc (X #[Z .i64 off] 3 (0,0))).alloc (X #[Z .i64 o] 3 (0,0)))=w1 at *;generalize w.heap.size+1+1+1=b3 at *;generalize w.heap.size+1+1=b2 at *;generalize w.heap.size+1=b1 at *;generalize w.heap.size=b0 at *;obtain ⟨l0,M2⟩:=p
 cases l0 with
 | bad cN=>
  rintro e w2 ⟨r,hS,z,rfl,t⟩;have L:=ae (t.to (by ac_rfl:_=(pt b0 (cP j n)*bp b1 node*bp b2 off*bp b3 o)*(cI c r j M2*(ak r*F)))).right;clear t
  go_wp2_with fail
  try go_ret
  exact u.out _ _ ⟨r,hS,dA.trans z,rfl,L.out⟩
 | ok a=>
  rintro e w2 ⟨r,v,hS,z,rfl,t⟩;have L:=ae (t.to (by ac_rfl:_=(pt b0 (cP j n)*bp b1 node*bp b2 off*bp b3 o)*(gw a v*(cI c r j M2*(ak r*F))))).right;clear t
  go_wp2_with fail
  try go_ret
  exact u.out _ _ ⟨r,v,hS,dA.trans z,rfl,L.out⟩
theorem wi (c:Cx σ) (hc:c.Ok) (n:Nat) (i0:4<=n) (d0:n<=3840) (j:Nat) (M:gZ σ) (w:G) (S:Hp) (node:Int) (off:Int) (l:List UInt8) (va:Option Addr) (cap:Nat) (D:ai) (hD:∀ c0 P,ag c0 (D*P)->Rd c0 (J va l.length cap) l) (g0:l.length<=cap) (f0:l.length<=1000000000000) (F:ai) (h:ag w (cI c S j M*(ak S*(D*F)))) :
  Calls W 52 #[fV j n,Z .i64 node,Z .i64 off,J va l.length cap] w (OF c j S (D*F) w (ed (gP c.ask n node off l) M)):=by
 refine aH fun k0 L=>?_;obtain ⟨p,hp⟩:∃ p,ed (gP c.ask n node off l) M=p:=⟨_,rfl⟩
 rw [hp] at L;have l0:=nB W;have t:=fun u v y w F h=>wS c hc n i0 d0 104 #[O (Y ⟨u,0,U⟩),O (Y ⟨v,0,U⟩),O (Y ⟨y,0,U⟩)] (bp u node*(bp v off*((OT y (J va l.length cap)*D)))) (gP c.ask n node off l) (fun e0 w=>enters func104 (by kernel_rfl) rfl e0 w) (BR hc d0 node off l va cap D hD g0 f0 u v y) j M w S F h;rw [hp] at t;have T:=ae t;have r:=((((h.alloc (cP j n)).alloc (X #[Z .i64 node] 3 (0,0))).alloc (X #[Z .i64 off] 3 (0,0))).alloc (X #[J va l.length cap] 22 (0,0)))
 have dA:=(((((aj.refl w).alloc (cP j n)).alloc (X #[Z .i64 node] 3 (0,0))).alloc (X #[Z .i64 off] 3 (0,0))).alloc (X #[J va l.length cap] 22 (0,0)))
 simp only [O2] at r;have hB:ag ((((w.alloc (cP j n)).alloc (X #[Z .i64 node] 3 (0,0))).alloc (X #[Z .i64 off] 3 (0,0))).alloc (X #[J va l.length cap] 22 (0,0))) (cI c S j M*(ak S*((bp (w.heap.size+1) node*(bp (w.heap.size+1+1) off*((OT (w.heap.size+1+1+1) (J va l.length cap)*D))))*(pt w.heap.size (cP j n)*F)))):=r.to (by unfold bp OT;ac_rfl);have z:=ae hB;clear r hB t h;unfold fV
 go_enter func52,ntmps52
 go_wp2_with fail
 refine T.out (w.heap.size+1) (w.heap.size+1+1) (w.heap.size+1+1+1) _ _ z.out _ ?_;clear T z;generalize m0:((((w.alloc (cP j n)).alloc (X #[Z .i64 node] 3 (0,0))).alloc (X #[Z .i64 off] 3 (0,0))).alloc (X #[J va l.length cap] 22 (0,0)))=w1 at *;generalize w.heap.size+1+1+1=b3 at *;generalize w.heap.size+1+1=b2 at *;generalize w.heap.size+1=b1 at *;generalize w.heap.size=b0 at *;rintro e w2 ⟨o,hS,d2,rfl,h2⟩;have h3:=ae (h2.to (by ac_rfl:_=(pt b0 (cP j n)*bp b1 node*bp b2 off*OT b3 (J va l.length cap))*(cI c o j p.2*(ak o*(D*F))))).right;clear h2
 go_wp2_with fail
 try go_ret
 exact L.out _ _ ⟨o,hS,dA.trans d2,rfl,h3.out⟩
theorem sf {w:G} {j:Array Value} {a:Nat} {e:Value} {o:Array Value} {F:ai} (h4:j[4]?=Y (az a)) (r:j[5]?=Y e) (u:ag w (pt a (X o 65 (0,0))*F)) (t:o.size=20) :
  (results Tryz.f97 j).run W w = .ok (.tuple #[.agg o,e]) w:=by
 have v:=run_loadVar_row (P:=W) w a 65 65 o (0,0) _ u.heap underlying65 rfl (by rw [t];exact bF);have y:j.getD 4 undef = O (Y ⟨a,0,U⟩):=by simp [h4]
 have z:j.getD 5 undef=e:=by simp [r]
 simp [results,Tryz.results97,h4,r,asAddr,v]
theorem Qx (c:Cx σ) (hc:c.Ok) (n:Nat) (p0:4<=n) (q0:n<=3840) (j:Nat) (M:gZ σ) (w:G) (S:Hp) (node:Int) (F:ai) (h:ag w (cI c S j M*(ak S*F))) :
  Calls W 97 #[fV j n,Z .i64 node] w (Cf c j PH De S F w (ed (qR c.ask n node) M)):=by
 refine aH fun s0 HQ=>?_;obtain ⟨p,hp⟩:∃ p,ed (qR c.ask n node) M=p:=⟨_,rfl⟩
 rw [hp] at HQ;have u0:=nB W;have f0:=fun g0 w F h=>LJ c hc n p0 q0 159 #[O (Y ⟨g0,0,U⟩)] (bp g0 node) (qR c.ask n node) (fun n0 w=>enters func159 (by kernel_rfl) rfl n0 w) (NW hc node g0) j M w S F h;rw [hp] at f0;have i0:=ae f0;have hA:=(((h.alloc (cP j n)).alloc (X #[Z .i64 node] 3 (0,0))).alloc (X #[Z .i64 0,Z .i64 0,Z .i64 0,Z .i64 0,Z .i64 0,Z .i64 0,Z .i64 0,Z .i64 0,Z .i64 0,Z .i64 0,Z .i64 0,Z .i64 0,Z .i64 0,Z .i64 0,Z .i64 0,Z .i64 0,Z .i64 0,Z .i64 0,Z .i64 0,Z .i64 0] 65 (0,0)))
 have dA:=((((aj.refl w).alloc (cP j n)).alloc (X #[Z .i64 node] 3 (0,0))).alloc (X #[Z .i64 0,Z .i64 0,Z .i64 0,Z .i64 0,Z .i64 0,Z .i64 0,Z .i64 0,Z .i64 0,Z .i64 0,Z .i64 0,Z .i64 0,Z .i64 0,Z .i64 0,Z .i64 0,Z .i64 0,Z .i64 0,Z .i64 0,Z .i64 0,Z .i64 0,Z .i64 0] 65 (0,0)))
 simp only [O2] at hA;have hB:ag (((w.alloc (cP j n)).alloc (X #[Z .i64 node] 3 (0,0))).alloc (X #[Z .i64 0,Z .i64 0,Z .i64 0,Z .i64 0,Z .i64 0,Z .i64 0,Z .i64 0,Z .i64 0,Z .i64 0,Z .i64 0,Z .i64 0,Z .i64 0,Z .i64 0,Z .i64 0,Z .i64 0,Z .i64 0,Z .i64 0,Z .i64 0,Z .i64 0,Z .i64 0] 65 (0,0))) (cI c S j M*(ak S*(bp (w.heap.size+1) node*(pt (w.heap.size+1+1) (X #[Z .i64 0,Z .i64 0,Z .i64 0,Z .i64 0,Z .i64 0,Z .i64 0,Z .i64 0,Z .i64 0,Z .i64 0,Z .i64 0,Z .i64 0,Z .i64 0,Z .i64 0,Z .i64 0,Z .i64 0,Z .i64 0,Z .i64 0,Z .i64 0,Z .i64 0,Z .i64 0] 65 (0,0))*(pt w.heap.size (cP j n)*F))))):=hA.to (by unfold bp;ac_rfl);have HB:=ae hB;clear hA hB f0 h;unfold fV
 go_enter func97,ntmps97
 go_wp2_with fail
 refine i0.out (w.heap.size+1) _ _ HB.out _ ?_;clear i0 HB;generalize x0:(((w.alloc (cP j n)).alloc (X #[Z .i64 node] 3 (0,0))).alloc (X #[Z .i64 0,Z .i64 0,Z .i64 0,Z .i64 0,Z .i64 0,Z .i64 0,Z .i64 0,Z .i64 0,Z .i64 0,Z .i64 0,Z .i64 0,Z .i64 0,Z .i64 0,Z .i64 0,Z .i64 0,Z .i64 0,Z .i64 0,Z .i64 0,Z .i64 0,Z .i64 0] 65 (0,0)))=w1 at *;generalize w.heap.size+1+1=o at *;generalize w.heap.size+1=b1 at *;generalize w.heap.size=b0 at *;obtain ⟨r0,M2⟩:=p;have o0:(prog.info? 65).map (·.size)=Y 20:=bF;have c0:∀ (T:Array Value) (L:G) (P:ai),T.size=20->ag L (pt o (X #[Z .i64 0,Z .i64 0,Z .i64 0,Z .i64 0,Z .i64 0,Z .i64 0,Z .i64 0,Z .i64 0,Z .i64 0,Z .i64 0,Z .i64 0,Z .i64 0,Z .i64 0,Z .i64 0,Z .i64 0,Z .i64 0,Z .i64 0,Z .i64 0,Z .i64 0,Z .i64 0] 65 (0,0))*P)->ag (L.setRow o T) (pt o (X T 65 (0,0))*P):=fun T L P z y=>y.setRow
 cases r0 with
 | bad cN=>
  rintro e L ⟨r,y,d2,rfl,u⟩;have t:=u.to (by ac_rfl:_=pt o (X #[Z .i64 0,Z .i64 0,Z .i64 0,Z .i64 0,Z .i64 0,Z .i64 0,Z .i64 0,Z .i64 0,Z .i64 0,Z .i64 0,Z .i64 0,Z .i64 0,Z .i64 0,Z .i64 0,Z .i64 0,Z .i64 0,Z .i64 0,Z .i64 0,Z .i64 0,Z .i64 0] 65 (0,0))*((bp b1 node*pt b0 (cP j n))*(cI c r j M2*(ak r*F))));have Hz:=ae t.heap;have h4:=ae (c0 #[Z .i64 0,Z .i64 0,Z .i64 0,Z .i64 0,Z .i64 0,Z .i64 0,Z .i64 0,Z .i64 0,Z .i64 0,Z .i64 0,Z .i64 0,Z .i64 0,Z .i64 0,Z .i64 0,Z .i64 0,Z .i64 0,Z .i64 0,Z .i64 0,Z .i64 0,Z .i64 0] _ _ rfl t);have d0:Hid ((#[Z .i64 0,Z .i64 0,Z .i64 0,Z .i64 0,Z .i64 0,Z .i64 0,Z .i64 0,Z .i64 0,Z .i64 0,Z .i64 0,Z .i64 0,Z .i64 0,Z .i64 0,Z .i64 0,Z .i64 0,Z .i64 0,Z .i64 0,Z .i64 0,Z .i64 0,Z .i64 0]:Array Value).all (·.oneCell')=Q):=Ge;have D4:=ae ((dA.trans d2).setRow o #[Z .i64 0,Z .i64 0,Z .i64 0,Z .i64 0,Z .i64 0,Z .i64 0,Z .i64 0,Z .i64 0,Z .i64 0,Z .i64 0,Z .i64 0,Z .i64 0,Z .i64 0,Z .i64 0,Z .i64 0,Z .i64 0,Z .i64 0,Z .i64 0,Z .i64 0,Z .i64 0]);clear u t c0
  go_wp2_with (refine wpList_store_row (by exact rfl) 65 (.tmp 4) (.tmp 9) (by exact rfl) o #[Z .i64 0,Z .i64 0,Z .i64 0,Z .i64 0,Z .i64 0,Z .i64 0,Z .i64 0,Z .i64 0,Z .i64 0,Z .i64 0,Z .i64 0,Z .i64 0,Z .i64 0,Z .i64 0,Z .i64 0,Z .i64 0,Z .i64 0,Z .i64 0,Z .i64 0,Z .i64 0] (by exact rfl) (by exact rfl) 65 _ (by with_reducible exact Hz.out) o0 (by rfl) d0.out ?_)
  exact bodyPost_ret (sf rfl rfl h4.out rfl) rfl (HQ.out _ _ ⟨r,y,D4.out,rfl,h4.out.right.right⟩)
 | ok a=>
  rintro e L ⟨r,v,y,d2,rfl,u⟩;obtain ⟨⟨rfl,e0⟩,k0⟩:=ag.aq.1 u;have t:=k0.to (by ac_rfl:_=pt o (X #[Z .i64 0,Z .i64 0,Z .i64 0,Z .i64 0,Z .i64 0,Z .i64 0,Z .i64 0,Z .i64 0,Z .i64 0,Z .i64 0,Z .i64 0,Z .i64 0,Z .i64 0,Z .i64 0,Z .i64 0,Z .i64 0,Z .i64 0,Z .i64 0,Z .i64 0,Z .i64 0] 65 (0,0))*((bp b1 node*pt b0 (cP j n))*(cI c r j M2*(ak r*F))));have z:(ints a.l).size=20:=by rw [er,Nd.cells e0]
  have Hz:=ae t.heap;have h4:=ae (c0 (ints a.l) _ _ z t);have d0:Hid ((ints a.l).all (·.oneCell')=Q):=by simp [RowKit.Hid,ints,Value.oneCell']
  have m0:Hid ((prog.info? 65).map (·.size)=Y (ints a.l).size):=by show _=_;rw [z];exact bF
  have D4:=ae ((dA.trans d2).setRow o (ints a.l));have HX:=ae z;have l0:=ae e0;clear u k0 t c0 z e0;unfold Nd.v
  go_wp2_with (refine wpList_store_row (by exact rfl) 65 (.tmp 4) (.tmp 9) (by exact rfl) o (ints a.l) (by exact rfl) (by exact rfl) 65 _ (by with_reducible exact Hz.out) m0.out (by rw [HX.out];rfl) d0.out ?_)
  exact bodyPost_ret (sf rfl rfl h4.out HX.out) rfl (HQ.out _ _ ⟨r,_,y,D4.out,rfl,ag.aq.2 ⟨⟨rfl,l0.out⟩,h4.out.right.right⟩⟩)
end
end Go.Proofs.Fs
namespace Go.SL
open RowKit
section
variable {σ α β:Type}
structure qC (ask:cO σ) (n:Nat) (V:Nat->List UInt8) (I:σ->Prop):Prop where
 len:∀ i,i<n->(V i).length=480
 WY:∀ (s:σ) (i:Nat),I s->i<n->(ask s (i:Int)).1=(0,V i)/\I (ask s (i:Int)).2
structure Good (n:Nat) (V:Nat->List UInt8) (I:σ->Prop) (b:gZ σ):Prop where
 err:b.err=0
 inv:I b.s
 wr:∀ (i:Nat) l,i<n->aP b.W (i:Int)=some l->l.length=480
 rd:∀ (i:Nat) l,i<n->aP b.D (i:Int)=some l->l=V i
 keys:∀ p ∈ b.W,0<=p.1/\p.1<(n:Int)
def vw (V:Nat->List UInt8) (j:List (Int × List UInt8)) (i:Nat):List UInt8:=(aP j (i:Int)).getD (V i)
structure Aw where
 V:Nat->List UInt8
 B:List UInt8
structure Rel (n:Nat) (V0:Nat->List UInt8) (I:σ->Prop) (st:eP σ) (a:Aw):Prop where
 gL:Good n V0 I st.b
 view:∀ i,0<i->i<n->vw V0 st.b.W i=a.V i
 bits:st.bits=some a.B\/(st.bits=none/\st.dt=false/\vw V0 st.b.W 0=a.B)
 dt:st.dt=false->vw V0 st.b.W 0=a.B
 len:a.B.length=480
def A5 (V:Nat->List UInt8) (i:Nat) (l:List UInt8):Nat->List UInt8:=fun k=>if k=i then l else V k
theorem wm (V:Nat->List UInt8) (j:List (Int × List UInt8)) (i:Nat) (l:List UInt8) (k:Nat):vw V (SL.fK j (i:Int) l) k=if k=i then l else vw V j k:=by
 unfold vw;rw [jI]
 by_cases h:k=i
 .subst h;rw [if_pos rfl,if_pos rfl];rfl
 .rw [if_neg h,if_neg (by omega)]
theorem Good.Qa {n:Nat} {V:Nat->List UInt8} {I:σ->Prop} {b:gZ σ} {ask:cO σ} (hr:qC ask n V I) (h:Good n V I b) {i:Nat} (hi:i<n):(vw V b.W i).length=480:=by
 unfold vw
 cases j:aP b.W (i:Int) with
 | some l=>exact h.wr i l hi j
 | none=>exact hr.len i hi
def aL (n:Nat) (V0:Nat->List UInt8) (I:σ->Prop) (m:WM σ α) (a:Aw) (P:α->Aw->Prop) (E:Int->Prop):Prop:=
 ∀ st,Rel n V0 I st a->match m st with
  | (.ok x,j)=>∃ a',Rel n V0 I j a'/\P x a'
  | (.bad c,j)=>I j.b.s/\E c
variable {n:Nat} {V0:Nat->List UInt8} {I:σ->Prop} {ask:cO σ} {m:WM σ α} {a:Aw} {P:α->Aw->Prop} {E:Int->Prop}
theorem aL.bind {k:α->WM σ β} {R:β->Aw->Prop} (h:aL n V0 I m a P E) (t:∀ x a',P x a'->aL n V0 I (k x) a' R E):aL n V0 I (WM.bind m k) a R E:=by
 intro st u;have:=h st u;unfold WM.bind
 match v:m st,this with
 | (.ok x,o),⟨a',j,r⟩=>exact t x a' r o j
 | (.bad c,o),j=>exact j
theorem aL.mono {r:α->Aw->Prop} {o:Int->Prop} (h:aL n V0 I m a P E) (v:∀ x a',P x a'->r x a') (u:∀ c,E c->o c):aL n V0 I m a r o:=by
 intro st y;have:=h st y
 match L:m st,this with
 | (.ok x,z),⟨a',j,t⟩=>exact ⟨a',j,v _ _ t⟩
 | (.bad c,z),j=>exact ⟨j.1,u _ j.2⟩
theorem aL.pure {x:α} (h:P x a):aL n V0 I (WM.pure x) a P E:=fun st j=>⟨a,j,h⟩
theorem aL.bad {c:Int} (h:E c):aL n V0 I (fun st=>((.bad c,st):Rs α × eP σ)) a P E:=fun st j=>⟨j.gL.inv,h⟩
theorem aL.congr {m':WM σ α} (h:aL n V0 I m' a P E) (e:∀ st,m st=m' st):aL n V0 I m a P E:=fun st j=>by
 have:=h st j;rw [<- e st] at this;exact this
theorem Er (hr:qC ask n V0 I) {b:gZ σ} (h:Good n V0 I b) {i:Nat} (hi:i<n) :
  ∃ o,gy ask b (i:Int)=((0,vw V0 b.W i),o)/\o.W=b.W/\Good n V0 I o:=by
 unfold gy vw;rw [if_neg (by rw [h.err];simp)]
 cases y:aP b.W (i:Int) with
 | some l=>exact ⟨b,rfl,rfl,h⟩
 | none=>
  cases u:aP b.D (i:Int) with
  | some l=>exact ⟨b,by rw [h.rd i l hi u];rfl,rfl,h⟩
  | none=>
   obtain ⟨r,t⟩:=hr.WY b.s i h.inv hi;refine ⟨{ b with D:=SL.fK b.D (i:Int) (V0 i),s:=(ask b.s (i:Int)).2 },?_,rfl,h.err,t,h.wr,fun k l v j=>?_,h.keys⟩
   .show tx ask b (i:Int)=_
    unfold tx;rw [r];rfl
   .rw [jI] at j
    split at j
    .rename_i e;cases j;congr 1;omega
    .exact h.rd k l v j
theorem y5 (hr:qC ask n V0 I) {st:eP σ} (h:Good n V0 I st.b) {i:Nat} (hi:i<n) :
  ∃ j,de ask (i:Int) st=(.ok (vw V0 st.b.W i),{ st with b:=j })/\j.W=st.b.W/\Good n V0 I j:=by
 obtain ⟨j,o,r,t⟩:=Er hr h hi;refine ⟨j,?_,r,t⟩;unfold de;rw [o];rw [if_neg (by simp),if_neg (by simp [h.Qa hr hi])]
theorem aL.read (hr:qC ask n V0 I) {i:Nat} (h0:0<i) (hi:i<n):aL n V0 I (de ask (i:Int)) a (fun l a'=>l=a.V i/\l.length=480/\a'=a) E:=by
 intro st j;obtain ⟨o,t,r,u⟩:=y5 hr j.gL hi;rw [t];refine ⟨a,⟨u,fun k y z=>?_,?_,fun v=>?_,j.len⟩,j.view i h0 hi,j.gL.Qa hr hi,rfl⟩
 .show vw V0 o.W k=_;rw [r];exact j.view k y z
 .show st.bits=_\/(st.bits=U/\st.dt=H/\vw V0 o.W 0=_);rw [r];exact j.bits
 .show vw V0 o.W 0=_;rw [r];exact j.dt v
theorem aL.write {i:Nat} {l:List UInt8} (h0:0<i) (b0:i<n) (T:l.length=480):aL n V0 I (bQ (i:Int) l) a (fun _ a'=>a'={ a with V:=A5 a.V i l }) E:=by
 intro st j
 have e:kG st.b.err (i:Int) l=0:=by
  unfold kG;rw [j.gL.err,if_neg (by simp),if_neg (by omega)]
 have u:bQ (i:Int) l st=(.ok (),{ st with b:={ st.b with W:=SL.fK st.b.W (i:Int) l } }):=if_pos e;rw [u];refine ⟨{ a with V:=A5 a.V i l },⟨⟨j.gL.err,j.gL.inv,fun k t r h'=>?_,j.gL.rd,fun p hp=>(AK hp).elim (fun e=>by rw [e];exact ⟨by omega,by omega⟩) (j.gL.keys p)⟩,fun k r L=>?_,?_,fun z=>?_,j.len⟩,rfl⟩
 .have o:aP (SL.fK st.b.W (i:Int) l) (k:Int)=Y t:=h'
  rw [jI] at o
  split at o
  .cases o;exact T
  .exact j.gL.wr k t r o
 .show vw V0 (SL.fK st.b.W (i:Int) l) k=A5 a.V i l k
  rw [wm];unfold A5
  split
  .rfl
  .exact j.view k r L
 .rcases j.bits with h|⟨h,v,y⟩
  .exact .inl h
  .refine .inr ⟨h,v,?_⟩
   show vw V0 (SL.fK st.b.W (i:Int) l) 0=a.B
   rw [wm,if_neg (by omega)];exact y
 .show vw V0 (SL.fK st.b.W (i:Int) l) 0=a.B
  rw [wm,if_neg (by omega)];exact j.dt z
theorem aL.bits (hr:qC ask n V0 I) (h0:0<n):∀ st,Rel n V0 I st a->∃ st',jF ask st=(.ok a.B,st')/\Rel n V0 I st' a/\st'.bits=Y a.B:=by
 intro st j;unfold jF;rcases j.bits with h|⟨h,T,t⟩
 .rw [h];exact ⟨st,rfl,j,h⟩
 .rw [h]
  obtain ⟨o,u,r,y⟩:=y5 hr j.gL h0;have v:de ask 0 st=(.ok (vw V0 st.b.W 0),{ st with b:=o }):=u;dsimp only;rw [v,t];refine ⟨_,rfl,⟨y,fun k z L=>?_,.inl rfl,fun hd=>?_,j.len⟩,rfl⟩
  .show vw V0 o.W k=_;rw [r];exact j.view k z L
  .show vw V0 o.W 0=_;rw [r];exact t
theorem aL.mark (hr:qC ask n V0 I) (h0:0<n) {id:Nat} {t:Bool}:aL n V0 I (cM ask id t) a (fun _ a'=>a'={ a with B:=eC a.B id t }) E:=by
 intro st u;obtain ⟨v,o,j,y⟩:=aL.bits hr h0 st u;have e:cM ask id t st=Av id t a.B v:=WM.bd o;rw [e];unfold Av;exact ⟨{ a with B:=eC a.B id t },⟨j.gL,j.view,.inl rfl,fun r=>by simp at r,by rw [fz];exact j.len⟩,rfl⟩
theorem aL.take (hr:qC ask n V0 I) (h0:0<n) (r:fA a.B n=U->E 7):aL n V0 I (iZ ask n) a (fun k a'=>fA a.B n=Y k/\a'={ a with B:=eC a.B k Q }) E:=by
 intro st v;obtain ⟨y,o,j,z⟩:=aL.bits hr h0 st v;have e:iZ ask n st=sY n a.B y:=WM.bd o;rw [e];unfold sY
 cases u:fA a.B n with
 | none=>exact ⟨j.gL.inv,r u⟩
 | some k=>exact ⟨{ a with B:=eC a.B k Q },⟨j.gL,j.view,.inl rfl,fun t=>by simp at t,by rw [fz];exact j.len⟩,rfl,rfl⟩
def KS (V0:Nat->List UInt8) (M:gZ σ):Aw:=⟨vw V0 M.W,vw V0 M.W 0⟩
theorem Rel.start (hr:qC ask n V0 I) (h0:0<n) {M:gZ σ} (h:Good n V0 I M):Rel n V0 I ⟨M,U,H⟩ (KS V0 M):=
 ⟨h,fun _ _ _=>rfl,.inr ⟨rfl,rfl,rfl⟩,fun _=>rfl,h.Qa hr h0⟩
theorem aL.run (hr:qC ask n V0 I) (h0:0<n) {M:gZ σ} (hM:Good n V0 I M) (h:aL n V0 I m (KS V0 M) P E) :
  (∃ x M' a',ed m M=(.ok x,M')/\Good n V0 I M'/\P x a'/\vw V0 M'.W 0=a'.B/\∀ i,0<i->i<n->vw V0 M'.W i=a'.V i) \/
  (∃ c T,ed m M=(.bad c,{ M with s:=T })/\I T/\E c):=by
 have h1:=h _ (Rel.start hr h0 hM)
 match y:m ⟨M,U,H⟩,h1 with
 | (.ok x,j),⟨a',o,z⟩=>
  cases u:j.dt with
  | false=>exact .inl ⟨x,j.b,a',oM y u,o.gL,z,o.dt u,o.view⟩
  | true=>
   have r:j.bits=Y a'.B:=by
    rcases o.bits with r|⟨_,r,_⟩
    .exact r
    .rw [u] at r;cases r
   have e:kG j.b.err 0 (j.bits.getD [])=0:=by
    unfold kG;rw [o.gL.err,if_neg (by simp),r];simp [o.len]
   have e2:bQ 0 (j.bits.getD []) j=(.ok (),{ j with b:={ j.b with W:=SL.fK j.b.W 0 (j.bits.getD []) } }):=if_pos e;refine .inl ⟨x,_,a',sr y u e2,⟨o.gL.err,o.gL.inv,fun k L v h'=>?_,o.gL.rd,fun p hp=>(AK hp).elim (fun e=>by rw [e];exact ⟨by omega,by omega⟩) (o.gL.keys p)⟩,z,?_,fun k v b0=>?_⟩
   .have t:aP (SL.fK j.b.W ((0:Nat):Int) (j.bits.getD [])) (k:Int)=Y L:=h'
    rw [jI] at t
    split at t
    .cases t;rw [r];exact o.len
    .exact o.gL.wr k L v t
   .have:=wm V0 j.b.W 0 (j.bits.getD []) 0
    rw [if_pos rfl,r] at this;rw [r];exact this
   .have:=wm V0 j.b.W 0 (j.bits.getD []) k
    rw [if_neg (by omega)] at this;exact this.trans (o.view k v b0)
 | (.bad c,j),o=>exact .inr ⟨c,j.b.s,mj y,o.1,o.2⟩
end
theorem Lb (x:Int) (j:List Int):ke (x :: j)=dH x 2++ke j:=rfl
theorem Ct (l:List UInt8) (o m:Nat):bS l o (m+1)=iY (l.drop o) 2 :: bS l (o+2) m:=by
 simp only [bS,List.range_succ_eq_map,List.map_cons,List.map_map];congr 1;apply List.map_congr_left;intro i _;simp only [Function.comp,Nat.mul_succ];congr 2;omega
theorem wH (j:List Int):∀ (o rest:List UInt8),j.all dq=Q->bS (o++(ke j++rest)) o.length j.length=j:=by
 induction j with
 | nil=>intro o rest _;rfl
 | cons x j r=>
  intro o rest h;simp only [List.all_cons,N2] at h;rw [List.length_cons,Ct,List.drop_left,Lb,L3,mZ x 2 _ 2 (D2 _)];have t:=jK h.1;have e:x%(256:Int) ^ 2=x:=by rw [show (256:Int) ^ 2=65536 by decide];omega
  rw [e];congr 1;have:=r (o++dH x 2) rest h.2;rw [W3,bu,L3] at this;exact this
theorem Mf {n:Nd} (j:n.dr.length=16):iW n=dH n.kd 1++(dH n.lk 2++(dH n.sz 4++(ke n.dr++(dH n.rw 2++zs 439)))):=by
 unfold iW Rg bW;have o:(ke [n.rw])=dH n.rw 2:=by simp [ke]
 rw [o];have r:(dH n.kd 1++dH n.lk 2++dH n.sz 4++ke n.dr++dH n.rw 2).length=41:=by simp [bu,ju,j]
 rw [List.take_append,r,List.take_of_length_le (by omega)];have t:(zs 480).take (480-41)=zs 439:=by unfold zs;rw [List.take_replicate];exact congrArg (fun m=>L2 m 0) (by decide)
 rw [t];simp only [L3]
theorem LD {n:Nd} (o:n.dr.length=16) (v:n.ok=Q):kV (iW n)=(n,0):=by
 have hf:=Nd.rp v;obtain ⟨hk,l0,l1,s0,s1,hd,hr,-,-⟩:=hf;have b0:=jK hr;rw [Mf o];obtain ⟨kd,lk,sz,dr,j⟩:=n;dsimp only at *
 have e1:iY (dH kd 1++(dH lk 2++(dH sz 4++(ke dr++(dH j 2++zs 439))))) 1=kd:=by
  rw [mZ kd 1 _ 1 (D2 _),show (256:Int) ^ 1=256 by decide];omega
 have r:(dH kd 1++(dH lk 2++(dH sz 4++(ke dr++(dH j 2++zs 439))))).drop 1=dH lk 2++(dH sz 4++(ke dr++(dH j 2++zs 439))):=Z2 (bu _ _)
 have t:(dH kd 1++(dH lk 2++(dH sz 4++(ke dr++(dH j 2++zs 439))))).drop 3=dH sz 4++(ke dr++(dH j 2++zs 439)):=by
  rw [show 3=1+2 from rfl,<- P3,r];exact Z2 (bu _ _)
 have T:(dH kd 1++(dH lk 2++(dH sz 4++(ke dr++(dH j 2++zs 439))))).drop 7=ke dr++(dH j 2++zs 439):=by
  rw [show 7=3+4 from rfl,<- P3,t];exact Z2 (bu _ _)
 have u:(dH kd 1++(dH lk 2++(dH sz 4++(ke dr++(dH j 2++zs 439))))).drop 39=dH j 2++zs 439:=by
  rw [show 39=7+32 from rfl,<- P3,T];exact Z2 (by rw [ju,o])
 have L:(dH kd 1++(dH lk 2++(dH sz 4++(ke dr++(dH j 2++zs 439))))).drop 41=zs 439:=by
  rw [show 41=39+2 from rfl,<- P3,u];exact Z2 (bu _ _)
 have hp:bS (dH kd 1++(dH lk 2++(dH sz 4++(ke dr++(dH j 2++zs 439))))) 7 16=dr:=by
  have:=wH dr (dH kd 1++(dH lk 2++dH sz 4)) (dH j 2++zs 439) hd;rw [o] at this;have e:(dH kd 1++(dH lk 2++dH sz 4)).length=7:=by simp [bu]
  rw [e] at this;simpa only [L3] using this
 have hn:iI (dH kd 1++(dH lk 2++(dH sz 4++(ke dr++(dH j 2++zs 439)))))=⟨kd,lk,sz,dr,j⟩:=by
  unfold iI;rw [e1,r,t,u,hp,mZ lk 2 _ 2 (D2 _),mZ sz 4 _ 4 (D2 _),mZ j 2 _ 2 (D2 _)];have y:lk%(256:Int) ^ 2=lk:=by rw [show (256:Int) ^ 2=65536 by decide];omega
  have z:sz%(256:Int) ^ 4=sz:=by rw [show (256:Int) ^ 4=4294967296 by decide];omega
  have a3:j%(256:Int) ^ 2=j:=by rw [show (256:Int) ^ 2=65536 by decide];omega
  rw [y,z,a3]
 unfold kV;rw [hn,L,v];have hz:(zs 439).all (· == 0)=Q:=List.all_eq_true.2 fun x hx=>by rw [List.eq_of_mem_replicate hx];rfl
 rw [hz]
 rfl
theorem Oa {l:List Int} (h:l.length=240) (j:l.all dq=Q):l7 (ke l)=(l,0):=by
 have:=wH l [] [] j;simp only [List.nil_append,List.append_nil,List.length_nil,h] at this;unfold l7;rw [this,j]
 rfl
abbrev Own:=Nat × Nat × Nat
abbrev nC:Own:=(0,0,0)
abbrev Lr:Own:=(1,0,0)
abbrev Rn:Own:=(2,0,0)
abbrev Ku (id:Nat):Own:=(3,id,0)
abbrev GH (id i:Nat):Own:=(4,id,i)
def du {α:Type} (f:Nat->α) (k:Nat) (x:α):Nat->α:=fun b=>if b=k then x else f b
theorem aW {α:Type} (f:Nat->α) (k:Nat) (x:α):du f k x k=x:=if_pos rfl
theorem aE {α:Type} (f:Nat->α) {k b:Nat} (x:α) (h:b≠k):du f k x b=f b:=if_neg h
def xB (own:Nat->Own) (n:Nat):Nat:=(H2 n).countP fun b=>own b == nC
theorem rK (own:Nat->Own) (n:Nat):xB own (n+1)=xB own n+if own n=nC then 1 else 0:=by
 unfold xB;rw [X3,B3];simp [Y3]
theorem IX {own own':Nat->Own} {n:Nat} (h:∀ b,b<n->own b=own' b):xB own n=xB own' n:=by
 unfold xB;apply Z3;intro b j;rw [h b (List.mem_range.1 j)]
theorem mQ {own:Nat->Own} {k:Nat} {x:Own}:∀ {n:Nat},k<n->xB (du own k x) n+(if own k=nC then 1 else 0)=xB own n+if x=nC then 1 else 0
 | n+1,h=>by
  rw [rK,rK]
  by_cases j:k=n
  .subst j
   rw [aW,IX (own:=du own k x) (own':=own) fun b o=>aE _ _ (by omega)];omega
  .have:=mQ (own:=own) (x:=x) (show k<n by omega)
   rw [aE _ _ (by omega:n≠k)];omega
structure Bm (n:Nat) (own:Nat->Own) (B:List UInt8):Prop where
 len:B.length=480
 bit:∀ b,b<n->(eB B b=true↔own b≠nC)
theorem Bm.set {n:Nat} {own:Nat->Own} {B:List UInt8} (h:Bm n own B) (hn:n<=3840) {k:Nat} (u:k<n) (x:Own) (t:Bool) (r:t=Q↔x≠nC):Bm n (du own k x) (eC B k t):=by
 refine ⟨by rw [fz];exact h.len,fun b o=>?_⟩;rw [y7 (by rw [h.len];omega)]
 by_cases j:b=k
 .subst j;rw [if_pos rfl,aW];exact r
 .rw [if_neg j,aE _ _ j];exact h.bit b o
theorem Bm.sA {n:Nat} {own:Nat->Own} {B:List UInt8} (h:Bm n own B) {k:Nat} (j:fA B n=Y k):k<n/\own k=nC:=by
 unfold fA at j;have u:=List.mem_of_find?_eq_some j;have o:=List.find?_some j;have t:=List.mem_range.1 u;refine ⟨t,?_⟩;have:=(h.bit k t)
 by_cases r:own k=nC
 .exact r
 .have v:=this.2 r
  rw [v] at o;simp at o
theorem Bm.ir {n:Nat} {own:Nat->Own} {B:List UInt8} (h:Bm n own B) (j:fA B n=U):xB own n=0:=by
 unfold fA at j;rw [List.find?_eq_none] at j;unfold xB;rw [S3];intro b r v;have z:=List.mem_range.1 r;have o:=j b r;have t:own b=nC:=by simpa using v
 have u:=(h.bit b z)
 have h4:eB B b=Q:=by
  cases y:eB B b with
  | true=>rfl
  | false=>rw [y] at o;simp at o
 exact u.1 h4 t
theorem Bm.left {n:Nat} {own:Nat->Own} {B:List UInt8} (h:Bm n own B):n-(dx B n).length=xB own n:=by
 have r:∀ m,m<=n->(dx B m).length+xB own m=m:=by
  intro m
  induction m with
  | zero=>intro _;rfl
  | succ m u=>
   intro v;have:=u (by omega);rw [oF,rK];have o:=h.bit m (by omega)
   by_cases j:own m=nC
   .rw [if_neg (fun t=>o.1 t j),if_pos j];omega
   .rw [if_pos (o.2 j),if_neg j,W3];simp;omega
 have:=r n (D2 _);omega
structure Hd.Ok (n id:Nat) (h:Hd):Prop where
 fit:h.fit
 id:h.id=id
 kd:h.n.kd=1\/h.n.kd=2
 JW:0<=h.n.lk
 Kx:h.n.lk<=65535
 Kt:0<=h.n.sz
 OZ:h.n.sz<=122880
 ze:0<=h.n.rw
 A6:h.n.rw<n
 pg:∀ i,i<256->0<=h.aO i/\h.aO i<n
 rz:h.n.rw=0->∀ i,16<=i->i<256->h.aO i=0
def eJ (N:Nat->Option Hd) (b id:Nat):Prop:=∃ h,N id=Y h/\h.n.rw=(b:Int)/\b≠0
def eL (N:Nat->Option Hd) (b id i:Nat):Prop:=∃ h,N id=Y h/\i<256/\h.aO i=(b:Int)/\b≠0
structure jB (n:Nat) (own:Nat->Own) (N:Nat->Option Hd):Prop where
 bm:∀ b,own b=Lr↔b=0
 out:∀ b,n<=b->own b=nC
 ok:∀ id h,N id=some h->0<id/\id<n/\h.Ok n id
 nd:∀ b,own b=Rn↔(N b).isSome=true
 rw:∀ b id,own b=Ku id↔eJ N b id
 pg:∀ b id i,own b=GH id i↔eL N b id i
section
variable {n id k i:Nat} {own:Nat->Own} {N:Nat->Option Hd} {h h':Hd}
theorem jB.tR (L:jB n own N) (hN:N id=Y h):own id=Rn:=(L.nd id).2 (by rw [hN];rfl)
theorem jB.vr (L:jB n own N) (hN:N id=Y h) (h0:h.n.rw≠0):own h.n.rw.toNat=Ku id:=by
 have:=(L.ok id h hN).2.2.ze;exact (L.rw _ _).2 ⟨h,hN,by omega,by omega⟩
theorem jB.CI (L:jB n own N) (hN:N id=Y h) (hi:i<256) (h0:h.aO i≠0):own (h.aO i).toNat=GH id i:=by
 have:=((L.ok id h hN).2.2.pg i hi).1;exact (L.pg _ _ _).2 ⟨h,hN,hi,by omega,by omega⟩
theorem jB.zero (L:jB n own N):own 0=Lr:=(L.bm 0).2 rfl
theorem jB.jW (L:jB n own N) (j:own k=nC):k≠0:=by rintro rfl;rw [L.zero] at j;cases j
theorem jB.ir (L:jB n own N) (j:own k=nC):N k=U:=by
 cases hN:N k with
 | none=>rfl
 | some h=>have:=L.tR hN;rw [j] at this;cases this
theorem jB.fK (L:jB n own N) {x:Own} {o:Nat->Option Hd} (t:k≠0) (d0:k<n) (hx:x≠Lr) (y:∀ id h,o id=Y h->0<id/\id<n/\h.Ok n id)
  (u:∀ b,b≠k->(o b).isSome=(N b).isSome) (v:x=Rn↔(o k).isSome=Q)
  (c0:∀ b id,b≠k->(eJ o b id↔eJ N b id)) (b0:∀ id,x=Ku id↔eJ o k id)
  (z:∀ b id i,b≠k->(eL o b id i↔eL N b id i)) (T:∀ id i,x=GH id i↔eL o k id i):jB n (du own k x) o:=by
 refine ⟨fun b=>?_,fun b r=>?_,y,fun b=>?_,fun b id=>?_,fun b id i=>?_⟩
 .by_cases j:b=k
  .subst j;rw [aW];exact ⟨fun h=>absurd h hx,fun h=>absurd h t⟩
  .rw [aE _ _ j];exact L.bm b
 .rw [aE _ _ (by omega)];exact L.out b r
 .by_cases j:b=k
  .subst j;rw [aW];exact v
  .rw [aE _ _ j,u b j];exact L.nd b
 .by_cases j:b=k
  .subst j;rw [aW];exact b0 id
  .rw [aE _ _ j,c0 b id j];exact L.rw b id
 .by_cases j:b=k
  .subst j;rw [aW];exact T id i
  .rw [aE _ _ j,z b id i j];exact L.pg b id i
theorem rh {N:Nat->Option Hd} {o:Option Hd} {id id':Nat} {g:Hd} (h:du N id o id'=Y g):(id'=id/\o=Y g)\/(id'≠id/\N id'=Y g):=by
 by_cases e:id'=id
 .subst e;rw [aW] at h;exact .inl ⟨rfl,h⟩
 .rw [aE _ _ e] at h;exact .inr ⟨e,h⟩
theorem gD {N:Nat->Option Hd} {id b:Nat} (hN:N id=Y h):(du N id (Y h') b).isSome=(N b).isSome:=by
 by_cases e:b=id
 .subst e;rw [aW,hN];rfl
 .rw [aE _ _ e]
theorem lP (hN:N id=Y h) {b id':Nat} (r:b≠0->(h'.n.rw=(b:Int)↔h.n.rw=(b:Int))):eJ (du N id (Y h')) b id'↔eJ N b id':=by
 by_cases e:id'=id
 .subst e
  unfold eJ;rw [aW,hN];constructor
  .rintro ⟨g,e,o,j⟩;cases e;exact ⟨h,rfl,(r j).1 o,j⟩
  .rintro ⟨g,e,o,j⟩;cases e;exact ⟨h',rfl,(r j).2 o,j⟩
 .unfold eJ;rw [aE _ _ e]
theorem lO (hN:N id=Y h) {b id' j:Nat} (u:j<256->b≠0->(h'.aO j=(b:Int)↔h.aO j=(b:Int))):eL (du N id (Y h')) b id' j↔eL N b id' j:=by
 by_cases e:id'=id
 .subst e
  unfold eL;rw [aW,hN];constructor
  .rintro ⟨g,e,r,t,o⟩;cases e;exact ⟨h,rfl,r,(u r o).1 t,o⟩
  .rintro ⟨g,e,r,t,o⟩;cases e;exact ⟨h',rfl,r,(u r o).2 t,o⟩
 .unfold eL;rw [aE _ _ e]
theorem jB.KK (L:jB n own N) (hN:N id=Y h) (o:h'.Ok n id):∀ id' g,du N id (Y h') id'=Y g->0<id'/\id'<n/\g.Ok n id':=by
 intro id' g j;rcases rh j with ⟨rfl,e⟩|⟨_,e⟩
 .cases e;exact ⟨(L.ok _ _ hN).1,(L.ok _ _ hN).2.1,o⟩
 .exact L.ok _ _ e
theorem jB.CP (L:jB n own N) {x:Own} (j:own k=x) (o:∀ id,x≠Ku id):∀ id,¬ eJ N k id:=fun id h=>o id (j.symm.trans ((L.rw k id).2 h))
theorem jB.zh (L:jB n own N) {x:Own} (j:own k=x) (o:∀ id i,x≠GH id i):∀ id i,¬ eL N k id i:=fun id i h=>o id i (j.symm.trans ((L.pg k id i).2 h))
theorem jB.new (L:jB n own N) (o:own k=nC) (t:k<n) (T:h'.Ok n k) (hp:∀ i,i<256->h'.aO i=0) (hr:h'.n.rw=0):jB n (du own k Rn) (du N k (Y h')):=by
 have hN:=L.ir o;have z:=L.jW o
 have hR:∀ b id,eJ (du N k (Y h')) b id↔eJ N b id:=by
  intro b id
  by_cases e:id=k
  .subst e
   unfold eJ;rw [aW,hN];constructor
   .rintro ⟨g,e,j,u⟩;cases e;rw [hr] at j;exact absurd j (by omega)
   .rintro ⟨g,e,_⟩;cases e
  .unfold eJ;rw [aE _ _ e]
 have r:∀ b id i,eL (du N k (Y h')) b id i↔eL N b id i:=by
  intro b id i
  by_cases e:id=k
  .subst e
   unfold eL;rw [aW,hN];constructor
   .rintro ⟨g,e,hi,j,u⟩;cases e;rw [hp i hi] at j;exact absurd j (by omega)
   .rintro ⟨g,e,_⟩;cases e
  .unfold eL;rw [aE _ _ e]
 refine L.fK z t (by decide) ?_ (fun b v=>by rw [aE _ _ v]) (by rw [aW];simp) (fun b id _=>hR b id) (fun id=>?_) (fun b id i _=>r b id i) (fun id i=>?_)
 .intro id g y
  rcases rh y with ⟨rfl,e⟩|⟨_,e⟩
  .cases e;exact ⟨by omega,t,T⟩
  .exact L.ok _ _ e
 .rw [hR]
  exact ⟨fun h=>absurd h (by simp),fun h=>absurd h (L.CP o (by simp) id)⟩
 .rw [r]
  exact ⟨fun h=>absurd h (by simp),fun h=>absurd h (L.zh o (by simp) id i)⟩
theorem jB.aO (L:jB n own N) (hN:N id=Y h) (t:own k=nC) (e0:k<n) (hi:i<256) (h0:h.aO i=0) (hr:16<=i->h.n.rw≠0):jB n (du own k (GH id i)) (du N id (Y (h.put i (k:Int)))):=by
 have c0:=L.jW t;have o:=(L.ok _ _ hN).2.2;have u:=fun j=>Hd.jE o.fit hi (k:Int) j;have hR:∀ b id',eJ (du N id (Y (h.put i (k:Int)))) b id'↔eJ N b id':=fun b id'=>lP hN (by rw [Hd.ig];exact fun _=>Iff.rfl);refine L.fK c0 e0 (by simp) (L.KK hN ?_) (fun b _=>gD hN) ?_ (fun b id _=>hR b id) (fun id'=>?_) (fun b id' j hb=>lO hN fun v=>?_) (fun id' j=>?_)
 .refine ⟨Hd.uU o.fit _ _,by rw [Hd.OK];exact o.id,?_,?_,?_,?_,?_,by rw [Hd.ig];exact o.ze,by rw [Hd.ig];exact o.A6,fun j v=>?_,fun r j b0 d0=>?_⟩
  .unfold Hd.put;split <;> exact o.kd
  .unfold Hd.put;split <;> exact o.JW
  .unfold Hd.put;split <;> exact o.Kx
  .rw [Hd.AY];exact o.Kt
  .rw [Hd.AY];exact o.OZ
  .rw [u];split
   .exact ⟨by omega,by omega⟩
   .exact o.pg j v
  .rw [Hd.ig] at r
   rw [u,if_neg (by rintro rfl;exact hr b0 r)];exact o.rz r j b0 d0
 .have:(N k)=U:=L.ir t
  rw [gD hN,this];simp
 .rw [hR];exact ⟨fun h=>absurd h (by simp),fun h=>absurd h (L.CP t (by simp) id')⟩
 .rw [u]
  intro f0
  split
  .rename_i e;subst e;rw [h0]
   exact ⟨fun h=>absurd (by omega) hb,fun h=>absurd h.symm (by omega)⟩
  .exact Iff.rfl
 .by_cases e:id'=id
  .subst e
   by_cases z:j=i
   .subst z
    exact ⟨fun _=>⟨_,aW _ _ _,hi,by rw [u,if_pos rfl],c0⟩,fun _=>rfl⟩
   .refine ⟨fun h=>absurd h (by simp;omega),fun r=>?_⟩
    obtain ⟨g,e,v,T,h2⟩:=r;rw [aW] at e;cases e
    rw [u,if_neg z] at T;exact absurd ⟨h,hN,v,T,h2⟩ (L.zh t (by simp) _ _)
  .refine ⟨fun h=>absurd h (by simp;omega),fun r=>?_⟩
   obtain ⟨g,y,r⟩:=r;rw [aE _ _ e] at y;exact absurd ⟨g,y,r⟩ (L.zh t (by simp) _ _)
theorem jB.row (L:jB n own N) (hN:N id=Y h) (t:own k=nC) (z:k<n) (h0:h.n.rw=0):jB n (du own k (Ku id)) (du N id (Y (h.dK (k:Int)))):=by
 have y:=L.jW t;have o:=(L.ok _ _ hN).2.2;have v:∀ b id' j,eL (du N id (Y (h.dK (k:Int)))) b id' j↔eL N b id' j:=fun b id' j=>lO hN fun _ _=>Iff.rfl;refine L.fK y z (by simp) (L.KK hN ?_) (fun b _=>gD hN) ?_ (fun b id' T=>lP hN fun b0=>?_) (fun id'=>?_) (fun b id i _=>v b id i) (fun id' j=>?_)
 .exact ⟨o.fit,o.id,o.kd,o.JW,o.Kx,o.Kt,o.OZ,show 0<=(k:Int) by omega,show (k:Int)<n by omega,o.pg,fun r=>absurd (show (k:Int)=0 from r) (by omega)⟩
 .rw [gD hN,L.ir t];simp
 .rw [h0];show (k:Int)=b↔_;constructor <;> intro r <;> omega
 .by_cases e:id'=id
  .subst e
   exact ⟨fun _=>⟨_,aW _ _ _,rfl,y⟩,fun _=>rfl⟩
  .refine ⟨fun h=>absurd h (by simp;omega),fun r=>?_⟩
   obtain ⟨g,u,r⟩:=r;rw [aE _ _ e] at u;exact absurd ⟨g,u,r⟩ (L.CP t (by simp) _)
 .rw [v];exact ⟨fun h=>absurd h (by simp),fun h=>absurd h (L.zh t (by simp) id' j)⟩
theorem jB.Sr (L:jB n own N) (hN:N id=Y h) (hi:i<256) (h0:h.aO i≠0):jB n (du own (h.aO i).toNat nC) (du N id (Y (h.put i 0))):=by
 have o:=(L.ok _ _ hN).2.2;have hp:=o.pg i hi;obtain ⟨k,T⟩:∃ k:Nat,h.aO i=(k:Int):=⟨(h.aO i).toNat,by omega⟩
 have u:=L.CI hN hi h0;rw [T,J2] at u ⊢;have d0:k≠0:=by omega
 have y:=fun j=>Hd.jE o.fit hi 0 j;have hR:∀ b id',eJ (du N id (Y (h.put i 0))) b id'↔eJ N b id':=fun b id'=>lP hN (by rw [Hd.ig];exact fun _=>Iff.rfl);refine L.fK d0 (by omega) (by decide) (L.KK hN ?_) (fun b _=>gD hN) ?_ (fun b id _=>hR b id) (fun id'=>?_) (fun b id' j hb=>?_) (fun id' j=>?_)
 .refine ⟨Hd.uU o.fit _ _,by rw [Hd.OK];exact o.id,?_,?_,?_,?_,?_,by rw [Hd.ig];exact o.ze,by rw [Hd.ig];exact o.A6,fun j t=>?_,fun r j b0 c0=>?_⟩
  .unfold Hd.put;split <;> exact o.kd
  .unfold Hd.put;split <;> exact o.JW
  .unfold Hd.put;split <;> exact o.Kx
  .rw [Hd.AY];exact o.Kt
  .rw [Hd.AY];exact o.OZ
  .rw [y];split
   .exact ⟨by omega,by omega⟩
   .exact o.pg j t
  .rw [Hd.ig] at r
   rw [y];split
   .rfl
   .exact o.rz r j b0 c0
 .rw [gD hN]
  refine ⟨fun h=>absurd h (by simp),fun r=>?_⟩;have:=(L.nd k).2 r;rw [u] at this;cases this
 .rw [hR];exact ⟨fun h=>absurd h (by simp),fun h=>absurd h (L.CP u (by simp) id')⟩
 .by_cases e:id'=id
  .subst e
   refine lO hN fun t e0=>?_;rw [y]
   split
   .rename_i e;subst e;rw [T]
    constructor <;> intro r <;> omega
   .exact Iff.rfl
  .unfold eL;rw [aE _ _ e]
 .refine ⟨fun h=>absurd h (by simp),fun r=>?_⟩
  obtain ⟨g,e,t,v,z⟩:=r;rcases rh e with ⟨rfl,e2⟩|⟨e1,e⟩
  .cases e2
   rw [y] at v
   split at v
   .omega
   .have:=(L.pg k id' j).2 ⟨h,hN,t,v,z⟩
    rw [u] at this;simp at this;omega
  .have:=(L.pg k id' j).2 ⟨g,e,t,v,z⟩
   rw [u] at this;simp at this;omega
theorem jB.Vm (L:jB n own N) (hN:N id=Y h) (h0:h.n.rw≠0) (hz:∀ i,16<=i->i<256->h.aO i=0):jB n (du own h.n.rw.toNat nC) (du N id (Y (h.dK 0))):=by
 have o:=(L.ok _ _ hN).2.2;have d0:=o.ze;have e0:=o.A6;obtain ⟨k,y⟩:∃ k:Nat,h.n.rw=(k:Int):=⟨h.n.rw.toNat,by omega⟩
 have t:=L.vr hN h0;rw [y,J2] at t ⊢;have b0:k≠0:=by omega
 have v:∀ b id' j,eL (du N id (Y (h.dK 0))) b id' j↔eL N b id' j:=fun b id' j=>lO hN fun _ _=>Iff.rfl;refine L.fK b0 (by omega) (by decide) (L.KK hN ?_) (fun b _=>gD hN) ?_ (fun b id' hb=>?_) (fun id'=>?_) (fun b id i _=>v b id i) (fun id' j=>?_)
 .exact ⟨o.fit,o.id,o.kd,o.JW,o.Kx,o.Kt,o.OZ,Int.le_refl _,show (0:Int)<n by omega,o.pg,fun _=>hz⟩
 .rw [gD hN]
  refine ⟨fun h=>absurd h (by simp),fun r=>?_⟩;have:=(L.nd k).2 r;rw [t] at this;cases this
 .by_cases e:id'=id
  .subst e
   refine lP hN fun c0=>?_;rw [y];show (0:Int)=b↔_;constructor <;> intro r <;> omega
  .unfold eJ;rw [aE _ _ e]
 .refine ⟨fun h=>absurd h (by simp),fun r=>?_⟩
  obtain ⟨g,e,u,T⟩:=r;rcases rh e with ⟨rfl,z⟩|⟨e1,e⟩
  .cases z
   exact absurd (show (0:Int)=k from u) (by omega)
  .have:=(L.rw k id').2 ⟨g,e,u,T⟩
   rw [t] at this;simp at this;omega
 .rw [v];exact ⟨fun h=>absurd h (by simp),fun h=>absurd h (L.zh t (by simp) id' j)⟩
theorem jB.gone (L:jB n own N) (hN:N id=Y h) (h0:h.n.rw=0) (hz:∀ i,i<256->h.aO i=0):jB n (du own id nC) (du N id U):=by
 have T:=(L.ok _ _ hN)
 have t:=L.tR hN
 have hR:∀ b id',eJ (du N id U) b id'↔eJ N b id':=by
  intro b id'
  by_cases e:id'=id
  .subst e
   unfold eJ;rw [aW,hN];constructor
   .rintro ⟨g,e,_⟩;cases e
   .rintro ⟨g,e,o,u⟩;cases e;rw [h0] at o;exact absurd o (by omega)
  .unfold eJ;rw [aE _ _ e]
 have r:∀ b id' j,eL (du N id U) b id' j↔eL N b id' j:=by
  intro b id' j
  by_cases e:id'=id
  .subst e
   unfold eL;rw [aW,hN];constructor
   .rintro ⟨g,e,_⟩;cases e
   .rintro ⟨g,e,z,o,u⟩;cases e;rw [hz j z] at o;exact absurd o (by omega)
  .unfold eL;rw [aE _ _ e]
 refine L.fK (by omega) T.2.1 (by decide) ?_ (fun b v=>by rw [aE _ _ v]) (by rw [aW];simp) (fun b id _=>hR b id) (fun id'=>?_) (fun b id' j _=>r b id' j) (fun id' j=>?_)
 .intro id' g y
  rcases rh y with ⟨rfl,e⟩|⟨_,e⟩
  .cases e
  .exact L.ok _ _ e
 .rw [hR];exact ⟨fun h=>absurd h (by simp),fun h=>absurd h (L.CP t (by simp) id')⟩
 .rw [r];exact ⟨fun h=>absurd h (by simp),fun h=>absurd h (L.zh t (by simp) id' j)⟩
theorem jB.set (L:jB n own N) (hN:N id=Y h) (r:h'.Ok n id) (hr:h'.n.rw=h.n.rw) (t:∀ i,i<256->h'.aO i=h.aO i):jB n own (du N id (Y h')):=by
 refine ⟨L.bm,L.out,L.KK hN r,fun b=>?_,fun b id'=>?_,fun b id' j=>?_⟩
 .rw [gD hN];exact L.nd b
 .rw [lP hN fun _=>by rw [hr]];exact L.rw b id'
 .rw [lO hN fun o _=>by rw [t j o]];exact L.pg b id' j
end
def jO (V:Nat->List UInt8) (h:Hd) (p:Nat):UInt8:=if h.aO (p/480)=0 then 0 else (V (h.aO (p/480)).toNat).getD (p%480) 0
structure yR (V:Nat->List UInt8) (h:Hd):Prop where
 dec:kV (V h.id)=(h.n,0)
 row:h.n.rw≠0->l7 (V h.n.rw.toNat)=(h.row,0)
structure Hd.Fin (h:Hd):Prop where
 hi:∀ i:Nat,i<256->bf h.n.sz<=i->h.aO i=0
 Vv:h.n.rw≠0->∃ i,16<=i/\i<256/\h.aO i≠0
def CA (V:Nat->List UInt8) (h:Hd):Prop:=∀ p:Nat,p<122880->h.n.sz<=p->jO V h p=0
structure ub (n:Nat) (a:Aw) (own:Nat->Own) (N:Nat->Option Hd) (id:Nat):Prop where
 lay:jB n own N
 bm:Bm n own a.B
 len:∀ b,0<b->b<n->(a.V b).length=480
 rest:∀ id' h,id'≠id->N id'=some h->h.Fin/\yR a.V h/\CA a.V h
section
variable {n id k i:Nat} {own:Nat->Own} {N:Nat->Option Hd} {h h':Hd} {a:Aw} {V V':Nat->List UInt8}
theorem jB.WV (L:jB n own N):N 0=U:=by
 cases hN:N 0 with
 | none=>rfl
 | some h=>exact absurd (L.ok 0 h hN).1 (by omega)
theorem kO (V:Nat->List UInt8) (k:Nat) (l:List UInt8):A5 V k l k=l:=if_pos rfl
theorem fT (V:Nat->List UInt8) {k b:Nat} (l:List UInt8) (h:b≠k):A5 V k l b=V b:=if_neg h
theorem yR.frame (L:jB n own N) (hN:N id=Y h) (o:yR V h) (j:∀ b,b=id\/own b=Ku id->V' b=V b):yR V' h:=by
 have r:=(L.ok _ _ hN).2.2;refine ⟨?_,fun h0=>?_⟩
 .rw [j _ (.inl r.id)];exact o.dec
 .rw [j _ (.inr (L.vr hN h0))];exact o.row h0
theorem pM (L:jB n own N) (hN:N id=Y h) (j:∀ b i,own b=GH id i->V' b=V b) {p:Nat} (o:p<122880):jO V' h p=jO V h p:=by
 unfold jO
 split
 .rfl
 .rename_i h0
  rw [j _ _ (L.CI hN (by omega) h0)]
theorem CA.frame (L:jB n own N) (hN:N id=Y h) (t:CA V h) (r:∀ b i,own b=GH id i->V' b=V b):CA V' h:=fun p j o=>by
 rw [pM L hN r j];exact t p j o
def Jp (own:Nat->Own) (id k:Nat):Prop:=own k=nC\/(own k=Rn/\k=id)\/own k=Ku id\/∃ i,own k=GH id i
theorem wI {id':Nat} (L:jB n own N) (hN:N id'=Y h) (u:id'≠id) (t:Jp own id k):k≠id'/\own k≠Ku id'/\∀ i,own k≠GH id' i:=by
 have:=L.tR hN;refine ⟨?_,?_,?_⟩
 .rintro rfl
  rcases t with o|⟨_,o⟩|o|⟨i,o⟩
  .rw [this] at o;cases o
  .exact u o
  .rw [this] at o;cases o
  .rw [this] at o;cases o
 .intro r
  rcases t with o|⟨o,_⟩|o|⟨i,o⟩
  .rw [r] at o;cases o
  .rw [r] at o;cases o
  .rw [r] at o;simp at o;exact u o
  .rw [r] at o;cases o
 .intro j r
  rcases t with o|⟨o,_⟩|o|⟨i,o⟩
  .rw [r] at o;cases o
  .rw [r] at o;cases o
  .rw [r] at o;cases o
  .rw [r] at o;simp at o;exact u o.1
theorem ub.Q4 (S:ub n a own N id) {id':Nat} (r:id'≠id) (hN:N id'=Y h) (t:∀ b,¬ Jp own id b->V' b=a.V b):h.Fin/\yR V' h/\CA V' h:=by
 obtain ⟨u,v,y⟩:=S.rest id' h r hN;refine ⟨u,v.frame S.lay hN fun b j=>t b fun o=>?_,y.frame S.lay hN fun b i j=>t b fun o=>?_⟩
 .have:=wI S.lay hN r o
  rcases j with rfl|j
  .exact this.1 rfl
  .exact this.2.1 j
 .exact (wI S.lay hN r o).2.2 i j
theorem y6 (L:jB n own N) {id':Nat} (t:id'≠id) (hN:N id'=Y h) (j:∀ b,¬ Jp own id b->V' b=V b) {p:Nat} (u:p<122880):jO V' h p=jO V h p:=
 pM L hN (fun b i o=>j b fun r=>(wI L hN t r).2.2 i o) u
theorem ub.fO (S:ub n a own N 0) (id:Nat):ub n a own N id:=⟨S.lay,S.bm,S.len,fun id' h j hN=>S.rest id' h (by rintro rfl;rw [S.lay.WV] at hN;cases hN) hN⟩
theorem ub.write (S:ub n a own N id) (o:Jp own id k) {l:List UInt8} (r:l.length=480):ub n { a with V:=A5 a.V k l } own N id:=by
 refine ⟨S.lay,S.bm,fun b h0 j=>?_,fun id' h u hN=>S.Q4 u hN fun b t=>fT _ _ (by rintro rfl;exact t o)⟩
 by_cases e:b=k
 .subst e;show (A5 a.V b l b).length=480;rw [kO];exact r
 .show (A5 a.V k l b).length=480;rw [fT _ _ e];exact S.len b h0 j
theorem ub.step (S:ub n a own N id) {o:Nat->Own} {j:Nat->Option Hd} {r:List UInt8} (u:jB n o j) (y:Bm n o r) (hN:∀ id',id'≠id->j id'=N id'):ub n { a with B:=r } o j id:=
 ⟨u,y,S.len,fun id' h t v=>S.rest id' h t ((hN id' t).symm.trans v)⟩
theorem ub.shut (S:ub n a own N id) (j:∀ h,N id=Y h->h.Fin/\yR a.V h/\CA a.V h):ub n a own N 0:=
 ⟨S.lay,S.bm,S.len,fun id' h _ hN=>by
  by_cases e:id'=id
  .subst e;exact j h hN
  .exact S.rest id' h e hN⟩
theorem Hd.Ok.ok (j:h.Ok n id) (hn:n<=3840) (r:h.Fin):h.n.ok=Q:=by
 have u:∀ i,i<16->h.aO i=h.n.dr.getD i 0:=fun i hi=>by unfold Hd.aO;rw [if_pos hi]
 unfold Nd.ok
 have v:h.n.dr.all dq=Q:=by
  rw [D3];intro p hp;obtain ⟨i,hi,rfl⟩:=G3 hp;have T:i<16:=by have:=j.fit.1;omega
  have h1:=j.pg i (by omega);have t:=u i T;rw [E2,R2 hi] at t;simp only [Option.getD_some] at t;unfold dq;simp only [N2,decide_eq_true_eq];omega
 have y:dq h.n.rw=Q:=by
  have:=j.ze;have:=j.A6;unfold dq;simp only [N2,decide_eq_true_eq];omega
 have z:(16<bf h.n.sz)\/h.n.rw=0:=by
  by_cases h0:h.n.rw=0
  .exact .inr h0
  .obtain ⟨i,i1,i2,i3⟩:=r.Vv h0
   left
   by_cases o:bf h.n.sz<=i
   .exact absurd (r.hi i i2 o) i3
   .omega
 have L:((H2 16).all fun i=>decide ((i:Int)<bf h.n.sz) || decide (h.n.dr.getD i 0=0))=Q:=by
  rw [D3];intro i hi;have hi:=List.mem_range.1 hi;simp only [P2,decide_eq_true_eq]
  by_cases o:bf h.n.sz<=i
  .right;rw [<- u i hi];exact r.hi i (by omega) o
  .left;omega
 rw [v,y,L];have:=j.kd;have:=j.JW;have:=j.Kx;have:=j.Kt;have:=j.OZ;simp only [N2,P2,decide_eq_true_eq];exact ⟨⟨⟨⟨⟨⟨⟨⟨j.kd,j.JW⟩,j.Kx⟩,j.Kt⟩,j.OZ⟩,trivial⟩,trivial⟩,z⟩,trivial⟩
theorem Hd.Ok.row (o:h.Ok n id) (hn:n<=3840):h.row.all dq=Q/\h.row.all (fun x=>decide (x<n))=Q:=by
 have r:∀ x ∈ h.row,0<=x/\x<n:=by
  intro x j;obtain ⟨i,hi,rfl⟩:=G3 j;have v:=o.fit.2;have t:=o.pg (16+i) (by omega)
  have u:h.aO (16+i)=h.row[i]:=by
   unfold Hd.aO;rw [if_neg (by omega),show 16+i-16=i by omega,E2,R2 hi];rfl
  omega
 constructor
 .rw [D3];intro x j;have:=r x j;unfold dq;simp only [N2,decide_eq_true_eq];omega
 .rw [D3];intro x j;have:=r x j;simp only [decide_eq_true_eq];omega
theorem Hd.Ok.dr (j:h.Ok n id):h.n.dr.all (fun x=>decide (x<n))=Q:=by
 rw [D3];intro x o;obtain ⟨i,hi,rfl⟩:=G3 o;have t:=j.fit.1;have r:=j.pg i (by omega)
 have u:h.aO i=h.n.dr[i]:=by
  unfold Hd.aO;rw [if_pos (by omega),E2,R2 hi];rfl
 simp only [decide_eq_true_eq];omega
theorem Hd.Ok.Wb (o:h.Ok n id) (h0:h.n.rw=0):h.row=L2 240 0:=by
 rw [S4];refine ⟨o.fit.2,fun x r=>?_⟩;obtain ⟨i,hi,rfl⟩:=G3 r;have t:=o.fit.2;have j:=o.rz h0 (16+i) (by omega) (by omega);unfold Hd.aO at j;rw [if_neg (by omega),show 16+i-16=i by omega,E2,R2 hi] at j;exact j
end
section
variable {σ:Type} {n id:Nat} {own:Nat->Own} {N:Nat->Option Hd} {h:Hd} {a:Aw} {V0:Nat->List UInt8} {I:σ->Prop} {ask:cO σ} {E:Int->Prop}
theorem aL.within {l:List Int} (j:l.all (fun x=>decide (x<n))=Q):aL n V0 I (eS n l) a (fun _ a'=>a'=a) E:=
 aL.congr (m':=WM.pure ()) (aL.pure rfl) fun st=>by unfold eS WM.pure;rw [if_pos j]
theorem aL.load (hr:qC ask n V0 I) (hn:n<=3840) (S:ub n a own N 0) (hN:N id=Y h):aL n V0 I (gv ask n (id:Int)) a (fun x a'=>x=h/\a'=a) E:=by
 obtain ⟨y,z,j⟩:=S.lay.ok _ _ hN;obtain ⟨T,u,ht⟩:=S.rest id h (by omega) hN
 have r:∀ a,aL n V0 I (ja n id h.n h.row) a (fun x a'=>x=h/\a'=a) E:=by
  intro a;refine (aL.within j.dr).bind fun _ a' e=>?_;subst e;refine (aL.within (j.row hn).2).bind fun _ a' e=>?_;subst e;exact aL.pure ⟨by rw [<- j.id],rfl⟩
 refine aL.congr (m':=WM.bind (de ask (id:Int)) fun L=>Tv (kV L) (lJ ask n id)) ?_ fun st=>if_pos ⟨by omega,by omega⟩;refine (aL.read hr y z).bind fun L a' e=>?_;obtain ⟨rfl,-,rfl⟩:=e;have t:=u.dec;rw [j.id] at t;rw [t];refine aL.congr (m':=lJ ask n id h.n) ?_ fun st=>if_pos rfl
 by_cases h0:h.n.rw=0
 .refine aL.congr (m':=ja n id h.n h.row) (r _) fun st=>?_
  rw [j.Wb h0];exact if_pos h0
 .have r0:=j.ze
  have r1:=j.A6;obtain ⟨k,v⟩:∃ k:Nat,h.n.rw=(k:Int):=⟨h.n.rw.toNat,by omega⟩
  have o:=u.row h0;refine aL.congr (m':=WM.bind (eS n [h.n.rw]) fun _=>WM.bind (de ask h.n.rw) fun L=>KP (l7 L) (ja n id h.n)) ?_ fun st=>if_neg h0;refine (aL.within (by simp;omega)).bind fun _ a' e=>?_;subst e;rw [v] at o ⊢;refine (aL.read hr (by omega) (by omega)).bind fun L a' e=>?_;obtain ⟨rfl,-,rfl⟩:=e;rw [J2] at o;rw [o];exact (r _).congr fun st=>if_pos rfl
def lz (V:Nat->List UInt8) (h:Hd):Nat->List UInt8:=if h.n.rw=0 then A5 V h.id (iW h.n) else A5 (A5 V h.id (iW h.n)) h.n.rw.toNat (ke h.row)
theorem aL.save (o:0<h.id) (r:h.id<n) (z:h.n.rw<n) (y:0<=h.n.rw) (u:h.n.ok=Q) (v:h.row.all dq=Q) (j:h.row.length=240):aL n V0 I (ez h) a (fun _ a'=>a'={ a with V:=lz a.V h }) E:=by
 refine aL.congr (m':=WM.bind (bQ (h.id:Int) (iW h.n)) fun _=>NZ h) ?_ fun st=>if_pos u;refine (aL.write o r (rS _)).bind fun _ a' e=>?_;subst e
 by_cases h0:h.n.rw=0
 .refine aL.congr (m':=WM.pure ()) (aL.pure ?_) fun st=>if_pos h0
  unfold lz;rw [if_pos h0]
 .obtain ⟨k,t⟩:∃ k:Nat,h.n.rw=(k:Int):=⟨h.n.rw.toNat,by omega⟩
  refine aL.congr (m':=bQ h.n.rw (ke h.row)) ?_ fun st=>(if_neg h0).trans (if_pos v);unfold lz;rw [if_neg h0];rw [t,J2];exact aL.write (by omega) (by omega) (by rw [ju,j])
theorem qu {V:Nat->List UInt8} {b:Nat} (j:b≠h.id) (o:h.n.rw≠0->b≠h.n.rw.toNat):lz V h b=V b:=by
 unfold lz
 split
 .exact fT _ _ j
 .rename_i h0;rw [fT _ _ (o h0),fT _ _ j]
theorem ub.saved (S:ub n a own N id) (hn:n<=3840) (hN:N id=Y h) (v:h.Fin) (ht:CA a.V h):ub n { a with V:=lz a.V h } own N 0/\∀ p,p<122880->jO (lz a.V h) h p=jO a.V h p:=by
 obtain ⟨i0,i1,o⟩:=S.lay.ok _ _ hN;have r:=o.id
 have L:∀ b,¬ Jp own id b->lz a.V h b=a.V b:=by
  intro b j;refine qu ?_ fun h0=>?_
  .rintro rfl;exact j (.inr (.inl ⟨by rw [r];exact S.lay.tR hN,r⟩))
  .rintro rfl;exact j (.inr (.inr (.inl (S.lay.vr hN h0))))
 have y:∀ b i,own b=GH id i->lz a.V h b=a.V b:=by
  intro b i j;refine qu ?_ fun h0=>?_
  .rintro rfl;rw [r,S.lay.tR hN] at j;cases j
  .rintro rfl;rw [S.lay.vr hN h0] at j;cases j
 refine ⟨⟨S.lay,S.bm,fun b h0 j=>?_,fun id' g _ t=>?_⟩,fun p T=>pM S.lay hN y T⟩
 .show (lz a.V h b).length=480
  unfold lz
  have u:(A5 a.V h.id (iW h.n) b).length=480:=by
   by_cases e:b=h.id
   .subst e;rw [kO];exact rS _
   .rw [fT _ _ e];exact S.len b h0 j
  split
  .exact u
  .by_cases e:b=h.n.rw.toNat
   .subst e;rw [kO,ju,o.fit.2]
   .rw [fT _ _ e];exact u
 .by_cases e:id'=id
  .subst e
   rw [hN] at t;cases t
   refine ⟨v,⟨?_,fun h0=>?_⟩,ht.frame S.lay hN y⟩
   .show kV (lz a.V h h.id)=_
    have e:lz a.V h h.id=iW h.n:=by
     unfold lz
     split
     .exact kO _ _ _
     .rename_i h0
      rw [fT _ _ ?_,kO];intro z;have:=S.lay.vr hN h0;rw [<- z,r,S.lay.tR hN] at this;cases this
    rw [e];exact LD o.fit.1 (o.ok hn v)
   .show l7 (lz a.V h h.n.rw.toNat)=_
    unfold lz;rw [if_neg h0,kO];exact Oa o.fit.2 (o.row hn).1
  .exact S.Q4 e t L
end
structure AF where
 kd:Int
 lk:Int
 sz:Nat
 pR:Nat->UInt8
 pr:Nat->Bool
def eD (h:Hd) (i:Nat):Bool:=decide (i<256) && decide (h.aO i≠0)
def gR (V:Nat->List UInt8) (h:Hd):AF:=⟨h.n.kd,h.n.lk,h.n.sz.toNat,fun p=>if p<122880 then jO V h p else 0,eD h⟩
def jC (pr:Nat->Bool):Nat:=(H2 256).countP pr
def AL (pr:Nat->Bool):Bool:=(H2 256).any fun i=>decide (16<=i) && pr i
def bh (pr:Nat->Bool):Nat:=1+jC pr+if AL pr=Q then 1 else 0
def Hd.mw (h:Hd):Nat:=1+jC (eD h)+if h.n.rw=0 then 0 else 1
theorem fI {pr:Nat->Bool}:AL pr=Q↔∃ i,16<=i/\i<256/\pr i=Q:=by
 unfold AL;rw [List.any_eq_true];constructor
 .rintro ⟨i,hi,h⟩
  simp only [N2,decide_eq_true_eq] at h;exact ⟨i,h.1,List.mem_range.1 hi,h.2⟩
 .rintro ⟨i,j,o,r⟩
  exact ⟨i,List.mem_range.2 o,by simp only [N2,decide_eq_true_eq];exact ⟨j,r⟩⟩
theorem qP {p q:Nat->Bool} (h:∀ i,i<256->p i=q i):jC p=jC q:=by
 unfold jC;exact Z3 fun i hi=>by rw [h i (List.mem_range.1 hi)]
theorem tY {p q:Nat->Bool} (h:∀ i,i<256->p i=q i):bh p=bh q:=by
 have e:AL p=AL q:=by
  cases t:AL q with
  | true=>
   obtain ⟨i,o,j,r⟩:=fI.1 t;exact fI.2 ⟨i,o,j,by rw [h i j];exact r⟩
  | false=>
   cases u:AL p with
   | false=>rfl
   | true=>
    obtain ⟨i,o,j,r⟩:=fI.1 u;rw [fI.2 ⟨i,o,j,by rw [<- h i j];exact r⟩] at t;cases t
 unfold bh;rw [qP h,e]
theorem wO (p q:Nat->Bool) (k:Nat) (h:∀ i,i≠k->p i=q i):∀ m,k<m->(H2 m).countP p+(if q k=Q then 1 else 0)=(H2 m).countP q+if p k=Q then 1 else 0
 | m+1,j=>by
  rw [X3,B3,B3];simp only [Y3,List.countP_nil,J4]
  by_cases e:k=m
  .subst e
   have:(H2 k).countP p=(H2 k).countP q:=Z3 fun i hi=>by rw [h i (by have:=List.mem_range.1 hi;omega)]
   omega
  .have:=wO p q k h m (by omega)
   rw [h m (Ne.symm e)];omega
theorem xq {p q:Nat->Bool} {k:Nat} (j:k<256) (h:∀ i,i≠k->p i=q i):jC p+(if q k=Q then 1 else 0)=jC q+if p k=Q then 1 else 0:=wO p q k h 256 j
theorem rQ {p q:Nat->Bool}:∀ m,(∀ i,i<m->p i=Q->q i=Q)->(H2 m).countP p<=(H2 m).countP q
 | 0,_=>D2 _
 | m+1,h=>by
  rw [X3,B3,B3];simp only [Y3,List.countP_nil,J4];have:=rQ m fun i hi=>h i (by omega);have j:=h m (by omega)
  split
  .rename_i e;rw [if_pos (j e)];omega
  .split <;> omega
theorem P4 {p q:Nat->Bool} (h:∀ i,i<256->p i=Q->q i=Q):jC p<=jC q:=rQ 256 h
theorem Q3 {p q:Nat->Bool} {k:Nat} (t:k<256) (h:∀ i,i<256->p i=Q->q i=Q) (o:p k=H) (r:q k=Q):jC p+1<=jC q:=by
 have e:=xq (p:=fun i=>if i=k then Q else p i) (q:=p) t fun i hi=>if_neg hi;rw [if_neg (by rw [o];decide),if_pos (if_pos rfl)] at e
 have:=P4 (p:=fun i=>if i=k then Q else p i) (q:=q) fun i hi j=>by
  by_cases e:i=k
  .subst e;exact r
  .rw [if_neg e] at j;exact h i hi j
 omega
section
variable {n id k i:Nat} {own:Nat->Own} {N:Nat->Option Hd} {h h':Hd} {a:Aw} {V V':Nat->List UInt8}
theorem fp:eD h i=Q↔i<256/\h.aO i≠0:=by unfold eD;simp
theorem iq (hi:i<256):eD h i=H↔h.aO i=0:=by
 unfold eD;simp [hi]
theorem qV (o:h.fit) (hi:i<256) (b:Int) (j:Nat):eD (h.put i b) j=if j=i then decide (b≠0) else eD h j:=by
 unfold eD;rw [Hd.jE o hi]
 by_cases e:j=i
 .subst e;rw [if_pos rfl,if_pos rfl];simp [hi]
 .rw [if_neg e,if_neg e]
theorem Hd.Ok.mw (v:h.Ok n id) (u:h.Fin):h.mw=bh (eD h):=by
 unfold Hd.mw bh;congr 1
 by_cases h0:h.n.rw=0
 .rw [if_pos h0,if_neg]
  intro t;obtain ⟨i,o,j,r⟩:=fI.1 t;exact (fp.1 r).2 (v.rz h0 i o j)
 .obtain ⟨i,o,j,r⟩:=u.Vv h0
  rw [if_neg h0,if_pos (fI.2 ⟨i,o,j,fp.2 ⟨j,r⟩⟩)]
def Has (n:Nat) (a:Aw) (A:Nat->Option AF) (k:Nat):Prop:=∃ own N,ub n a own N 0/\xB own n=k/\∀ id,A id=(N id).map (gR a.V)
theorem Has.at {A:Nat->Option AF} {f:AF} (o:∀ id,A id=(N id).map (gR a.V)) (j:A id=Y f):∃ h,N id=Y h/\f=gR a.V h:=by
 rw [o id] at j
 cases hN:N id with
 | none=>rw [hN] at j;cases j
 | some h=>rw [hN] at j;exact ⟨h,rfl,by cases j;rfl⟩
structure AF.Wf (f:AF):Prop where
 kd:f.kd=1\/f.kd=2
 JW:0<=f.lk
 Kx:f.lk<=65535
 sz:f.sz<=122880
 tail:∀ p,f.sz<=p->f.pR p=0
 hole:∀ p,f.pr (p/480)=false->f.pR p=0
 RE:∀ i,f.pr i=true->480*i<f.sz
theorem ub.wf (S:ub n a own N 0) (hN:N id=Y h):(gR a.V h).Wf:=by
 obtain ⟨L,T,j⟩:=S.lay.ok _ _ hN;obtain ⟨v,z,y⟩:=S.rest id h (by omega) hN;have z0:=j.Kt;have z1:=j.OZ;refine ⟨j.kd,j.JW,j.Kx,show h.n.sz.toNat<=122880 by omega,fun p r=>?_,fun p r=>?_,fun i hi=>?_⟩
 .show (if p<122880 then jO a.V h p else 0)=0
  split
  .rename_i o;exact y p o (by have:h.n.sz.toNat<=p:=r;omega)
  .rfl
 .show (if p<122880 then jO a.V h p else 0)=0
  split
  .rename_i o
   unfold jO;rw [if_pos ((iq (by omega)).1 r)]
  .rfl
 .obtain ⟨o,u⟩:=fp.1 (show eD h i=Q from hi)
  show 480*i<h.n.sz.toNat
  by_cases t:bf h.n.sz<=i
  .exact absurd (v.hi i o t) u
  .unfold bf at t;omega
theorem Has.wf {A:Nat->Option AF} {f:AF} (r:Has n a A k) (o:A id=Y f):f.Wf/\0<id/\id<n:=by
 obtain ⟨own,N,S,_,j⟩:=r;obtain ⟨h,hN,rfl⟩:=Has.at j o;exact ⟨S.wf hN,(S.lay.ok _ _ hN).1,(S.lay.ok _ _ hN).2.1⟩
end
section
variable {σ α:Type} {n id k:Nat} {own:Nat->Own} {N:Nat->Option Hd} {h:Hd} {a:Aw} {V0:Nat->List UInt8} {I:σ->Prop} {ask:cO σ} {E:Int->Prop} {A:Nat->Option AF} {f:AF}
theorem aL.node (hr:qC ask n V0 I) (hn:n<=3840) (r:Has n a A k) (o:A id=Y f):aL n V0 I (qR ask n (id:Int)) a (fun x a'=>x.kd=f.kd/\x.lk=f.lk/\x.sz=f.sz/\a'=a) E:=by
 obtain ⟨own,N,S,_,j⟩:=r;obtain ⟨h,hN,rfl⟩:=Has.at j o;have t:=(S.lay.ok _ _ hN).2.2;refine (aL.load hr hn S hN).bind fun x a' e=>?_;obtain ⟨rfl,rfl⟩:=e;have:=t.Kt;exact aL.pure ⟨rfl,rfl,show x.n.sz=(x.n.sz.toNat:Int) by omega,rfl⟩
theorem aL.left (hr:qC ask n V0 I) (h0:0<n) (r:Has n a A k):aL n V0 I (qe ask n) a (fun x a'=>x=k/\a'=a) E:=by
 obtain ⟨own,N,S,t,z⟩:=r;intro st u;obtain ⟨v,j,o,y⟩:=aL.bits hr h0 st u;have e:qe ask n st=(.ok (n-(dx a.B n).length),v):=WM.bd j;rw [e];exact ⟨a,o,by rw [S.bm.left,t],rfl⟩
theorem qA {l d:List UInt8} {o:Nat} (h:o+d.length<=l.length) (j:Nat):(putAt l o d).getD j 0=if o<=j/\j<o+d.length then d.getD (j-o) 0 else l.getD j 0:=by
 unfold putAt;have r:(l.take o++d).length=o+d.length:=by rw [W3,X2];omega
 have t:(l.take o).length=o:=by rw [X2];omega
 simp only [E2]
 by_cases u:j<o
 .rw [if_neg (by omega),K4 (by rw [r];omega),K4 (by rw [t];exact u),J3,if_pos u]
 .by_cases h4:j<o+d.length
  .rw [if_pos ⟨by omega,h4⟩,K4 (by rw [r];omega),T4 (by rw [t];omega),t]
  .rw [if_neg (by omega),T4 (by rw [r];omega),r,K3,show o+d.length+(j-(o+d.length))=j by omega]
theorem aL.rd (hr:qC ask n V0 I) (S:ub n a own N 0) (hN:N id=Y h) (off m:Nat) (hm:off+m<=122880):∀ (f done:Nat) (L:List UInt8),L.length=m->m-done<=f->(∀ j,j<m->L.getD j 0=if j<done then jO a.V h (off+j) else 0) ->
  aL n V0 I (DH ask h off f done L) a (fun x a'=>x.length=m/\(∀ j,j<m->x.getD j 0=jO a.V h (off+j))/\a'=a) E:=by
 intro f
 induction f with
 | zero=>intro done L t hf u;exact aL.pure ⟨t,fun j o=>by rw [u j o,if_pos (by omega)],rfl⟩
 | succ f ih=>
  intro done L t hf u;obtain ⟨i0,i1,ho⟩:=S.lay.ok _ _ hN
  by_cases hd:done<m
  .obtain ⟨l,v⟩:∃ l,iU (L.length-done) (off+done)=l:=⟨_,rfl⟩
   have c0:l=min (m-done) (480-(off+done)%480):=by rw [<- v,t];rfl
   have b0:∀ j,done<=j->j<done+l->(off+j)/480=(off+done)/480/\(off+j)%480=(off+done)%480+(j-done):=fun j o r=>by omega
   by_cases h0:h.aO ((off+done)/480)=0
   .refine aL.congr (m':=DH ask h off f (done+l) L) ?_ fun st=>by rw [<- v];exact Rx (by omega) h0 st
    refine ih (done+l) L t (by omega) fun j o=>?_;rw [u j o]
    by_cases r:j<done
    .rw [if_pos r,if_pos (by omega)]
    .rw [if_neg r]
     split
     .unfold jO;rw [(b0 j (by omega) (by omega)).1,if_pos h0]
     .rfl
   .have hp:=ho.pg ((off+done)/480) (by omega)
    obtain ⟨b,hb⟩:∃ b:Nat,h.aO ((off+done)/480)=(b:Int):=⟨(h.aO ((off+done)/480)).toNat,by omega⟩
    refine aL.congr (m':=WM.bind (de ask (b:Int)) fun z=>DH ask h off f (done+l) (putAt L done ((z.drop ((off+done)%480)).take l))) ?_ fun st=>by
     refine (if_pos (by omega)).trans ((if_neg h0).trans ?_);rw [v,hb]
    refine (aL.read hr (by omega) (by omega)).bind fun z a' e=>?_;obtain ⟨rfl,hX,e3⟩:=e;rw [e3];have y:(((a.V b).drop ((off+done)%480)).take l).length=l:=by rw [X2,T3,hX];omega
    refine ih (done+l) _ (by rw [gF (by rw [y];omega)];exact t) (by omega) fun j o=>?_;rw [qA (by rw [y];omega),y]
    by_cases r:done<=j/\j<done+l
    .rw [if_pos r,if_pos (by omega)]
     obtain ⟨e1,e2⟩:=b0 j r.1 r.2;unfold jO;rw [e1,if_neg h0,hb,e2,J2];simp only [E2];rw [J3,if_pos (by omega),K3]
    .rw [if_neg r,u j o]
     by_cases T:j<done
     .rw [if_pos T,if_pos (by omega)]
     .rw [if_neg T,if_neg (by omega)]
  .refine aL.congr (m':=WM.pure L) (aL.pure ⟨t,fun j o=>by rw [u j o,if_pos (by omega)],rfl⟩) fun st=>if_neg (by omega)
def AF.sub (f:AF) (off o:Nat):List UInt8:=(H2 (min o (f.sz-off))).map fun j=>f.pR (off+j)
theorem aL.Sa (hr:qC ask n V0 I) (hn:n<=3840) (hh:Has n a A k) (hf:A id=Y f) (off o:Nat):aL n V0 I (jZ ask n (id:Int) (off:Int) (o:Int)) a (fun x a'=>x=f.sub off o/\a'=a) E:=by
 obtain ⟨own,N,S,_,T⟩:=hh;obtain ⟨h,hN,rfl⟩:=Has.at T hf;obtain ⟨i0,i1,v⟩:=S.lay.ok _ _ hN;have z0:=v.Kt;have z1:=v.OZ;refine (aL.load hr hn S hN).bind fun x a' e=>?_;obtain ⟨rfl,rfl⟩:=e;have y:(gR a'.V x).sz=x.n.sz.toNat:=rfl
 by_cases t:x.n.sz<=(off:Int)
 .refine aL.congr (m':=WM.pure []) (aL.pure ⟨?_,rfl⟩) fun st=>(if_pos ⟨by omega,by omega⟩).trans (if_pos t)
  unfold AF.sub;rw [y,show min o (x.n.sz.toNat-off)=0 by omega];rfl
 .obtain ⟨m,hm⟩:∃ m,(min (o:Int) (x.n.sz-(off:Int))).toNat=m:=⟨_,rfl⟩
  refine aL.congr (m':=DH ask x off m 0 (zs m)) ?_ fun st=>by
   refine (if_pos ⟨by omega,by omega⟩).trans ((if_neg t).trans ?_);rw [hm,J2]
  refine (aL.rd hr S hN off m (by omega) m 0 (zs m) (bq m) (by omega) fun j hj=>?_).mono (fun d0 c0 e=>?_) fun _ h=>h
  .rw [if_neg (by omega)]
   show (L2 m 0).getD j 0=0
   simp only [E2,W2];split <;> rfl
  .obtain ⟨r,z,L⟩:=e
   refine ⟨?_,L⟩;have b0:min o ((gR a'.V x).sz-off)=m:=by rw [y];omega
   unfold AF.sub;rw [b0];apply List.ext_getElem
   .simp [r]
   .intro j u h3
    rw [r] at u;have:=z j u;rw [E2,R2 (by omega)] at this;simp only [Option.getD_some] at this;rw [this,List.getElem_map,List.getElem_range];show _=if off+j<122880 then jO a'.V x (off+j) else 0
    rw [if_pos (by omega)]
end
structure bA (n:Nat) (a0:Aw) (N0:Nat->Option Hd) (id:Nat) (K:Nat) (a:Aw) (own:Nat->Own) (N:Nat->Option Hd) (h:Hd):Prop where
 sp:ub n a own N id
 hN:N id=some h
 Uq:∀ id',id'≠id->N id'=N0 id'
 DQ:∀ id' g,id'≠id->N0 id'=some g->∀ p,p<122880->jO a.V g p=jO a0.V g p
 cons:xB own n+h.mw=K
section
variable {n id k i K:Nat} {own:Nat->Own} {N N0:Nat->Option Hd} {h h':Hd} {a a0:Aw} {V V':Nat->List UInt8}
theorem bA.start (S:ub n a own N 0) (hN:N id=Y h):bA n a N id (xB own n+h.mw) a own N h:=
 ⟨S.fO id,hN,fun _ _=>rfl,fun _ _ _ _ _ _=>rfl,rfl⟩
theorem bA.ok (T:bA n a0 N0 id K a own N h):h.Ok n id:=(T.sp.lay.ok _ _ T.hN).2.2
theorem bA.write (T:bA n a0 N0 id K a own N h) (r:Jp own id k) {l:List UInt8} (v:l.length=480):bA n a0 N0 id K { a with V:=A5 a.V k l } own N h:=
 ⟨T.sp.write r v,T.hN,T.Uq,fun id' g j o p t=>by
  have u:N id'=Y g:=(T.Uq id' j).trans o;rw [<- T.DQ id' g j o p t];exact y6 T.sp.lay j u (fun b y=>fT _ _ (by rintro rfl;exact y r)) t,T.cons⟩
theorem bA.step (T:bA n a0 N0 id K a own N h) {o:Nat->Own} {r:List UInt8} (t:jB n o (du N id (Y h'))) (u:Bm n o r) (v:xB o n+h'.mw=K):bA n a0 N0 id K { a with B:=r } o (du N id (Y h')) h':=
 ⟨T.sp.step t u fun id' j=>aE _ _ j,aW _ _ _,fun id' j=>(aE _ _ j).trans (T.Uq id' j),T.DQ,v⟩
theorem LS (o:h.fit) (hi:i<256) {b:Int} (h0:h.aO i=0) (r:b≠0):(h.put i b).mw=h.mw+1:=by
 unfold Hd.mw;rw [Hd.ig];have:=xq (p:=eD (h.put i b)) (q:=eD h) hi fun j t=>by rw [qV o hi,if_neg t]
 rw [qV o hi,if_pos rfl,(iq hi).2 h0] at this;simp only [r,ne_eq,not_false_eq_true,decide_true,if_true,Bool.false_eq_true,if_false] at this;omega
theorem NM (o:h.fit) (hi:i<256) (h0:h.aO i≠0):(h.put i 0).mw+1=h.mw:=by
 unfold Hd.mw;rw [Hd.ig];have:=xq (p:=eD (h.put i 0)) (q:=eD h) hi fun j r=>by rw [qV o hi,if_neg r]
 rw [qV o hi,if_pos rfl,fp.2 ⟨hi,h0⟩] at this;simp only [ne_eq,not_true_eq_false,decide_false,if_true,Bool.false_eq_true,if_false] at this;omega
theorem MP (h0:h.n.rw=0) {b:Int} (j:b≠0):(h.dK b).mw=h.mw+1:=by
 unfold Hd.mw;have e:eD (h.dK b)=eD h:=rfl;rw [e,if_pos h0,if_neg (show (h.dK b).n.rw≠0 from j)]
theorem N4 (h0:h.n.rw≠0):(h.dK 0).mw+1=h.mw:=by
 unfold Hd.mw;have e:eD (h.dK 0)=eD h:=rfl;rw [e,if_neg h0,if_pos (show (h.dK 0).n.rw=0 from rfl)]
theorem bA.Ly (T:bA n a0 N0 id K a own N h) (hn:n<=3840) (j:own k=nC) (o:k<n) (hi:i<256) (h0:h.aO i=0) (hr:16<=i->h.n.rw≠0) :
  bA n a0 N0 id K { a with B:=eC a.B k Q } (du own k (GH id i)) (du N id (Y (h.put i (k:Int)))) (h.put i (k:Int)):=by
 have r:=T.sp.lay.jW j;refine T.step (T.sp.lay.aO T.hN j o hi h0 hr) (T.sp.bm.set hn o _ _ (by simp)) ?_;have:=mQ (own:=own) (x:=GH id i) o;rw [if_pos j,if_neg (by simp)] at this;rw [LS T.ok.fit hi h0 (by omega)];have:=T.cons;omega
theorem bA.QF (T:bA n a0 N0 id K a own N h) (hn:n<=3840) (j:own k=nC) (o:k<n) (h0:h.n.rw=0) :
  bA n a0 N0 id K { a with B:=eC a.B k Q } (du own k (Ku id)) (du N id (Y (h.dK (k:Int)))) (h.dK (k:Int)):=by
 have r:=T.sp.lay.jW j;refine T.step (T.sp.lay.row T.hN j o h0) (T.sp.bm.set hn o _ _ (by simp)) ?_;have:=mQ (own:=own) (x:=Ku id) o;rw [if_pos j,if_neg (by simp)] at this;rw [MP h0 (by omega)];have:=T.cons;omega
theorem bA.BM (T:bA n a0 N0 id K a own N h) (hn:n<=3840) (hi:i<256) (h0:h.aO i≠0) :
  bA n a0 N0 id K { a with B:=eC a.B (h.aO i).toNat H } (du own (h.aO i).toNat nC) (du N id (Y (h.put i 0))) (h.put i 0):=by
 have o:=T.ok.pg i hi;refine T.step (T.sp.lay.Sr T.hN hi h0) (T.sp.bm.set hn (by omega) _ _ (by simp)) ?_;have:=mQ (own:=own) (x:=nC) (show (h.aO i).toNat<n by omega);rw [T.sp.lay.CI T.hN hi h0,if_pos rfl,if_neg (by simp)] at this;have j:=NM T.ok.fit hi h0;have:=T.cons;omega
theorem bA.Gh (T:bA n a0 N0 id K a own N h) (hn:n<=3840) (h0:h.n.rw≠0) (j:∀ i,16<=i->i<256->h.aO i=0) :
  bA n a0 N0 id K { a with B:=eC a.B h.n.rw.toNat H } (du own h.n.rw.toNat nC) (du N id (Y (h.dK 0))) (h.dK 0):=by
 have r:=T.ok.ze;have t:=T.ok.A6;refine T.step (T.sp.lay.Vm T.hN h0 j) (T.sp.bm.set hn (by omega) _ _ (by simp)) ?_;have:=mQ (own:=own) (x:=nC) (show h.n.rw.toNat<n by omega);rw [T.sp.lay.vr T.hN h0,if_pos rfl,if_neg (by simp)] at this;have o:=N4 h0;have:=T.cons;omega
theorem bA.set (T:bA n a0 N0 id K a own N h) (o:h'.Ok n id) (hr:h'.n.rw=h.n.rw) (j:∀ i,i<256->h'.aO i=h.aO i):bA n a0 N0 id K a own (du N id (Y h')) h':=by
 refine T.step (T.sp.lay.set T.hN o hr j) T.sp.bm ?_
 have:h'.mw=h.mw:=by
  unfold Hd.mw;rw [hr,qP (p:=eD h') (q:=eD h) fun i hi=>by unfold eD;rw [j i hi]]
 rw [this];exact T.cons
theorem bA.done (T:bA n a0 N0 id K a own N h) (hn:n<=3840) (r:h.Fin) (ht:CA a.V h) {A:Nat->Option AF} (hA:∀ id,A id=(N0 id).map (gR a0.V)) (f:AF) (L:h.n.kd=f.kd) (h2:h.n.lk=f.lk) (h3:h.n.sz=f.sz)
  (h4:∀ p,p<122880->jO a.V h p=f.pR p) (b0:∀ p,122880<=p->f.pR p=0) (o:∀ i,i<256->eD h i=f.pr i) (c0:∀ i,256<=i->f.pr i=H):Has n { a with V:=lz a.V h } (du A id (Y f)) (K-bh f.pr):=by
 obtain ⟨S,hb⟩:=T.sp.saved hn T.hN r ht;have d0:=T.ok.mw r;rw [tY o] at d0;refine ⟨own,N,S,by have:=T.cons;omega,fun id'=>?_⟩
 by_cases e:id'=id
 .subst e
  rw [aW,T.hN];show Y f=Y (gR (lz a.V h) h)
  congr 1;obtain ⟨kd,lk,sz,pR,pr⟩:=f;dsimp only at *;unfold gR;have v:sz=h.n.sz.toNat:=by omega
  have y:pR=fun p=>if p<122880 then jO (lz a.V h) h p else 0:=by
   funext p
   split
   .rename_i j;rw [hb p j];exact (h4 p j).symm
   .rename_i j;exact b0 p (by omega)
  have z:pr=eD h:=by
   funext i
   by_cases hi:i<256
   .exact (o i hi).symm
   .rw [c0 i (by omega)];unfold eD;simp [hi]
  rw [L,h2,<- v,<- y,<- z]
 .rw [aE _ _ e,hA id',<- T.Uq id' e]
  cases t:N id' with
  | none=>rfl
  | some g=>
   show Y (gR a0.V g)=Y (gR (lz a.V h) g)
   congr 1;have h0:N0 id'=Y g:=(T.Uq id' e).symm.trans t;unfold gR;congr 1;funext p
   split
   .rename_i j
    rw [<- T.DQ id' g e h0 p j];refine (y6 T.sp.lay e t (fun b u=>qu ?_ fun h0=>?_) j).symm
    .rintro rfl;exact u (.inr (.inl ⟨by rw [T.ok.id];exact T.sp.lay.tR T.hN,T.ok.id⟩))
    .rintro rfl;exact u (.inr (.inr (.inl (T.sp.lay.vr T.hN h0))))
   .rfl
end
section
variable {σ α:Type} {n id k K:Nat} {own:Nat->Own} {N N0:Nat->Option Hd} {h:Hd} {a a0:Aw} {V0:Nat->List UInt8} {I:σ->Prop} {ask:cO σ} {E:Int->Prop} {A:Nat->Option AF} {f:AF}
theorem aL.oC (T:bA n a0 N0 id K a own N h) (hn:n<=3840) (o:h.Fin):aL n V0 I (ez h) a (fun _ a'=>a'={ a with V:=lz a.V h }) E:=by
 have j:=T.ok;exact aL.save (by rw [j.id];exact (T.sp.lay.ok _ _ T.hN).1) (by rw [j.id];exact (T.sp.lay.ok _ _ T.hN).2.1) j.A6 j.ze (j.ok hn o) (j.row hn).1 j.fit.2
def fh (kd:Int):AF:=⟨kd,1,0,fun _=>0,fun _=>H⟩
theorem gu (id:Nat) (kd:Int) (i:Nat):(dz id kd).aO i=0:=by
 unfold dz Hd.aO
 split
 .show (L2 16 (0:Int)).getD i 0=0
  simp only [E2,W2];split <;> rfl
 .show (L2 240 (0:Int)).getD (i-16) 0=0
  simp only [E2,W2];split <;> rfl
theorem OQ {kd:Int} (j:kd=1\/kd=2) (h0:0<n):(dz id kd).Ok n id:=
 ⟨⟨rfl,rfl⟩,rfl,j,(by decide:(0:Int)<=1),(by decide:(1:Int)<=65535),(by decide:(0:Int)<=0),(by decide:(0:Int)<=122880),(by decide:(0:Int)<=0),show (0:Int)<n by omega,fun i _=>by rw [gu];exact ⟨by omega,by omega⟩,fun _ i _ _=>gu _ _ _⟩
theorem po (id:Nat) (kd:Int):(dz id kd).Fin:=⟨fun i _ _=>gu _ _ _,fun h=>absurd rfl h⟩
theorem pA (V:Nat->List UInt8) (id:Nat) (kd:Int) (p:Nat):jO V (dz id kd) p=0:=by unfold jO;rw [if_pos (gu _ _ _)]
theorem zo (id:Nat) (kd:Int):(dz id kd).mw=1:=by
 unfold Hd.mw
 have e:jC (eD (dz id kd))=0:=by
  unfold jC;rw [S3];intro i _ h;exact (fp.1 h).2 (gu _ _ _)
 rw [e,if_pos (show (dz id kd).n.rw=0 from rfl)]
theorem xy:bh (fun _=>H)=1:=by
 unfold bh;have e:jC (fun _=>H)=0:=by unfold jC;rw [S3];intro i _ h;cases h
 rw [e,if_neg];intro o;obtain ⟨i,_,_,j⟩:=fI.1 o;cases j
theorem bA.made (S:ub n a own N 0) (hn:n<=3840) (j:own k=nC) (o:k<n) {kd:Int} (t:kd=1\/kd=2) :
  bA n a N k (xB own n) { a with B:=eC a.B k Q } (du own k Rn) (du N k (Y (dz k kd))) (dz k kd):=by
 have u:=S.lay.jW j;refine ⟨(S.fO k).step (S.lay.new j o (OQ t (by omega)) (fun i _=>gu _ _ _) rfl) (S.bm.set hn o _ _ (by simp)) fun id' r=>aE _ _ r,aW _ _ _,fun id' r=>aE _ _ r,fun _ _ _ _ _ _=>rfl,?_⟩;have:=mQ (own:=own) (x:=Rn) o;rw [if_pos j,if_neg (by simp)] at this;rw [zo];omega
theorem aL.new (hr:qC ask n V0 I) (h0:0<n) (hn:n<=3840) (hh:Has n a A k) {kd:Int} (t:kd=1\/kd=2) :
  aL n V0 I (xH ask n kd) a (fun x a'=>A x=U/\0<x/\x<n/\0<k/\Has n a' (du A x (Y (fh kd))) (k-1)) (fun c=>c=7/\k=0):=by
 obtain ⟨own,N,S,r,o⟩:=hh;refine aL.congr (m':=WM.bind (iZ ask n) (GL kd)) ?_ fun st=>if_pos t;refine (aL.take hr h0 fun L=>⟨rfl,by rw [<- r,S.bm.ir L]⟩).bind fun x a' e=>?_;obtain ⟨v,rfl⟩:=e;obtain ⟨u,j⟩:=S.bm.sA v;have c0:=S.lay.jW j;have T:=bA.made S hn j u t
 have b0:0<k:=by
  have z:=T.cons;rw [zo] at z;omega
 refine (aL.oC T hn (po _ _)).bind fun _ a' e=>?_;subst e;refine aL.pure ⟨by rw [o,S.lay.ir j];rfl,by omega,u,b0,?_⟩;have:=T.done hn (po _ _) (fun p _ _=>pA _ _ _ _) o (fh kd) rfl rfl rfl (fun p _=>pA _ _ _ _) (fun _ _=>rfl) (fun i hi=>(iq hi).2 (gu _ _ _)) fun _ _=>rfl;have y:bh (fh kd).pr=1:=xy;rw [y,r] at this;exact this
theorem aL.Vz (hr:qC ask n V0 I) (hn:n<=3840) (hh:Has n a A k) (hf:A id=Y f) (d:Int) :
  aL n V0 I (lD ask n (id:Int) d) a (fun _ a'=>(0<=wrap64 (f.lk+d)/\wrap64 (f.lk+d)<=65535)/\Has n a' (du A id (Y { f with lk:=wrap64 (f.lk+d) })) k) (fun c=>c=1/\¬ (0<=wrap64 (f.lk+d)/\wrap64 (f.lk+d)<=65535)):=by
 obtain ⟨own,N,S,hk,u⟩:=hh;obtain ⟨h,hN,rfl⟩:=Has.at u hf;obtain ⟨i0,i1,j⟩:=S.lay.ok _ _ hN;obtain ⟨r,hs,ht⟩:=S.rest id h (by omega) hN;refine (aL.load hr hn S hN).bind fun x a' e=>?_;obtain ⟨rfl,rfl⟩:=e;show aL n V0 I (uW x (wrap64 (x.n.lk+d))) a' (fun _ t=>(0<=wrap64 (x.n.lk+d)/\wrap64 (x.n.lk+d)<=65535)/\Has n t (du A id (Y { gR a'.V x with lk:=wrap64 (x.n.lk+d) })) k) (fun c=>c=1/\¬ (0<=wrap64 (x.n.lk+d)/\wrap64 (x.n.lk+d)<=65535))
 generalize wrap64 (x.n.lk+d)=z
 by_cases o:0<=z/\z<=65535
 .refine aL.congr (m':=ez (x.pV z)) ?_ fun st=>if_pos o
  have b0:(x.pV z).Ok n id:=⟨j.fit,j.id,j.kd,o.1,o.2,j.Kt,j.OZ,j.ze,j.A6,j.pg,j.rz⟩
  have T:=(bA.start S hN).set b0 rfl fun _ _=>rfl;have v:(x.pV z).Fin:=⟨r.hi,r.Vv⟩
  refine (aL.oC T hn v).mono (fun _ t e=>?_) fun _ h=>h;subst e;refine ⟨o,?_⟩;have z0:=j.Kt
  have:=T.done hn v (fun p L h2=>ht p L h2) u { gR a'.V x with lk:=z } rfl rfl (show x.n.sz=(x.n.sz.toNat:Int) by omega) (fun p y=>by show jO a'.V x p=if p<122880 then jO a'.V x p else 0;rw [if_pos y])
   (fun p y=>if_neg (by omega)) (fun i _=>rfl) (fun i hi=>by show eD x i=H;unfold eD;simp;omega)
  have e:bh ({ gR a'.V x with lk:=z }:AF).pr=x.mw:=(j.mw r).symm;rw [e,Nat.add_sub_cancel,hk] at this;exact this
 .exact (aL.bad ⟨rfl,o⟩).congr fun st=>if_neg o
theorem aL.format (hr:qC ask n V0 I) (h0:4<=n) (hn:n<=3840) (d0:∀ b,0<b->b<n->(a.V b).length=480) :
  aL n V0 I (jy ask) a (fun _ a'=>Has n a' (fun id=>if id=1 then Y (fh 2) else U) (n-2)) E:=by
 have hz:∀ b,eB (zs 480) b=H:=by
  intro b;unfold eB
  have e:(zs 480).getD (b/8) 0=0:=by
   show (L2 480 (0:UInt8)).getD (b/8) 0=0
   simp only [E2,W2];split <;> rfl
  rw [e];show decide ((0:UInt8).toNat/2 ^ (b%8)%2=1)=H
  have:(0:UInt8).toNat=0:=rfl;rw [this,Nat.zero_div];decide
 obtain ⟨j,o⟩:∃ e0:Nat->Own,e0=fun b=>if b=0 then Lr else nC:=⟨_,rfl⟩
 have v:jB n j (fun _=>U):=by
  subst o;refine ⟨fun b=>?_,fun b hb=>if_neg (by omega),fun id h r=>(by cases r),fun b=>?_,fun b id=>?_,fun b id i=>?_⟩
  .show (if b=0 then Lr else nC)=Lr↔b=0
   split
   .rename_i e;exact ⟨fun _=>e,fun _=>rfl⟩
   .rename_i e;exact ⟨fun h=>(by cases h),fun h=>absurd h e⟩
  .show (if b=0 then Lr else nC)=Rn↔_
   split <;> simp
  .show (if b=0 then Lr else nC)=Ku id↔_
   unfold eJ
   split <;> simp
  .show (if b=0 then Lr else nC)=GH id i↔_
   unfold eL
   split <;> simp
 have u:Bm n j (eC (zs 480) 0 Q):=by
  subst o;refine ⟨by rw [fz];exact bq 480,fun b hb=>?_⟩;rw [y7 (by rw [bq];omega),hz]
  by_cases e:b=0
  .subst e;simp
  .rw [if_neg e,if_neg e];simp
 have b0:xB j n=n-1:=by
  subst o
  have:∀ m,0<m->xB (fun b=>if b=0 then Lr else nC) m=m-1:=by
   intro m
   induction m with
   | zero=>intro h;omega
   | succ m ih=>
    intro _;rw [rK]
    by_cases e:m=0
    .subst e;rfl
    .rw [ih (by omega),if_neg e,if_pos rfl];omega
  exact this n (by omega)
 have y:ub n ⟨a.V,eC (zs 480) 0 Q⟩ j (fun _=>U) 0:=⟨v,u,d0,fun id' h _ r=>(by cases r)⟩
 have c0:j 1=nC:=by subst o;rfl
 have T:=bA.made y hn c0 (by omega) (.inr rfl)
 have hD:aL n V0 I (WM.bind (cM ask 1 Q) fun _=>ez (dz 1 2)) ⟨a.V,eC (zs 480) 0 Q⟩ (fun _ a'=>Has n a' (fun id=>if id=1 then Y (fh 2) else U) (n-2)) E:=by
  refine (aL.mark hr (by omega)).bind fun _ a' e=>?_;subst e;refine (aL.oC T hn (po _ _)).mono (fun _ a' e=>?_) fun _ h=>h;subst e;have:=T.done hn (po _ _) (fun p _ _=>pA _ _ _ _) (A:=fun _=>U) (fun _=>rfl) (fh 2) rfl rfl rfl (fun p _=>pA _ _ _ _) (fun _ _=>rfl) (fun i hi=>(iq hi).2 (gu _ _ _)) fun _ _=>rfl;have z:bh (fh 2).pr=1:=xy;rw [z,b0] at this;exact this
 intro st t;have L:cM ask 0 Q { st with bits:=Y (zs 480) }=(.ok (),{ st with bits:=Y (eC (zs 480) 0 Q),dt:=Q }):=rfl;have e:jy ask st=(WM.bind (cM ask 1 Q) fun _=>ez (dz 1 2)) { st with bits:=Y (eC (zs 480) 0 Q),dt:=Q }:=WM.bd L;rw [e];exact hD _ ⟨t.gL,t.view,.inl rfl,fun h=>by simp at h,by rw [fz];exact bq 480⟩
end
def cK (off m i:Nat):Bool:=decide (0<m) && (decide (480*i<off+m) && decide (off<480*i+480))
theorem cJ {off m i:Nat}:cK off m i=Q↔0<m/\480*i<off+m/\off<480*i+480:=by
 unfold cK;simp only [N2,decide_eq_true_eq]
def AF.wr (f:AF) (off:Nat) (d:List UInt8):AF:=
 { f with sz:=if d.length=0 then f.sz else max f.sz (off+d.length),pR:=fun p=>if off<=p/\p<off+d.length then d.getD (p-off) 0 else f.pR p,pr:=fun i=>f.pr i || cK off d.length i }
def ym (h h':Hd):Prop:=h.n.kd=h'.n.kd/\h.n.lk=h'.n.lk/\h.n.sz=h'.n.sz
section
variable {n id k q K:Nat} {own:Nat->Own} {N N0:Nat->Option Hd} {h h' h0:Hd} {a a0:Aw}
theorem y8 (h:Hd) (i:Nat) (b:Int):ym (h.put i b) h:=by unfold Hd.put ym;split <;> exact ⟨rfl,rfl,rfl⟩
theorem CU {V:Nat->List UInt8} {p:Nat} (e:h.aO (p/480)=h'.aO (p/480)):jO V h p=jO V h' p:=by unfold jO;rw [e]
theorem bA.yD (T:bA n a0 N0 id K a own N h) (u:q<256) {b:Nat} (o:h.aO q=(b:Int)) (v:0<b) {l:List UInt8} (t:l.length=480) :
  bA n a0 N0 id K { a with V:=A5 a.V b l } own N h/\∀ p,p<122880->jO (A5 a.V b l) h p=if p/480=q then l.getD (p%480) 0 else jO a.V h p:=by
 have j:=T.sp.lay.CI T.hN u (show h.aO q≠0 by omega);rw [o,J2] at j;refine ⟨T.write (.inr (.inr (.inr ⟨q,j⟩))) t,fun p y=>?_⟩
 by_cases e:p/480=q
 .rw [if_pos e]
  unfold jO;rw [e,if_neg (by omega),o,J2,kO]
 .rw [if_neg e]
  unfold jO
  split
  .rfl
  .rename_i h0
   rw [fT];intro r;have:=T.sp.lay.CI T.hN (show p/480<256 by omega) h0;rw [r,j] at this;simp only [Prod.mk.injEq] at this;exact e this.2.2.symm
end
section
variable {σ α:Type} {n id k q K:Nat} {own:Nat->Own} {N N0:Nat->Option Hd} {h h0:Hd} {a a0:Aw} {V0:Nat->List UInt8} {I:σ->Prop} {ask:cO σ} {E:Int->Prop} {A:Nat->Option AF} {f:AF}
def Gf (n:Nat) (a0:Aw) (N0:Nat->Option Hd) (id K:Nat) (a:Aw) (h:Hd) (q:Nat) (j:Bool) (p:Hd × Int × List UInt8) (a':Aw):Prop:=
 ∃ own N,bA n a0 N0 id K a' own N p.1/\a'.V=a.V/\(∃ b:Nat,p.2.1=(b:Int)/\p.1.aO q=(b:Int)/\0<b)/\(∀ i,i≠q->p.1.aO i=h.aO i)/\ym p.1 h/\(p.1.n.rw≠0->h.n.rw≠0\/16<=q) /\
  p.2.2.length=480/\(j=H->∀ r,r<480->p.2.2.getD r 0=jO a.V h (480*q+r))
def FY (K:Nat) (h:Hd) (q:Nat) (c:Int):Prop:=c=7/\∃ j:Hd,j.mw=K/\(∀ i,j.aO i=h.aO i)/\h.aO q=0/\(j.n.rw≠0->h.n.rw≠0\/16<=q)
theorem F2 (m r:Nat):(zs m).getD r 0=0:=by
 show (L2 m (0:UInt8)).getD r 0=0
 simp only [E2,W2];split <;> rfl
theorem aL.Rt (hr:qC ask n V0 I) (hn:n<=3840) (T:bA n a0 N0 id K a own N h) (u:q<256) (t:h.aO q=0) (c0:16<=q->h.n.rw≠0) {h1:Hd} {V1:Nat->List UInt8} (hV:a.V=V1) (j:∀ i,h.aO i=h1.aO i) (o:ym h h1) (v:h.n.rw≠0->h1.n.rw≠0\/16<=q) (wh:Bool) :
  aL n V0 I (qL ask n h q) a (fun p a'=>Gf n a0 N0 id K ⟨V1,[]⟩ h1 q wh p a') (FY K h1 q):=by
 have h0:0<n:=by have:=(T.sp.lay.ok _ _ T.hN);omega
 have L:fA a.B n=U->FY K h1 q 7:=fun hf=>⟨rfl,h,by have:=T.cons;have:=T.sp.bm.ir hf;omega,j,by rw [<- j];exact t,v⟩
 refine (aL.take hr h0 L).bind fun b a' e=>?_
 .obtain ⟨hb,rfl⟩:=e
  obtain ⟨b0,y⟩:=T.sp.bm.sA hb;have d0:=T.sp.lay.jW y;have z:=T.Ly hn y b0 u t c0;refine aL.pure ⟨_,_,z,hV,⟨b,rfl,?_,by omega⟩,fun i hi=>?_,?_,?_,bq 480,fun _ r e0=>?_⟩
  .show (h.put q (b:Int)).aO q=b
   rw [Hd.jE T.ok.fit u,if_pos rfl]
  .show (h.put q (b:Int)).aO i=_
   rw [Hd.jE T.ok.fit u,if_neg hi];exact j i
  .obtain ⟨s1,s2,s3⟩:=y8 h q (b:Int)
   exact ⟨s1.trans o.1,s2.trans o.2.1,s3.trans o.2.2⟩
  .show (h.put q (b:Int)).n.rw≠0->_
   rw [Hd.ig];exact v
  .show (zs 480).getD r 0=_
   rw [F2];unfold jO;rw [show (480*q+r)/480=q by omega,if_pos (by rw [<- j];exact t)]
theorem aL.open (hr:qC ask n V0 I) (hn:n<=3840) (T:bA n a0 N0 id K a own N h) (y:q<256) (u:Bool) :
  aL n V0 I (nh ask n h q u) a (Gf n a0 N0 id K a h q u) (FY K h q):=by
 have h0:0<n:=by have:=(T.sp.lay.ok _ _ T.hN);omega
 have z:∀ p a',Gf n a0 N0 id K ⟨a.V,[]⟩ h q u p a'->Gf n a0 N0 id K a h q u p a':=fun p a' h=>h
 by_cases t:h.aO q=0
 .by_cases v:16<=q/\h.n.rw=0
  .refine aL.congr (m':=WM.bind (iZ ask n) fun r=>qL ask n (h.dK (r:Int)) q) ?_ fun st=>(if_pos t).trans (if_pos v)
   have hE:fA a.B n=U->FY K h q 7:=fun hf=>⟨rfl,h,by have:=T.cons;have:=T.sp.bm.ir hf;omega,fun _=>rfl,t,fun j=>absurd v.2 j⟩
   refine (aL.take hr h0 hE).bind fun b a' e=>?_
   .obtain ⟨o,rfl⟩:=e
    obtain ⟨d0,b0⟩:=T.sp.bm.sA o;have e0:=T.sp.lay.jW b0;have T':=T.QF hn b0 d0 v.2;exact (aL.Rt hr hn T' y t (fun _=>show (b:Int)≠0 by omega) (h1:=h) (V1:=a.V) rfl (fun _=>rfl) ⟨rfl,rfl,rfl⟩ (fun _=>.inr v.1) u).mono z fun _ h=>h
  .refine aL.congr (m':=qL ask n h q) ?_ fun st=>(if_pos t).trans (if_neg v)
   exact (aL.Rt hr hn T y t (fun j c0=>v ⟨j,c0⟩) (h1:=h) (V1:=a.V) rfl (fun _=>rfl) ⟨rfl,rfl,rfl⟩ (fun j=>.inl j) u).mono z fun _ h=>h
 .have f0:=T.ok.pg q y
  obtain ⟨b,o⟩:∃ b:Nat,h.aO q=(b:Int):=⟨(h.aO q).toNat,by omega⟩
  cases u with
  | true=>
   refine aL.congr (m':=WM.pure (h,h.aO q,zs 480)) (aL.pure ?_) fun st=>(if_neg t).trans (if_pos rfl);exact ⟨own,N,T,rfl,⟨b,o,o,by omega⟩,fun _ _=>rfl,⟨rfl,rfl,rfl⟩,fun j=>.inl j,bq 480,fun j=>by cases j⟩
  | false=>
   refine aL.congr (m':=WM.bind (de ask (b:Int)) fun L=>WM.pure (h,h.aO q,L)) ?_ fun st=>by
    refine ((if_neg t).trans (if_neg (by decide))).trans ?_;rw [o]
   refine (aL.read hr (by omega) (by omega)).bind fun L a' e=>?_;obtain ⟨rfl,hL,e3⟩:=e;rw [e3];refine aL.pure ⟨own,N,T,rfl,⟨b,o,o,by omega⟩,fun _ _=>rfl,⟨rfl,rfl,rfl⟩,fun j=>.inl j,hL,fun _ r g0=>?_⟩;unfold jO;rw [show (480*q+r)/480=q by omega,if_neg t,o,show (480*q+r)%480=r by omega,J2]
structure Wg (n:Nat) (a0:Aw) (N0:Nat->Option Hd) (id K:Nat) (h0:Hd) (off:Nat) (d:List UInt8) (done:Nat) (a:Aw) (h:Hd):Prop where
 st:∃ own N,bA n a0 N0 id K a own N h
 same:ym h h0
 DQ:∀ p,p<122880->jO a.V h p=if off<=p/\p<off+done then d.getD (p-off) 0 else jO a0.V h0 p
 RE:∀ i,i<256->eD h i=(eD h0 i || cK off done i)
 rw:h.n.rw≠0->h0.n.rw≠0\/∃ i,16<=i/\i<256/\cK off done i=true
theorem aL.wr (hr:qC ask n V0 I) (hn:n<=3840) (o0:h0.Fin) (off:Nat) (d:List UInt8) (hm:off+d.length<=122880):∀ (f done:Nat) (a:Aw) (h:Hd),done<=d.length->d.length-done<=f->Wg n a0 N0 id K h0 off d done a h->(done<d.length->done=0\/(off+done)%480=0) ->
  aL n V0 I (yF ask n off d f done h) a (fun h' a'=>Wg n a0 N0 id K h0 off d d.length a' h') (fun c=>c=7/\K<bh fun i=>eD h0 i || cK off d.length i):=by
 intro f
 induction f with
 | zero=>
  intro done a h hd hf T _;obtain rfl:done=d.length:=by omega
  exact aL.pure T
 | succ f ih=>
  intro done a h hd hf T u0
  by_cases g0:done<d.length
  .obtain ⟨k,hk⟩:∃ k,iU (d.length-done) (off+done)=k:=⟨_,rfl⟩
   have p0:k=min (d.length-done) (480-(off+done)%480):=by rw [<- hk];rfl
   obtain ⟨q,hq⟩:∃ q,(off+done)/480=q:=⟨_,rfl⟩
   obtain ⟨r,l0⟩:∃ r,(off+done)%480=r:=⟨_,rfl⟩
   have D0:off+done=480*q+r:=by omega
   have F0:r<480:=by omega
   have u:q<256:=by omega
   rw [l0] at p0
   refine aL.congr (m':=WM.bind (nh ask n h q (k == 480)) (zu (yF ask n off d f) done off k d)) ?_ fun st=>by
    rw [<- hq,<- hk];exact if_pos g0
   obtain ⟨own,N,T0⟩:=T.st;have m0:cK off d.length q=Q:=cJ.2 ⟨by omega,by omega,by omega⟩
   have i0:∀ i,cK off done i=Q->cK off d.length i=Q:=fun i hi=>by
    obtain ⟨z,o,t⟩:=cJ.1 hi;exact cJ.2 ⟨by omega,by omega,t⟩
   refine ((aL.open hr hn T0 u (k == 480)).mono (fun _ _ h=>h) fun c hE=>?_).bind fun p a' hP=>?_
   .obtain ⟨rfl,hx,x1,x2,x3,x4⟩:=hE
    refine ⟨rfl,?_⟩;rw [<- x1];unfold Hd.mw bh
    have x0:jC (eD hx)+1<=jC fun i=>eD h0 i || cK off d.length i:=by
     refine Q3 u (fun i hi z=>?_) ((iq u).2 (by rw [x2];exact x3)) (by simp only [m0,L4])
     have o:eD h i=Q:=by
      obtain ⟨t,h4⟩:=fp.1 z;rw [x2] at h4;exact fp.2 ⟨t,h4⟩
     rw [T.RE i hi,P2] at o;rw [P2];rcases o with o|o
     .exact .inl o
     .exact .inr (i0 i o)
    by_cases f0:hx.n.rw=0
    .rw [if_pos f0];omega
    .rw [if_neg f0,if_pos]
     .omega
     .rw [fI]
      rcases x4 f0 with j|j
      .rcases T.rw j with j|⟨i,i1,v,i3⟩
       .obtain ⟨i,i1,v,i3⟩:=o0.Vv j
        exact ⟨i,i1,v,by rw [P2];exact .inl (fp.2 ⟨v,i3⟩)⟩
       .exact ⟨i,i1,v,by rw [P2];exact .inr (i0 i i3)⟩
      .exact ⟨q,j,u,by rw [P2];exact .inr m0⟩
   .obtain ⟨h',bI,c0⟩:=p
    obtain ⟨r0,N',T1,hV,⟨b,p1,p2,p3⟩,p4,p5,p6,p7,p8⟩:=hP;dsimp only at T1 p1 p2 p4 p5 p6 p7 p8;subst p1;obtain ⟨b0,d0⟩:∃ s,(d.drop done).take k=s:=⟨_,rfl⟩
    have e0:b0.length=k:=by rw [<- d0,X2,T3];omega
    have k0:(putAt c0 r b0).length=480:=by rw [gF (by rw [e0,p7];omega)];exact p7
    refine aL.congr (m':=WM.bind (bQ (b:Int) (putAt c0 r b0)) fun _=>yF ask n off d f (done+k) h') ?_ fun st=>by
     unfold zu;dsimp only;rw [l0,d0]
    refine (aL.write p3 (by have j:=(T1.ok.pg q (by omega)).2;rw [p2] at j;omega) k0).bind fun _ s0 e=>?_;rw [e];obtain ⟨T2,hb⟩:=T1.yD u p2 p3 k0;refine ih (done+k) _ h' (by omega) (by omega) ⟨⟨r0,N',T2⟩,⟨p5.1.trans T.same.1,p5.2.1.trans T.same.2.1,p5.2.2.trans T.same.2.2⟩,fun p hp=>?_,fun i hi=>?_,fun j=>?_⟩ (fun _=>by right;omega)
    .show jO (A5 a'.V b (putAt c0 r b0)) h' p=_
     rw [hb p hp]
     by_cases e:p/480=q
     .rw [if_pos e,qA (by rw [e0,p7];omega),e0]
      by_cases e2:r<=p%480/\p%480<r+k
      .rw [if_pos e2,if_pos (by omega),<- d0]
       simp only [E2];rw [J3,if_pos (by omega),K3,show done+(p%480-r)=p-off by omega]
      .have hw:(k == 480)=H:=by
        cases q0:(k == 480) with
        | false=>rfl
        | true=>
         have:k=480:=by simpa using q0
         omega
       rw [if_neg e2,p8 hw _ (by omega),show 480*q+p%480=p by omega,T.DQ p hp]
       by_cases y:off<=p/\p<off+done
       .rw [if_pos y,if_pos (by omega)]
       .rw [if_neg y,if_neg (by omega)]
     .rw [if_neg e,CU (p4 _ e),hV,T.DQ p hp]
      by_cases y:off<=p/\p<off+done
      .rw [if_pos y,if_pos (by omega)]
      .rw [if_neg y,if_neg (by omega)]
    .by_cases e:i=q
     .subst e
      rw [fp.2 ⟨hi,by omega⟩];have:cK off (done+k) i=Q:=cJ.2 ⟨by omega,by omega,by omega⟩;rw [this,L4]
     .have e1:eD h' i=eD h i:=by unfold eD;rw [p4 i e]
      rw [e1,T.RE i hi];congr 1
      cases j:cK off done i with
      | true=>
       obtain ⟨z,o,t⟩:=cJ.1 j;exact (cJ.2 ⟨by omega,by omega,t⟩).symm
      | false=>
       cases L:cK off (done+k) i with
       | false=>rfl
       | true=>
        obtain ⟨z,o,t⟩:=cJ.1 L;have:cK off done i=Q:=cJ.2 ⟨by omega,by omega,t⟩;rw [this] at j;cases j
    .rcases p6 j with L|L
     .rcases T.rw L with n0|⟨i,i1,v,i3⟩
      .exact .inl n0
      .obtain ⟨z,o,t⟩:=cJ.1 i3
       exact .inr ⟨i,i1,v,cJ.2 ⟨by omega,by omega,t⟩⟩
     .exact .inr ⟨q,L,u,cJ.2 ⟨by omega,by omega,by omega⟩⟩
  .obtain rfl:done=d.length:=by omega
   refine aL.congr (m':=WM.pure h) (aL.pure T) fun st=>if_neg g0
theorem Le {A:Nat->Option AF} (j:A id=Y f):du A id (Y f)=A:=by
 funext b
 by_cases e:b=id
 .subst e;rw [aW,j]
 .exact aE _ _ e
theorem AF.R7 (f:AF) (off:Nat) {d:List UInt8} (j:d.length=0):f.wr off d=f:=by
 obtain ⟨kd,lk,sz,pR,pr⟩:=f;unfold AF.wr;rw [if_pos j,j];congr 1
 .funext p;rw [if_neg (by omega)]
 .funext i
  have:cK off 0 i=H:=by unfold cK;simp
  rw [this,Bool.or_false]
theorem aL.Qj (hr:qC ask n V0 I) (hn:n<=3840) (hh:Has n a A k) (hf:A id=Y f) (off:Nat) (d:List UInt8) (hd:d.length<=4096) (hm:off+d.length<=122880) :
  aL n V0 I (gP ask n (id:Int) (off:Int) d) a (fun _ a'=>Has n a' (du A id (Y (f.wr off d))) (k+bh f.pr-bh (f.wr off d).pr)/\bh (f.wr off d).pr<=k+bh f.pr) (fun c=>c=7/\k+bh f.pr<bh (f.wr off d).pr):=by
 have l0:=hh;obtain ⟨own,N,S,hk,hA⟩:=hh;obtain ⟨h,hN,rfl⟩:=Has.at hA hf;obtain ⟨i0,T,ho⟩:=S.lay.ok _ _ hN;obtain ⟨L,hs,ht⟩:=S.rest id h (by omega) hN;have z0:=ho.Kt;have z1:=ho.OZ;refine (aL.load hr hn S hN).bind fun x a' e=>?_;obtain ⟨rfl,rfl⟩:=e
 by_cases v:d.length=0
 .rw [AF.R7 _ _ v]
  refine aL.congr (m':=WM.pure ()) (aL.pure ⟨?_,by omega⟩) fun st=>(if_pos ⟨by omega,hd,by omega⟩).trans (if_pos v);rw [Le hf,Nat.add_sub_cancel];exact l0
 .refine aL.congr (m':=WM.bind (yF ask n off d d.length 0 x) (IB off d)) ?_ fun st=>by
   refine ((if_pos ⟨by omega,hd,by omega⟩).trans (if_neg v)).trans ?_;rw [J2]
  have g0:bh (gR a'.V x).pr=x.mw:=(ho.mw L).symm
  have W0:Wg n a' N id (xB own n+x.mw) x off d 0 a' x:=⟨⟨own,N,bA.start S hN⟩,⟨rfl,rfl,rfl⟩,fun p _=>by rw [if_neg (by omega)],fun i _=>by
   have:cK off 0 i=H:=by unfold cK;simp
   rw [this,Bool.or_false],fun o=>.inl o⟩
  refine ((aL.wr hr hn L off d hm d.length 0 a' x (Nat.zero_le _) (by omega) W0 (fun _=>.inl rfl)).mono (fun _ _ h=>h) fun c hc=>⟨hc.1,by rw [g0,<- hk];exact hc.2⟩).bind fun h' b0 j=>?_
  .obtain ⟨o0,N',d0⟩:=j.st
   obtain ⟨s1,s2,s3⟩:=j.same;obtain ⟨z,hz⟩:∃ z,max h'.n.sz ((off+d.length:Nat):Int)=z:=⟨_,rfl⟩
   show aL n V0 I (ez (h'.cR (max h'.n.sz ((off+d.length:Nat):Int)))) b0 _ _
   rw [hz];have n0:z=max x.n.sz ((off+d.length:Nat):Int):=by rw [<- hz,s3]
   have r:=d0.ok;have k0:(h'.cR z).Ok n id:=⟨r.fit,r.id,r.kd,r.JW,r.Kx,show 0<=z by omega,show z<=122880 by omega,r.ze,r.A6,r.pg,r.rz⟩
   have T':=d0.set k0 rfl fun _ _=>rfl
   have c0:(h'.cR z).Fin:=by
    refine ⟨fun i hi hb=>?_,fun o=>?_⟩
    .have e0:bf z<=i:=hb
     show h'.aO i=0
     rw [<- iq hi,j.RE i hi];have e1:eD x i=H:=(iq hi).2 (L.hi i hi (by unfold bf at e0 ⊢;omega))
     have e2:cK off d.length i=H:=by
      cases o:cK off d.length i with
      | false=>rfl
      | true=>
       obtain ⟨t,y,h3⟩:=cJ.1 o;unfold bf at e0;omega
     rw [e1,e2];rfl
    .rcases j.rw o with o|⟨i,T,u,i3⟩
     .obtain ⟨i,T,u,i3⟩:=L.Vv o
      refine ⟨i,T,u,?_⟩;have:eD h' i=Q:=by rw [j.RE i u,fp.2 ⟨u,i3⟩];rfl
      exact (fp.1 this).2
     .refine ⟨i,T,u,?_⟩
      have:eD h' i=Q:=by rw [j.RE i u,i3,L4]
      exact (fp.1 this).2
   have f0:∀ p,p<122880->jO b0.V (h'.cR z) p=((gR a'.V x).wr off d).pR p:=fun p hp=>by
    show jO b0.V h' p=if off<=p/\p<off+d.length then d.getD (p-off) 0 else if p<122880 then jO a'.V x p else 0
    rw [j.DQ p hp,if_pos hp]
   refine (aL.oC T' hn c0).mono (fun _ b e=>?_) fun _ h=>h;subst e;have:=T'.done hn c0 (fun p t y=>?_) hA ((gR a'.V x).wr off d) s1 s2 ?_ f0 (fun p hp=>?_) (fun i hi=>j.RE i hi) fun i hi=>?_
   .rw [<- hk,g0]
    refine ⟨this,?_⟩;have t:=T'.cons;have y:=k0.mw c0;have h3:bh ((gR a'.V x).wr off d).pr=bh (eD (h'.cR z)):=tY fun i hi=>(j.RE i hi).symm;omega
   .have m0:z<=p:=y
    rw [f0 p t];show (if off<=p/\p<off+d.length then d.getD (p-off) 0 else if p<122880 then jO a'.V x p else 0)=0
    rw [if_neg (by omega),if_pos t];exact ht p t (by omega)
   .show z=(((if d.length=0 then x.n.sz.toNat else max x.n.sz.toNat (off+d.length)):Nat):Int)
    rw [if_neg v];omega
   .show (if off<=p/\p<off+d.length then d.getD (p-off) 0 else if p<122880 then jO a'.V x p else 0)=0
    rw [if_neg (by omega),if_neg (by omega)]
   .show (eD x i || cK off d.length i)=H
    have e1:eD x i=H:=by unfold eD;simp;omega
    have e2:cK off d.length i=H:=by
     cases o:cK off d.length i with
     | false=>rfl
     | true=>
      obtain ⟨t,y,h3⟩:=cJ.1 o;omega
    rw [e1,e2];rfl
end
def AF.cut (f:AF) (j:Nat):AF:={ f with sz:=j,pR:=fun p=>if p<j then f.pR p else 0,pr:=fun i=>f.pr i && decide (480*i<j) }
section
variable {σ α:Type} {n id k q K:Nat} {own:Nat->Own} {N N0:Nat->Option Hd} {h h0:Hd} {a a0:Aw} {V0:Nat->List UInt8} {I:σ->Prop} {ask:cO σ} {E:Int->Prop} {A:Nat->Option AF} {f:AF}
theorem Du (o:h.fit):h.row=L2 240 0↔∀ i,16<=i->i<256->h.aO i=0:=by
 constructor
 .intro e i v y
  unfold Hd.aO;rw [if_neg (by omega),e];simp only [E2,W2];split <;> rfl
 .intro t
  rw [S4];refine ⟨o.2,fun x r=>?_⟩;obtain ⟨i,hi,rfl⟩:=G3 r;have u:=o.2;have j:=t (16+i) (by omega) (by omega);unfold Hd.aO at j;rw [if_neg (by omega),show 16+i-16=i by omega,E2,R2 hi] at j;exact j
theorem aL.V4 (hr:qC ask n V0 I) (T:bA n a0 N0 id K a own N h) {j:Nat} (hs:h.n.sz=(j:Int)) (k0:j<=122880) (hp:∀ i,i<256->j<=480*i->h.aO i=0) :
  aL n V0 I (xP ask h) a (fun _ a'=>bA n a0 N0 id K a' own N h/\∀ p,p<122880->jO a'.V h p=if p<j then jO a.V h p else 0) E:=by
 have v:(h.n.sz/480).toNat=j/480:=by rw [hs];omega
 have e2:(h.n.sz%480).toNat=j%480:=by rw [hs];omega
 have L:∀ p,p<122880->¬ p<j->p/480≠j/480\/j%480=0->h.aO (p/480)=0:=fun p u o r=>hp _ (by omega) (by omega)
 by_cases u:h.n.sz%480=0
 .refine aL.congr (m':=WM.pure ()) (aL.pure ⟨T,fun p o=>?_⟩) fun st=>if_pos u
  split
  .rfl
  .rename_i r
   unfold jO;rw [if_pos (L p o r (.inr (by omega)))]
 .by_cases o:h.aO (h.n.sz/480).toNat=0
  .refine aL.congr (m':=WM.pure ()) (aL.pure ⟨T,fun p r=>?_⟩) fun st=>(if_neg u).trans (if_pos o)
   split
   .rfl
   .rename_i h4
    unfold jO;rw [if_pos]
    by_cases t:p/480=j/480
    .rw [t,<- v];exact o
    .exact L p r h4 (.inl t)
  .have d0:=o
   rw [v] at d0;have hq:j/480<256:=by omega
   have i0:=T.ok.pg _ hq;obtain ⟨b,z⟩:∃ b:Nat,h.aO (j/480)=(b:Int):=⟨(h.aO (j/480)).toNat,by omega⟩
   refine aL.congr (m':=WM.bind (de ask (b:Int)) fun c0=>bQ (b:Int) (putAt c0 (j%480) (zs (480-j%480)))) ?_ fun st=>by
    refine ((if_neg u).trans (if_neg o)).trans ?_;rw [v,e2,z];rfl
   refine (aL.read hr (by omega) (by omega)).bind fun c0 a' e=>?_;obtain ⟨rfl,y,e3⟩:=e;rw [e3];have b0:(zs (480-j%480)).length=480-j%480:=bq _;have e0:(putAt (a.V b) (j%480) (zs (480-j%480))).length=480:=by rw [gF (by rw [b0,y];omega)];exact y
   obtain ⟨T2,f0⟩:=T.yD hq z (by omega) e0;refine (aL.write (by omega) (by omega) e0).mono (fun _ g0 e=>?_) fun _ h=>h;subst e;refine ⟨T2,fun p r=>?_⟩;show jO (A5 a.V b _) h p=_
   rw [f0 p r]
   by_cases h4:p/480=j/480
   .rw [if_pos h4,qA (by rw [b0,y];omega),b0]
    by_cases t:p<j
    .rw [if_neg (by omega),if_pos t]
     unfold jO;rw [h4,if_neg d0,z,J2]
    .rw [if_pos (by omega),if_neg t,F2]
   .rw [if_neg h4]
    split
    .rfl
    .rename_i t
     unfold jO;rw [if_pos (L p r t (.inl h4))]
structure Xi (n:Nat) (a0:Aw) (N0:Nat->Option Hd) (id K:Nat) (h0:Hd) (bl k:Nat) (a:Aw) (h:Hd):Prop where
 st:∃ own N,bA n a0 N0 id K a own N h
 V:a.V=a0.V
 same:ym h h0
 rw:h.n.rw=h0.n.rw
 pg:∀ i,i<256->h.aO i=if bl<=i/\i<k then 0 else h0.aO i
def TO (n:Nat) (id K:Nat) (A:Nat->Option AF) (f:AF) (j:Nat) (a':Aw):Prop:=Has n a' (du A id (Y (f.cut j))) (K-bh (f.cut j).pr)
theorem aL.WI (hr:qC ask n V0 I) (hn:n<=3840) {j:Nat} (hs:j<=122880) (hA:∀ id,A id=(N0 id).map (gR a0.V)) (T:bA n a0 N0 id K a own N h) (hV:a.V=a0.V) (r:h.n.kd=h0.n.kd/\h.n.lk=h0.n.lk/\h.n.sz=(j:Int))
  (v:∀ i,i<256->h.aO i=if (bf j).toNat<=i/\i<256 then 0 else h0.aO i) (b0:h.n.rw≠0->∃ i,16<=i/\i<256/\h.aO i≠0) :
  aL n V0 I (C9 ask h) a (fun _ a'=>TO n id K A (gR a0.V h0) j a') E:=by
 have c0:(bf j).toNat=(j+479)/480:=by unfold bf;omega
 have L:∀ i,i<256->j<=480*i->h.aO i=0:=fun i o t=>by rw [v i o,if_pos ⟨by omega,o⟩]
 have z:h.Fin:=⟨fun i hi u=>L i hi (by rw [r.2.2] at u;unfold bf at u;omega),b0⟩
 refine (aL.V4 hr T r.2.2 hs L).bind fun _ a1 e=>?_;obtain ⟨y,u⟩:=e;refine (aL.oC y hn z).mono (fun _ a2 e=>?_) fun _ h=>h;subst e;have d0:(gR a0.V h0).sz=h0.n.sz.toNat:=rfl;refine y.done hn z (fun p o t=>?_) hA ((gR a0.V h0).cut j) r.1 r.2.1 r.2.2 (fun p o=>?_) (fun p o=>?_) (fun i hi=>?_) fun i hi=>?_
 .rw [u p o,if_neg (by rw [r.2.2] at t;omega)]
 .rw [u p o]
  show _=if p<j then (if p<122880 then jO a0.V h0 p else 0) else 0
  rw [if_pos o]
  split
  .rename_i t
   rw [hV];refine CU ?_;rw [v _ (by omega),if_neg (by omega)]
  .rfl
 .show (if p<j then (if p<122880 then jO a0.V h0 p else 0) else 0)=0
  rw [if_neg (by omega)]
 .show eD h i=(eD h0 i && decide (480*i<j))
  unfold eD;rw [v i hi]
  by_cases t:(bf j).toNat<=i
  .rw [if_pos ⟨t,hi⟩,decide_eq_false (show ¬ 480*i<j by omega)];simp
  .rw [if_neg (by omega),decide_eq_true (show 480*i<j by omega),Bool.and_true]
 .show (eD h0 i && decide (480*i<j))=H
  unfold eD;simp;omega
theorem aL.Xj (hr:qC ask n V0 I) (hn:n<=3840) (d0:0<n) {o:Nat} (hs:o<=122880) (hA:∀ id,A id=(N0 id).map (gR a0.V)) (l0:h0.Fin):∀ (j:Nat) (a:Aw) (h:Hd),j<=256-(bf o).toNat->Xi n a0 N0 id K h0 (bf o).toNat (256-j) a h ->
  aL n V0 I (qE ask o j h) a (fun _ a'=>TO n id K A (gR a0.V h0) o a') E:=by
 have k0:(bf o).toNat=(o+479)/480:=by unfold bf;omega
 intro j
 induction j with
 | zero=>
  intro a h _ T;obtain ⟨own,N,y⟩:=T.st;have r:=y.ok;obtain ⟨s1,s2,s3⟩:=T.same
  by_cases hc:h.n.rw≠0/\h.row=L2 240 0
  .obtain ⟨v,t⟩:=hc
   have hz:=(Du r.fit).1 t;have z:=y.Gh hn v hz;refine aL.congr (m':=WM.bind (cM ask h.n.rw.toNat H) fun _=>C9 ask ((h.dK 0).cR o)) ?_ fun st=>if_pos ⟨v,t⟩;refine (aL.mark hr d0).bind fun _ a' e=>?_;subst e;have u:=z.ok;have T2:=z.set (h':=(h.dK 0).cR o) ⟨u.fit,u.id,u.kd,u.JW,u.Kx,show (0:Int)<=(o:Int) by omega,show (o:Int)<=122880 by omega,u.ze,u.A6,u.pg,u.rz⟩ rfl fun _ _=>rfl;exact aL.WI hr hn hs hA T2 T.V ⟨s1,s2,rfl⟩ T.pg fun h9=>absurd rfl h9
  .refine aL.congr (m':=C9 ask (h.cR o)) ?_ fun st=>if_neg hc
   have T2:=y.set (h':=h.cR o) ⟨r.fit,r.id,r.kd,r.JW,r.Kx,show (0:Int)<=(o:Int) by omega,show (o:Int)<=122880 by omega,r.ze,r.A6,r.pg,r.rz⟩ rfl fun _ _=>rfl;refine aL.WI hr hn hs hA T2 T.V ⟨s1,s2,rfl⟩ T.pg fun h9=>?_;have e0:h.n.rw≠0:=h9;have f0:¬ ∀ i,16<=i->i<256->h.aO i=0:=fun hz=>hc ⟨e0,(Du r.fit).2 hz⟩;refine Classical.byContradiction fun g0=>f0 fun i i1 i2=>Classical.byContradiction fun i0=>g0 ⟨i,i1,i2,i0⟩
 | succ j ih=>
  intro a h hj T;obtain ⟨own,N,y⟩:=T.st;obtain ⟨k,L⟩:∃ k,256-(j+1)=k:=⟨_,rfl⟩
  have b0:k<256:=by omega
  have c0:(bf o).toNat<=k:=by omega
  rw [L] at T
  by_cases v:h.aO k=0
  .refine aL.congr (m':=qE ask o j h) ?_ fun st=>if_pos (by rw [L];exact v)
   refine ih a h (by omega) ⟨T.st,T.V,T.same,T.rw,fun i hi=>?_⟩;rw [T.pg i hi,show 256-j=k+1 by omega]
   by_cases e:i=k
   .subst e
    have:=T.pg i hi;rw [if_neg (by omega),v] at this;rw [if_neg (by omega),if_pos ⟨c0,by omega⟩];exact this.symm
   .by_cases t:(bf o).toNat<=i/\i<k
    .rw [if_pos t,if_pos ⟨t.1,by omega⟩]
    .rw [if_neg t,if_neg (by omega)]
  .refine aL.congr (m':=WM.bind (cM ask (h.aO k).toNat H) fun _=>qE ask o j (h.put k 0)) ?_ fun st=>by
    refine (if_neg (by rw [L];exact v)).trans ?_;rw [L]
   refine (aL.mark hr d0).bind fun _ a' e=>?_;subst e;have z:=y.BM hn b0 v;obtain ⟨s1,s2,s3⟩:=y8 h k 0;obtain ⟨t1,t2,t3⟩:=T.same;refine ih _ (h.put k 0) (by omega) ⟨⟨_,_,z⟩,T.V,⟨s1.trans t1,s2.trans t2,s3.trans t3⟩,by rw [Hd.ig];exact T.rw,fun i hi=>?_⟩;rw [Hd.jE y.ok.fit b0,show 256-j=k+1 by omega]
   by_cases e:i=k
   .subst e;rw [if_pos rfl,if_pos ⟨c0,by omega⟩]
   .rw [if_neg e,T.pg i hi]
    by_cases t:(bf o).toNat<=i/\i<k
    .rw [if_pos t,if_pos ⟨t.1,by omega⟩]
    .rw [if_neg t,if_neg (by omega)]
theorem aL.VM (hr:qC ask n V0 I) (hn:n<=3840) (u:Has n a A k) (t:A id=Y f) (j:Nat) (L:j<=122880) :
  aL n V0 I (mN ask n (id:Int) (j:Int)) a (fun _ a'=>TO n id (k+bh f.pr) A f j a') E:=by
 obtain ⟨own,N,S,v,o⟩:=u;obtain ⟨h,hN,rfl⟩:=Has.at o t;obtain ⟨i0,i1,z⟩:=S.lay.ok _ _ hN;obtain ⟨r,b0,ht⟩:=S.rest id h (by omega) hN;refine (aL.load hr hn S hN).bind fun x a' e=>?_;obtain ⟨rfl,rfl⟩:=e;have y:bh (gR a'.V x).pr=x.mw:=(z.mw r).symm;have T:(bf j).toNat=(j+479)/480:=by unfold bf;omega
 refine aL.congr (m':=qE ask j (256-(bf j).toNat) x) ?_ fun st=>if_pos ⟨by omega,by omega⟩;rw [y,<- v];refine aL.Xj hr hn (by omega) L o r (256-(bf j).toNat) a' x (by omega) ⟨⟨own,N,bA.start S hN⟩,rfl,⟨rfl,rfl,rfl⟩,rfl,fun i hi=>?_⟩;rw [if_neg (by omega)]
theorem aL.UP (hr:qC ask n V0 I) (hn:n<=3840) (c0:0<n) {P:Unit->Aw->Prop} (b0:h0.fit) (hP:∀ a own N h,bA n a0 N0 id K a own N h->a.V=a0.V->h.n.rw=h0.n.rw->(∀ i,i<256->h.aO i=0)->P () a) :
  ∀ (j:Nat) (a:Aw) (own:Nat->Own) (N:Nat->Option Hd) (h:Hd),j<=256->bA n a0 N0 id K a own N h->a.V=a0.V->h.n.rw=h0.n.rw->(∀ i,i<256->h.aO i=if i<256-j then 0 else h0.aO i)->aL n V0 I (iQ ask (h0.iB.drop (256-j))) a P E:=by
 intro j
 induction j with
 | zero=>
  intro a own N h _ T u y o;rw [List.drop_of_length_le (by rw [Hd.jV b0];omega)];exact aL.pure (hP a own N h T u y fun i hi=>by rw [o i hi,if_pos (by omega)])
 | succ j ih=>
  intro a own N h hj T u y o;obtain ⟨k,hk⟩:∃ k,256-(j+1)=k:=⟨_,rfl⟩
  have v:k<256:=by omega
  rw [hk] at o ⊢;rw [Hd.mF b0 v];have z:=o k v;rw [if_neg (by omega)] at z;have L:k+1=256-j:=by omega
  by_cases t:h0.aO k=0
  .refine aL.congr (m':=iQ ask (h0.iB.drop (k+1))) ?_ fun st=>if_pos t
   rw [L];refine ih a own N h (by omega) T u y fun i hi=>?_;rw [o i hi]
   by_cases e:i=k
   .subst e;rw [if_neg (by omega),if_pos (by omega),t]
   .by_cases r:i<k
    .rw [if_pos r,if_pos (by omega)]
    .rw [if_neg r,if_neg (by omega)]
  .refine aL.congr (m':=WM.bind (cM ask (h0.aO k).toNat H) fun _=>iQ ask (h0.iB.drop (k+1))) ?_ fun st=>if_neg t
   refine (aL.mark hr c0).bind fun _ a' e=>?_;subst e;rw [<- z,L];refine ih _ _ _ (h.put k 0) (by omega) (T.BM hn v (by rw [z];exact t)) u (by rw [Hd.ig];exact y) fun i hi=>?_;rw [Hd.jE T.ok.fit v]
   by_cases e:i=k
   .subst e;rw [if_pos rfl,if_pos (by omega)]
   .rw [if_neg e,o i hi]
    by_cases r:i<k
    .rw [if_pos r,if_pos (by omega)]
    .rw [if_neg r,if_neg (by omega)]
theorem LU (o:∀ i,i<256->h.aO i=0) (hr:h.n.rw=0):h.mw=1:=by
 unfold Hd.mw
 have e:jC (eD h)=0:=by
  unfold jC;rw [S3];intro i hi j;exact (fp.1 j).2 (o i (List.mem_range.1 hi))
 rw [e,if_pos hr]
theorem bA.gone (T:bA n a0 N0 id K a own N h) (hn:n<=3840) (y:a.V=a0.V) (v:∀ id,A id=(N0 id).map (gR a0.V)) (r:h.n.rw=0) (o:∀ i,i<256->h.aO i=0):Has n { a with B:=eC a.B id H } (du A id U) K:=by
 obtain ⟨i0,t,L⟩:=T.sp.lay.ok _ _ T.hN;refine ⟨du own id nC,du N id U,(T.sp.step (T.sp.lay.gone T.hN r o) (T.sp.bm.set hn t _ _ (by simp)) fun id' z=>aE _ _ z).shut fun g j=>(by rw [aW] at j;cases j),?_,fun id'=>?_⟩
 .have:=mQ (own:=own) (x:=nC) t
  rw [T.sp.lay.tR T.hN,if_pos rfl,if_neg (by simp)] at this;have u:=T.cons;rw [LU o r] at u;omega
 .by_cases e:id'=id
  .subst e;rw [aW,aW];rfl
  .rw [aE _ _ e,aE _ _ e,v id',<- T.Uq id' e]
   show _=(N id').map (gR a.V)
   rw [y]
theorem aL.free (hr:qC ask n V0 I) (hn:n<=3840) (hh:Has n a A k) (hf:A id=Y f) :
  aL n V0 I (qZ ask n (id:Int)) a (fun _ a'=>Has n a' (du A id U) (k+bh f.pr)) E:=by
 obtain ⟨own,N,S,hk,y⟩:=hh;obtain ⟨h,hN,rfl⟩:=Has.at y hf;obtain ⟨i0,i1,z⟩:=S.lay.ok _ _ hN;obtain ⟨c0,e0,ht⟩:=S.rest id h (by omega) hN;refine (aL.load hr hn S hN).bind fun x a' e=>?_;obtain ⟨rfl,rfl⟩:=e;have d0:bh (gR a'.V x).pr=x.mw:=(z.mw c0).symm;rw [d0,<- hk];refine aL.bind (P:=fun _ j=>∃ v t h',bA n a' N id (xB own n+x.mw) j v t h'/\j.V=a'.V/\h'.n.rw=x.n.rw/\∀ i,i<256->h'.aO i=0) ?_ fun _ j e=>?_
 .have:=aL.UP (E:=E) hr hn (by omega) (P:=fun _ j=>∃ v t h',bA n a' N id (xB own n+x.mw) j v t h'/\j.V=a'.V/\h'.n.rw=x.n.rw/\∀ i,i<256->h'.aO i=0) z.fit
   (fun a own N h T u r o=>⟨own,N,h,T,u,r,o⟩) 256 a' own N x (D2 _) (bA.start S hN) rfl rfl fun i hi=>by rw [if_neg (by omega)]
  rw [Nat.sub_self,List.drop_zero] at this;exact this
 .obtain ⟨v,t,h',T,u,r,o⟩:=e
  have b0:=z.id
  by_cases h0:x.n.rw=0
  .refine aL.congr (m':=cM ask x.id H) ?_ fun st=>if_pos h0
   rw [b0];refine (aL.mark hr (by omega)).mono (fun _ a3 e=>?_) fun _ h=>h;subst e;exact T.gone hn u y (by rw [r];exact h0) o
  .refine aL.congr (m':=WM.bind (cM ask x.n.rw.toNat H) fun _=>cM ask x.id H) ?_ fun st=>if_neg h0
   rw [b0];refine (aL.mark hr (by omega)).bind fun _ a3 e=>?_;subst e;refine (aL.mark hr (by omega)).mono (fun _ a4 e=>?_) fun _ h=>h;subst e;have L:=T.Gh hn (by rw [r];exact h0) fun i _ hi=>o i hi;rw [r] at L;exact L.gone hn u y rfl o
end
section
variable {σ α:Type} {n id k:Nat} {own:Nat->Own} {N:Nat->Option Hd} {a a':Aw} {V0:Nat->List UInt8} {I:σ->Prop} {ask:cO σ} {E:Int->Prop} {P:α->Aw->Prop} {A:Nat->Option AF} {f:AF} {M:gZ σ} {m:WM σ α}
theorem Has.congr (h:Has n a A k) (u:∀ i,0<i->i<n->a'.V i=a.V i) (hB:a'.B=a.B):Has n a' A k:=by
 obtain ⟨own,N,S,hk,T⟩:=h
 have v:∀ id g,N id=Y g->(∀ b,b=id\/own b=Ku id->a'.V b=a.V b)/\∀ b i,own b=GH id i->a'.V b=a.V b:=by
  intro id g o;obtain ⟨i0,i1,ho⟩:=S.lay.ok _ _ o
  have y:∀ b,own b≠nC->own b≠Lr->a'.V b=a.V b:=fun b r t=>by
   refine u b ?_ ?_
   .rcases Nat.eq_zero_or_pos b with e|e
    .subst e;exact absurd S.lay.zero t
    .exact e
   .refine Nat.lt_of_not_le fun L=>r (S.lay.out b L)
  refine ⟨fun b j=>?_,fun b i j=>y b (by rw [j];simp) (by rw [j];simp)⟩;rcases j with rfl|j
  .exact u b i0 i1
  .exact y b (by rw [j];simp) (by rw [j];simp)
 refine ⟨own,N,⟨S.lay,by rw [hB];exact S.bm,fun b h0 j=>by rw [u b h0 j];exact S.len b h0 j,fun id g b0 o=>?_⟩,hk,fun id=>?_⟩
 .obtain ⟨r,t,z⟩:=S.rest id g b0 o
  exact ⟨r,t.frame S.lay o (v id g o).1,z.frame S.lay o (v id g o).2⟩
 .rw [T id]
  cases o:N id with
  | none=>rfl
  | some g=>
   show Y (gR a.V g)=Y (gR a'.V g)
   congr 1;unfold gR;congr 1;funext p
   split
   .rename_i hp;exact (pM S.lay o (v id g o).2 hp).symm
   .rfl
structure oN (n:Nat) (V0:Nat->List UInt8) (I:σ->Prop) (M:gZ σ) (A:Nat->Option AF) (k:Nat):Prop where
 gL:Good n V0 I M
 has:Has n (KS V0 M) A k
theorem oN.reader (h:oN n V0 I M A k) {s:σ} (j:I s):oN n V0 I { M with s:=s } A k:=⟨⟨h.gL.err,j,h.gL.wr,h.gL.rd,h.gL.keys⟩,h.has⟩
theorem oN.run (hr:qC ask n V0 I) (h0:0<n) (h:oN n V0 I M A k) (v:aL n V0 I m (KS V0 M) P E) :
  (∃ x M' a',ed m M=(.ok x,M')/\P x a'/\∀ A' k',Has n a' A' k'->oN n V0 I M' A' k')\/∃ c j,ed m M=(.bad c,{ M with s:=j })/\E c/\oN n V0 I { M with s:=j } A k:=by
 rcases aL.run hr h0 h.gL v with ⟨x,M',a',o,r,t,h4,u⟩|⟨c,j,o,r,t⟩
 .exact .inl ⟨x,M',a',o,t,fun A' k' y=>⟨r,y.congr u h4⟩⟩
 .exact .inr ⟨c,j,o,t,h.reader r⟩
variable (hr:qC ask n V0 I) (h0:0<n) (hn:n<=3840)
include hr h0
theorem FP (h4:4<=n) (hn:n<=3840) (t:Good n V0 I M):∃ M',ed (jy ask) M=(.ok (),M')/\oN n V0 I M' (fun id=>if id=1 then Y (fh 2) else U) (n-2):=by
 rcases aL.run hr h0 t (aL.format (E:=fun _=>False) hr h4 hn fun b _ v=>t.Qa hr v) with ⟨x,M',a',o,r,j,h4,u⟩|⟨c,y,o,r,j⟩
 .exact ⟨M',o,r,j.congr u h4⟩
 .exact j.elim
include hn
theorem M0 (h:oN n V0 I M A k) (v:A id=Y f):∃ x M',ed (qR ask n (id:Int)) M=(.ok x,M')/\x.kd=f.kd/\x.lk=f.lk/\x.sz=f.sz/\oN n V0 I M' A k:=by
 rcases h.run hr h0 (aL.node (E:=fun _=>False) hr hn h.has v) with ⟨x,M',a',o,⟨j,r,h4,t⟩,u⟩|⟨c,y,o,j,r⟩
 .exact ⟨x,M',o,j,r,h4,u _ _ (by rw [t];exact h.has)⟩
 .exact j.elim
theorem Ee (h:oN n V0 I M A k) (v:A id=Y f) (off j:Nat):∃ M',ed (jZ ask n (id:Int) (off:Int) (j:Int)) M=(.ok (f.sub off j),M')/\oN n V0 I M' A k:=by
 rcases h.run hr h0 (aL.Sa (E:=fun _=>False) hr hn h.has v off j) with ⟨x,M',a',r,⟨o,t⟩,u⟩|⟨c,z,r,o,y⟩
 .exact ⟨M',by rw [r,o],u _ _ (by rw [t];exact h.has)⟩
 .exact o.elim
theorem QI (h:oN n V0 I M A k) {kd:Int} (z:kd=1\/kd=2) :
  (∃ id M',ed (xH ask n kd) M=(.ok id,M')/\A id=U/\0<id/\id<n/\0<k/\oN n V0 I M' (du A id (Y (fh kd))) (k-1))\/(∃ j,ed (xH ask n kd) M=(.bad 7,{ M with s:=j })/\k=0/\oN n V0 I { M with s:=j } A k):=by
 rcases h.run hr h0 (aL.new hr h0 hn h.has z) with ⟨x,M',a',o,⟨r,t,h4,u,v⟩,y⟩|⟨c,j,o,⟨rfl,r⟩,t⟩
 .exact .inl ⟨x,M',o,r,t,h4,u,y _ _ v⟩
 .exact .inr ⟨j,o,r,t⟩
theorem Kl (h:oN n V0 I M A k) (v:A id=Y f) (d:Int) :
  (∃ M',ed (lD ask n (id:Int) d) M=(.ok (),M')/\(0<=wrap64 (f.lk+d)/\wrap64 (f.lk+d)<=65535)/\oN n V0 I M' (du A id (Y { f with lk:=wrap64 (f.lk+d) })) k) \/
  (∃ j,ed (lD ask n (id:Int) d) M=(.bad 1,{ M with s:=j })/\¬ (0<=wrap64 (f.lk+d)/\wrap64 (f.lk+d)<=65535)/\oN n V0 I { M with s:=j } A k):=by
 rcases h.run hr h0 (aL.Vz hr hn h.has v d) with ⟨x,M',a',o,⟨r,t⟩,u⟩|⟨c,j,o,⟨rfl,r⟩,t⟩
 .exact .inl ⟨M',o,r,u _ _ t⟩
 .exact .inr ⟨j,o,r,t⟩
theorem Iy (h:oN n V0 I M A k) (u:A id=Y f) (j:Nat) (v:j<=122880) :
  ∃ M',ed (mN ask n (id:Int) (j:Int)) M=(.ok (),M')/\oN n V0 I M' (du A id (Y (f.cut j))) (k+bh f.pr-bh (f.cut j).pr):=by
 rcases h.run hr h0 (aL.VM (E:=fun _=>False) hr hn h.has u j v) with ⟨x,M',a',r,o,t⟩|⟨c,z,r,o,y⟩
 .exact ⟨M',r,t _ _ o⟩
 .exact o.elim
theorem La (h:oN n V0 I M A k) (t:A id=Y f):∃ M',ed (qZ ask n (id:Int)) M=(.ok (),M')/\oN n V0 I M' (du A id U) (k+bh f.pr):=by
 rcases h.run hr h0 (aL.free (E:=fun _=>False) hr hn h.has t) with ⟨x,M',a',o,j,r⟩|⟨c,v,o,j,u⟩
 .exact ⟨M',o,r _ _ j⟩
 .exact j.elim
theorem tU (h:oN n V0 I M A k) (y:A id=Y f) (off:Nat) (d:List UInt8) (v:d.length<=4096) (z:off+d.length<=122880) :
  (∃ M',ed (gP ask n (id:Int) (off:Int) d) M=(.ok (),M')/\bh (f.wr off d).pr<=k+bh f.pr/\oN n V0 I M' (du A id (Y (f.wr off d))) (k+bh f.pr-bh (f.wr off d).pr)) \/
  (∃ j,ed (gP ask n (id:Int) (off:Int) d) M=(.bad 7,{ M with s:=j })/\k+bh f.pr<bh (f.wr off d).pr/\oN n V0 I { M with s:=j } A k):=by
 rcases h.run hr h0 (aL.Qj hr hn h.has y off d v z) with ⟨x,M',a',o,⟨r,t⟩,u⟩|⟨c,j,o,⟨rfl,r⟩,t⟩
 .exact .inl ⟨M',o,t,u _ _ r⟩
 .exact .inr ⟨j,o,r,t⟩
omit hn in
theorem Mu (h:oN n V0 I M A k):∃ M',ed (qe ask n) M=(.ok k,M')/\oN n V0 I M' A k:=by
 rcases h.run hr h0 (aL.left (E:=fun _=>False) hr h0 h.has) with ⟨x,M',a',o,⟨j,r⟩,t⟩|⟨c,v,o,j,u⟩
 .exact ⟨M',by rw [o,j],t _ _ (by rw [r];exact h.has)⟩
 .exact j.elim
end
variable {σ α β:Type} {m:WM σ α} {k:α->WM σ β} {ask:cO σ} {c d n:Nat}
def bO (m:WM σ α) (c:Nat):Prop:=∀ st a j,m st=(.ok a,j)->j.b.W.length<=st.b.W.length+c
theorem bO.bind (h:bO m c) (o:∀ a,bO (k a) d):bO (WM.bind m k) (c+d):=by
 intro st a y e;unfold WM.bind at e
 cases j:m st with
 | mk r v=>
  rw [j] at e
  cases r with
  | ok x=>have t:=h _ _ _ j;have u:=o x _ _ _ e;omega
  | bad c=>cases e
theorem bO.fM (h:bO m 0) (j:∀ a,bO (k a) d):bO (WM.bind m k) d:=by
 have:=h.bind j;rwa [J4] at this
theorem bO.mono (h:bO m c) (j:c<=d):bO m d:=fun st a o e=>by have:=h _ _ _ e;omega
theorem bO.pure (a:α):bO (WM.pure a:WM σ α) 0:=fun st b j e=>by cases e;exact D2 _
theorem bO.ite {p:Prop} [Decidable p] {j:WM σ α} (h:bO m c) (h':bO j c):bO (fun st=>if p then m st else j st) c:=fun st a o e=>by
 simp only at e;split at e;exact h _ _ _ e;exact h' _ _ _ e
theorem bO.stop (z:Int):bO (fun st=>(.bad z,st):WM σ α) 0:=fun st a j e=>by cases e
theorem bO.skip (a:α):bO (fun st=>(.ok a,st):WM σ α) 0:=fun st b j e=>by cases e;exact D2 _
theorem EJ (b:gZ σ) (id:Int):(gy ask b id).2.W=b.W:=by
 unfold gy
 split
 .rfl
 .split
  .rfl
  .split
   .rfl
   .unfold tx;split <;> rfl
theorem ki (id:Int):bO (de ask id) 0:=fun st a j e=>by
 unfold de at e
 split at e
 .cases e
 .split at e
  .cases e
  .cases e;show (gy ask st.b id).2.W.length<=_;rw [EJ];omega
theorem kH (id:Int) (l:List UInt8):bO (bQ id l:WM σ Unit) 1:=fun st a j e=>by
 unfold bQ at e
 split at e
 .cases e
  show (SL.fK st.b.W id l).length<=_
  rw [EI];split <;> omega
 .cases e
theorem sN:bO (jF ask) 0:=fun st a j e=>by
 unfold jF at e
 split at e
 .cases e;exact D2 _
 .split at e
  .rename_i h;cases e;have:=ki 0 _ _ _ h;exact this
  .cases e
theorem iw (id:Nat) (t:Bool):bO (cM ask id t) 0:=sN.fM fun l st a j e=>by cases e;exact D2 _
theorem pz:bO (iZ ask n) 0:=sN.fM fun l st a o e=>by
 unfold sY at e
 cases j:fA l n with
 | none=>rw [j] at e;cases e
 | some k=>rw [j] at e;cases e;exact D2 _
theorem nZ (l:List Int):bO (eS n l:WM σ Unit) 0:=fun st a j e=>by
 unfold eS at e;split at e <;> cases e;exact D2 _
theorem vP (id:Nat) (nd:Nd) (row:List Int):bO (ja n id nd row:WM σ Hd) 0:=(nZ _).fM fun _=>(nZ _).fM fun _=>bO.pure _
theorem pO (id:Int):bO (gv ask n id) 0:=by
 refine bO.ite ((ki _).fM fun L=>bO.ite (bO.ite (vP _ _ _) ((nZ _).fM fun _=>(ki _).fM fun L=>bO.ite (vP _ _ _) (bO.stop _))) (bO.stop _)) (bO.stop _)
theorem lQ (h:Hd):bO (ez h:WM σ Unit) 2:=by
 refine bO.ite ((kH _ _).bind (d:=1) fun _=>bO.ite ((bO.skip _).mono (by omega)) (bO.ite (kH _ _) ((bO.stop _).mono (by omega)))) ((bO.stop _).mono (by omega))
def Still (m:WM σ α):Prop:=∀ st a j,m st=(.ok a,j)->j.b.W.length<=st.b.W.length/\j.dt=st.dt
theorem Still.bind (h:Still m) (u:∀ a,Still (k a)):Still (WM.bind m k):=by
 intro st a y e;unfold WM.bind at e
 cases t:m st with
 | mk r v=>
  rw [t] at e
  cases r with
  | ok x=>have j:=h _ _ _ t;have o:=u x _ _ _ e;exact ⟨K2 o.1 j.1,o.2.trans j.2⟩
  | bad c=>cases e
theorem Still.pure (a:α):Still (WM.pure a:WM σ α):=fun st b j e=>by cases e;exact ⟨D2 _,rfl⟩
theorem Still.ite {p:Prop} [Decidable p] {j:WM σ α} (h:Still m) (h':Still j):Still (fun st=>if p then m st else j st):=fun st a o e=>by
 simp only at e;split at e;exact h _ _ _ e;exact h' _ _ _ e
theorem Still.stop (z:Int):Still (fun st=>(.bad z,st):WM σ α):=fun st a j e=>by cases e
theorem Still.skip (a:α):Still (fun st=>(.ok a,st):WM σ α):=fun st b j e=>by cases e;exact ⟨D2 _,rfl⟩
theorem ng (id:Int):Still (de ask id):=fun st a j e=>by
 refine ⟨ki id _ _ _ e,?_⟩;unfold de at e
 split at e
 .cases e
 .split at e <;> cases e
  rfl
theorem DL:Still (jF ask):=fun st a j e=>by
 refine ⟨sN _ _ _ e,?_⟩;unfold jF at e
 split at e
 .cases e;rfl
 .split at e
  .rename_i h;cases e;exact (ng 0 _ _ _ h).2
  .cases e
theorem nf (l:List Int):Still (eS n l:WM σ Unit):=fun st a j e=>by
 unfold eS at e;split at e <;> cases e;exact ⟨D2 _,rfl⟩
theorem ue (id:Nat) (nd:Nd) (row:List Int):Still (ja n id nd row:WM σ Hd):=(nf _).bind fun _=>(nf _).bind fun _=>Still.pure _
theorem wu (id:Int):Still (gv ask n id):=
 Still.ite ((ng _).bind fun L=>Still.ite (Still.ite (ue _ _ _) ((nf _).bind fun _=>(ng _).bind fun L=>Still.ite (ue _ _ _) (Still.stop _))) (Still.stop _)) (Still.stop _)
theorem FT (node:Int):Still (qR ask n node):=(wu _).bind fun _=>Still.pure _
theorem vB (h:Hd) (off:Nat):∀ (f done:Nat) (L:List UInt8),Still (DH ask h off f done L)
 | 0,_,L=>Still.pure L
 | f+1,done,L=>Still.ite (Still.ite (vB h off f _ L) ((ng _).bind fun _=>vB h off f _ _)) (Still.skip _)
theorem zL (node off j:Int):Still (jZ ask n node off j):=(wu _).bind fun h=>Still.ite (Still.ite (Still.skip _) (vB _ _ _ _ _)) (Still.stop _)
theorem En:Still (qe ask n):=DL.bind fun _=>Still.pure _
theorem Still.run (h:Still m) {M M':gZ σ} {x:α} (e:ed m M=(.ok x,M')):M'.W.length<=M.W.length:=by
 cases j:m ⟨M,U,H⟩ with
 | mk r st=>
  cases r with
  | ok y=>
   have o:=h _ _ _ j;rw [oM j o.2] at e;cases e;exact o.1
  | bad z=>rw [mj j] at e;cases e
theorem bO.run (h:bO m c) {M M':gZ σ} {x:α} (e:ed m M=(.ok x,M')):M'.W.length<=M.W.length+(c+1):=by
 unfold ed at e
 have t:bO (oH:WM σ Unit) 1:=fun st a u e=>by
  unfold oH at e
  split at e
  .exact kH _ _ st a u e
  .cases e;omega
 have o:bO (WM.bind m fun a=>WM.bind oH fun _=>WM.pure a) (c+1):=h.bind fun a=>t.bind (d:=0) fun _=>bO.pure a
 cases j:(WM.bind m fun a=>WM.bind oH fun _=>WM.pure a) ⟨M,U,H⟩ with
 | mk r st=>
  rw [j] at e
  cases r with
  | ok y=>cases e;exact o _ _ _ j
  | bad z=>cases e
theorem N7 (kd:Int):bO (xH ask n kd) 2:=bO.ite (pz.fM fun id=>(lQ _).bind (d:=0) fun _=>bO.pure _) ((bO.stop _).mono (by omega))
theorem FU (node j:Int):bO (lD ask n node j) 2:=(pO _).fM fun h=>bO.ite (lQ _) ((bO.stop _).mono (by omega))
theorem qH:∀ j:List Int,bO (iQ ask j) 0
 | []=>bO.pure _
 | p :: j=>bO.ite (qH j) ((iw _ _).fM fun _=>qH j)
theorem I6 (node:Int):bO (qZ ask n node) 0:=(pO _).fM fun h=>(qH _).fM fun _=>bO.ite (iw _ _) ((iw _ _).fM fun _=>iw _ _)
theorem Lz (h:Hd):bO (xP ask h) 1:=bO.ite ((bO.skip _).mono (by omega)) (bO.ite ((bO.skip _).mono (by omega)) ((ki _).fM fun L=>kH _ _))
theorem CY (h:Hd):bO (C9 ask h) 3:=(Lz h).bind (d:=2) fun _=>lQ h
theorem Lu (j:Int) (h:Hd):bO (TL ask j h) 3:=bO.ite ((iw _ _).fM fun _=>CY _) (CY _)
theorem vV (o:Int):∀ (j:Nat) (h:Hd),bO (qE ask o j h) 3
 | 0,h=>Lu o h
 | j+1,h=>bO.ite (vV o j h) ((iw _ _).fM fun _=>vV o j _)
theorem DP (node j:Int):bO (mN ask n node j) 3:=(pO _).fM fun h=>bO.ite (vV _ _ _) ((bO.stop _).mono (by omega))
theorem IY (h:Hd) (i:Nat) (j:Bool):bO (nh ask n h i j) 0:=
 bO.ite (bO.ite (pz.fM fun r=>pz.fM fun _=>bO.pure _) (pz.fM fun _=>bO.pure _)) (bO.ite (bO.skip _) ((ki _).fM fun _=>bO.pure _))
def Bh (off l done:Nat):Nat:=if done<l then (off+l-1)/480-(off+done)/480+1 else 0
theorem J8 {off l done:Nat} (h:done<l):1+Bh off l (done+iU (l-done) (off+done))<=Bh off l done:=by
 have r:Bh off l done=(off+l-1)/480-(off+done)/480+1:=if_pos h;rw [r]
 by_cases j:done+iU (l-done) (off+done)<l
 .have o:Bh off l (done+iU (l-done) (off+done))=(off+l-1)/480-(off+(done+iU (l-done) (off+done)))/480+1:=if_pos j
  rw [o];have t:iU (l-done) (off+done)=480-(off+done)%480:=by unfold iU at j ⊢;omega
  rw [t] at j ⊢;omega
 .have o:Bh off l (done+iU (l-done) (off+done))=0:=if_neg j
  rw [o];omega
theorem G4 (off:Nat) (dt:List UInt8):∀ (f done:Nat) (h:Hd),bO (yF ask n off dt f done h) (Bh off dt.length done)
 | 0,_,h=>(bO.pure h).mono (by omega)
 | f+1,done,h=>by
  by_cases o:done<dt.length
  .have r:bO (WM.bind (nh ask n h ((off+done)/480) (iU (dt.length-done) (off+done) == 480)) (zu (yF ask n off dt f) done off (iU (dt.length-done) (off+done)) dt)) (1+Bh off dt.length (done+iU (dt.length-done) (off+done))):=
    (IY _ _ _).fM fun p=>(kH _ _).bind fun _=>G4 off dt f _ _
   intro st a t e;have j:yF ask n off dt (f+1) done h st=(WM.bind (nh ask n h ((off+done)/480) (iU (dt.length-done) (off+done) == 480)) (zu (yF ask n off dt f) done off (iU (dt.length-done) (off+done)) dt)) st:=if_pos o;rw [j] at e;have u:=r _ _ _ e;have h4:=J8 (off:=off) o;omega
  .intro st a t e
   have j:yF ask n off dt (f+1) done h st=(.ok h,st):=if_neg o;rw [j] at e;cases e
   omega
theorem zT (node off:Int) (dt:List UInt8):bO (gP ask n node off dt) (dt.length/480+4):=by
 refine (pO _).fM fun h=>bO.ite (bO.ite ((bO.skip _).mono (by omega)) (((G4 _ _ _ _ _).mono (d:=dt.length/480+2) ?_).bind fun _=>lQ _)) ((bO.stop _).mono (by omega));unfold Bh
 split <;> omega
theorem Ck:bO (jy ask) 2:=fun st a j e=>((iw 0 Q).fM fun _=>(iw 1 Q).fM fun _=>lQ _) { st with bits:=Y (zs 480) } a j e
end Go.SL
namespace Go.SL
open RowKit
theorem To {α:Type} (f:Nat->α) (k:Nat) (x y:α):du (du f k x) k y=du f k y:=by
 funext b;unfold du;split <;> rfl
end Go.SL
namespace Go.Proofs.Fs
open RowKit SL Proofs.Ba
structure Fx (n:Nat) where
 σ:Type
 c:Cx σ
 V0:Nat->List UInt8
 I:σ->Prop
 ok:c.Ok
 KB:qC c.ask n V0 I
 h4:4<=n
 hn:n<=3840
 R:Hp->ai
 hR:∀ S S',Ext S S'->∀ h,R S h->R S' h
 C:Nat
@[reducible] def Fx.more {n:Nat} (x:Fx n) (m:Nat):Fx n:=⟨x.σ,x.c,x.V0,x.I,x.ok,x.KB,x.h4,x.hn,x.R,x.hR,x.C+m⟩
def SX {n:Nat} (x:Fx n) (b:Nat) (M:gZ x.σ):ai:=ex fun S=>cI x.c S b M*(ak S*x.R S)
abbrev zR {n:Nat} (x:Fx n) (M:gZ x.σ) (A:Nat->Option AF) (k:Nat):Prop:=oN n x.V0 x.I M A k/\M.W.length<=x.C
def ea {n:Nat} (x:Fx n) (b:Nat) (A:Nat->Option AF) (k:Nat):ai:=ex fun M=>fact (zR x M A k)*SX x b M
section
variable {n:Nat} {x:Fx n} {b k:Nat} {A:Nat->Option AF} {M:gZ x.σ} {w w':G} {F:ai}
theorem ag.oE (h:ag w (SX x b M*F)):∃ S,ag w (cI x.c S b M*(ak S*(x.R S*F))):=by
 obtain ⟨S,j⟩:=ag.aw.1 h;exact ⟨S,j.to (by ac_rfl)⟩
theorem ag.tV {S S':Hp} (o:Ext S S') (h:ag w (cI x.c S' b M*(ak S'*(x.R S*F)))):ag w (SX x b M*F):=by
 have j:=(h.to (by ac_rfl:_=x.R S*(cI x.c S' b M*(ak S'*F)))).fO (x.hR S S' o);exact ag.aw.2 ⟨S',j.to (by ac_rfl)⟩
theorem ag.mg (h:ag w (ea x b A k*F)):∃ M,zR x M A k/\ag w (SX x b M*F):=by
 obtain ⟨M,j⟩:=ag.aw.1 h;obtain ⟨o,r⟩:=ag.aq.1 (j.to (ax _ _ _));exact ⟨M,o,r⟩
theorem ag.qh (j:zR x M A k) (h:ag w (SX x b M*F)):ag w (ea x b A k*F):=
 ag.aw.2 ⟨M,(ag.aq.2 ⟨j,h⟩:ag w (fact (zR x M A k)*(SX x b M*F))).to (ax _ _ _).symm⟩
theorem ag.tZ (m:Nat) (h:ag w (ea x b A k*F)):ag w (ea (x.more m) b A k*F):=by
 obtain ⟨M,j,o⟩:=ag.mg h;exact ag.qh (x:=x.more m) ⟨j.1,K2 j.2 (Nat.le_add_right _ _)⟩ o
def YI {n:Nat} (x:Fx n) (b:Nat) (A:Nat->Option AF) (k:Nat) (v c:Int) (F:ai) (w:G) (e:Ending) (w':G):Prop:=
 e = Z' (.tuple #[Z .i64 v,Z .i64 c])/\aj w w'/\ag w' (ea x b A k*F)
def YE {n:Nat} (x:Fx n) (b:Nat) (A:Nat->Option AF) (k:Nat) (c:Int) (F:ai) (w:G) (e:Ending) (w':G):Prop:=
 e = Z' (Z .i64 c)/\aj w w'/\ag w' (ea x b A k*F)
def YB {n:Nat} (x:Fx n) (b:Nat) (A:Nat->Option AF) (k:Nat) (l:List UInt8) (F:ai) (w:G) (e:Ending) (w':G):Prop:=
 ∃ v,e = Z' (.tuple #[v,Z .i64 0])/\aj w w'/\ag w' (bs 5 v l*(ea x b A k*F))
def YN {n:Nat} (x:Fx n) (b:Nat) (A:Nat->Option AF) (k:Nat) (f:AF) (F:ai) (w:G) (e:Ending) (w':G):Prop:=
 ∃ y:Nd,e = Z' (.tuple #[.agg (ints y.l),Z .i64 0])/\y.dr.length=16/\y.kd=f.kd/\y.lk=f.lk/\y.sz=f.sz/\aj w w'/\ag w' (ea x b A k*F)
def Wu {n:Nat} (x:Fx n) (b:Nat) (A:Nat->Option AF) (k:Nat) (kd:Int) (F:ai) (w:G) (e:Ending) (w':G):Prop:=
 ∃ id:Nat,e = Z' (.tuple #[Z .i64 (id:Int),Z .i64 0])/\A id=U/\0<id/\id<n/\aj w w'/\ag w' (ea x b (du A id (Y (fh kd))) (k-1)*F)
section
variable {S:Hp} {c:Int} {M':gZ x.σ} {A':Nat->Option AF} {k':Nat} {e:Ending}
theorem OF.ye {p:Rs Unit × gZ x.σ} (h:OF x.c b S (x.R S*F) w p e w') (t:p=(.ok (),M')) (j:zR x M' A' k'):YE x b A' k' 0 F w e w':=by
 subst t;obtain ⟨S',o,d,r,u⟩:=h;exact ⟨r,d,ag.qh j (ag.tV o u)⟩
theorem OF.no {p:Rs Unit × gZ x.σ} (h:OF x.c b S (x.R S*F) w p e w') (t:p=(.bad c,M')) (j:zR x M' A' k'):YE x b A' k' c F w e w':=by
 subst t;obtain ⟨S',o,d,r,u⟩:=h;exact ⟨r,d,ag.qh j (ag.tV o u)⟩
theorem VY.ye {p:Rs Nat × gZ x.σ} {v:Nat} (h:VY x.c b S (x.R S*F) w p e w') (t:p=(.ok v,M')) (j:zR x M' A' k'):YI x b A' k' v 0 F w e w':=by
 subst t;obtain ⟨S',o,d,r,u⟩:=h;exact ⟨r,d,ag.qh j (ag.tV o u)⟩
end
variable (h:ag w (ea x b A k*F))
include h
theorem VC {kd:Int} (z:kd=1\/kd=2) (hk:0<k):Calls W 71 #[fV b n,Z .i64 kd] w (Wu (x.more 3) b A k kd F w):=by
 obtain ⟨M,o,h0⟩:=ag.mg h;obtain ⟨S,u⟩:=ag.oE h0;refine (Tw x.c x.ok n x.h4 x.hn b M w S kd (x.R S*F) u).mono fun e w' r=>?_;rcases QI x.KB (by have:=x.h4;omega) x.hn o.1 z with ⟨id,M1,j,r1,T,i1,-,t⟩|⟨s',-,h0,-⟩
 .rw [j] at r
  obtain ⟨S',v,d,y,L⟩:=r;exact ⟨id,y,r1,T,i1,d,ag.qh (x:=x.more 3) ⟨t,K2 ((N7 kd).run j) (H3 o.2 3)⟩ (ag.tV (x:=x.more 3) v L)⟩
 .omega
theorem Ti:Calls W 44 #[fV b n] w (YI x b A k k 0 F w):=by
 obtain ⟨M,o,h0⟩:=ag.mg h;obtain ⟨S,t⟩:=ag.oE h0;refine (Qp x.c x.ok n x.h4 x.hn b M w S (x.R S*F) t).mono fun e w' u=>?_;obtain ⟨v,j,r⟩:=Mu x.KB (by have:=x.h4;omega) o.1;exact u.ye j ⟨r,K2 (En.run j) o.2⟩
theorem Tj {id:Nat} {f:AF} (u:A id=Y f):Calls W 38 #[fV b n,Z .i64 (id:Int)] w (YE (x.more 1) b (du A id U) (k+bh f.pr) 0 F w):=by
 obtain ⟨M,o,h0⟩:=ag.mg h;obtain ⟨S,t⟩:=ag.oE h0;refine (O5 x.c x.ok n x.h4 x.hn b M w S id (x.R S*F) t).mono fun e w' v=>?_;obtain ⟨y,j,r⟩:=La x.KB (by have:=x.h4;omega) x.hn o.1 u;exact v.ye (x:=x.more 1) j ⟨r,K2 ((I6 _).run j) (H3 o.2 1)⟩
theorem Ag {id:Nat} {f:AF} (v:A id=Y f) (j:Nat) (z:j<=122880):Calls W 60 #[fV b n,Z .i64 (id:Int),Z .i64 (j:Int)] w (YE (x.more 4) b (du A id (Y (f.cut j))) (k+bh f.pr-bh (f.cut j).pr) 0 F w):=by
 obtain ⟨M,r,h0⟩:=ag.mg h;obtain ⟨S,u⟩:=ag.oE h0;refine (Np x.c x.ok n x.h4 x.hn b M w S id j (x.R S*F) u).mono fun e w' y=>?_;obtain ⟨L,o,t⟩:=Iy x.KB (by have:=x.h4;omega) x.hn r.1 v j z;exact y.ye (x:=x.more 4) o ⟨t,K2 ((DP _ _).run o) (H3 r.2 4)⟩
theorem MZ {id:Nat} {f:AF} (hf:A id=Y f) (off j:Nat):Calls W 107 #[fV b n,Z .i64 (id:Int),Z .i64 (off:Int),Z .i64 (j:Int)] w (YB x b A k (f.sub off j) F w):=by
 obtain ⟨M,v,h0⟩:=ag.mg h;obtain ⟨S,z⟩:=ag.oE h0;refine (Kr x.c x.ok n x.h4 x.hn b M w S id off j (x.R S*F) z).mono fun e w' y=>?_;obtain ⟨r,t,o⟩:=Ee x.KB (by have:=x.h4;omega) x.hn v.1 hf off j;have o:zR x r A k:=⟨o,K2 ((zL _ _ _).run t) v.2⟩
 rw [t] at y;obtain ⟨S',u,T,d,he,hs⟩:=y;refine ⟨u,he,d,?_⟩;have L:=ag.qh o (ag.tV T (hs.to (by unfold gw;ac_rfl:_=cI x.c S' b r*(ak S'*(x.R S*(bs 5 u (f.sub off j)*F))))));exact L.ah
theorem E7 {id:Nat} {f:AF} (hf:A id=Y f):Calls W 97 #[fV b n,Z .i64 (id:Int)] w (YN x b A k f F w):=by
 obtain ⟨M,r,h0⟩:=ag.mg h;obtain ⟨S,v⟩:=ag.oE h0;refine (Qx x.c x.ok n x.h4 x.hn b M w S id (x.R S*F) v).mono fun e w' t=>?_;obtain ⟨b0,u,o,y1,y2,y3,j⟩:=M0 x.KB (by have:=x.h4;omega) x.hn r.1 hf;have j:zR x u A k:=⟨j,K2 ((FT _).run o) r.2⟩
 rw [o] at t;obtain ⟨S',c0,L,d,T,hs⟩:=t;obtain ⟨⟨rfl,y⟩,z⟩:=ag.aq.1 hs;exact ⟨b0,T,y,y1,y2,y3,d,ag.qh j (ag.tV L z)⟩
theorem GU {id:Nat} {f:AF} (y:A id=Y f) (d:Int) (h0:0<=wrap64 (f.lk+d)/\wrap64 (f.lk+d)<=65535):Calls W 37 #[fV b n,Z .i64 (id:Int),Z .i64 d] w (YE (x.more 3) b (du A id (Y { f with lk:=wrap64 (f.lk+d) })) k 0 F w):=by
 obtain ⟨M,o,t⟩:=ag.mg h;obtain ⟨S,u⟩:=ag.oE t;refine (Lo x.c x.ok n x.h4 x.hn b M w S id d (x.R S*F) u).mono fun e w' z=>?_;rcases Kl x.KB (by have:=x.h4;omega) x.hn o.1 y d with ⟨L,j,-,r⟩|⟨T,-,v,-⟩
 .exact z.ye (x:=x.more 3) j ⟨r,K2 ((FU _ _).run j) (H3 o.2 3)⟩
 .exact absurd h0 v
omit h
variable {D:ai} {va:Option Addr} {cap:Nat} {l:List UInt8}
theorem Am {id:Nat} {f:AF} (L:A id=Y f) (off:Nat) (y:∀ j P,ag j (D*P)->Rd j (J va l.length cap) l) (z:l.length<=cap) (T:l.length<=4096) (hm:off+l.length<=122880) (hk:bh (f.wr off l).pr<=k+bh f.pr) (h:ag w (ea x b A k*(D*F))) :
  Calls W 52 #[fV b n,Z .i64 (id:Int),Z .i64 (off:Int),J va l.length cap] w (YE (x.more (l.length/480+5)) b (du A id (Y (f.wr off l))) (k+bh f.pr-bh (f.wr off l).pr) 0 (D*F) w):=by
 obtain ⟨M,r,h0⟩:=ag.mg h;obtain ⟨S,v⟩:=ag.oE h0;refine (wi x.c x.ok n x.h4 x.hn b M w S id off l va cap D y z (by omega) (x.R S*F) (v.to (by ac_rfl))).mono fun e w' t=>?_;rw [aI] at t;rcases tU x.KB (by have:=x.h4;omega) x.hn r.1 L off l T hm with ⟨M1,o,-,u⟩|⟨s',-,h9,-⟩
 .exact t.ye (x:=x.more (l.length/480+5)) o ⟨u,K2 ((zT _ _ _).run o) (H3 r.2 (l.length/480+5))⟩
 .omega
theorem Mw {id:Nat} {f:AF} (L:A id=Y f) (off:Nat) (y:∀ o P,ag o (D*P)->Rd o (J va l.length cap) l) (z:l.length<=cap) (T:l.length<=4096) (hm:off+l.length<=122880) (hk:k+bh f.pr<bh (f.wr off l).pr) (h:ag w (ea x b A k*(D*F))) :
  Calls W 52 #[fV b n,Z .i64 (id:Int),Z .i64 (off:Int),J va l.length cap] w (YE x b A k 7 (D*F) w):=by
 obtain ⟨M,t,h0⟩:=ag.mg h;obtain ⟨S,v⟩:=ag.oE h0;refine (wi x.c x.ok n x.h4 x.hn b M w S id off l va cap D y z (by omega) (x.R S*F) (v.to (by ac_rfl))).mono fun e w' u=>?_;rw [aI] at u;rcases tU x.KB (by have:=x.h4;omega) x.hn t.1 L off l T hm with ⟨M1,r,h9,j⟩|⟨s',r,-,j⟩
 .omega
 .exact u.no r ⟨j,t.2⟩
end
theorem rI (w:G) (v:Value) (l:List UInt8) (h:Rd w v l):(convert 22 9 v).run W w = .ok (.string (str l)) w:=by
 have vJ:∀ (l:List UInt8) (s:ByteArray),(l.map fun x=>(x.toNat:Int)).foldl (fun r n=>r.push (UInt8.ofNat n.toNat)) s=⟨s.data++l.toArray⟩:=by
  intro l
  induction l with
  | nil=>intro s;simp
  | cons a l t=>intro s;simp only [List.map_cons,List.foldl_cons,t];simp [ByteArray.push]
 obtain ⟨_,hr⟩:=h;rcases hr with ⟨rfl,h0⟩|⟨a,c,rfl,o⟩
 .have:l=[]:=List.eq_nil_of_length_eq_zero h0
  subst this;rw [run_convert_bytes_string w _ _ 5 U 0 0 underlying22 underlying5 underlying9]
  rfl
 .rw [run_convert_bytes_string w _ _ 5 (Y a) _ c underlying22 underlying5 underlying9]
  have j:=run_loadCells_list (P:=W) (w:=w) a (l.map u8) o;rw [Y2] at j
  have:=run_bytesToString (P:=W) w a l.length c (l.map fun x=>(x.toNat:Int)) (by
   rw [j];simp [u8,Function.comp_def])
  rw [this,vJ];simp [str]
end Go.Proofs.Fs

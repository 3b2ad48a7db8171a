/- Steps. -/
import Derived.Test.YtdickhgiahcnaaaGreatDoorNP41
import Derived.Test.YtdickhgiahcnaaaGreatDoorNP33
set_option linter.all false
set_option maxRecDepth 99999
set_option maxHeartbeats 0
open Go.SL
open Go.Value renaming int->W,slice->Q,pointer->G,string->Z,tuple->H
open Go.IntKind renaming i64->N
open Go.Obj renaming cells->V
open Go.Ending renaming returned->I
open Go renaming World->K,Value->E
open Go.Proofs.Tryz renaming prog->M
open Option renaming some->Y,none->U
open Bool renaming true->Z',false->Y'
open Go.Proofs.Tryz
open List renaming length_map->A3,getElem?_eq_getElem->B2,setIfInBounds_toArray->E2,set_cons_zero->G3,length_append->H6,length_singleton->H4,take_of_length_le->H3,map_cons->H2
open Go.World renaming size_alloc->A2,block_lt_of_cell?->E5
open Nat renaming le_refl->B3
open Option renaming isSome_none->J7
namespace Go.Proofs.Fs
open RowKit SL Proofs.Ba
section
variable {n:Nat} {x:Fx n} {b k id:Nat} {A:Nat->Option AF} {f:AF} {w:K} {F:ai}
def Ii (h:ag w (dx x b A k*F)) (l:A id=Y f) (r:f.kd=1) :
  Calls M 33 #[fI b n,W N (id:Int)] w (Ug x b A k 8 F w):=by
 refine aF fun d0 y=>?_;have g:=h.alloc (cH b n);have z:=ae ((aj.refl w).alloc (cH b n));have u:=ae (y0 g.ah l r);have c0:(w.alloc (cH b n)).cell? ⟨w.heap.size,0,U⟩=Y (G (Y ⟨b,0,U⟩)):=g.cell 0;clear h g l r;unfold fI
 go_in
 go_wp2_with fail
 apply u.o.mono;generalize w.alloc (cH b n)=w1 at *;generalize w.heap.size=C at *;rintro e0 w2 ⟨rfl,d2,j⟩;have b0:=ae (y.o _ _ ⟨rfl,z.o.trans d2,(j.t00 (pt C (cH b n)*(dx x b A k*F))).right⟩);clear u j d2
 exact Zz b0.o
end
end Go.Proofs.Fs
namespace Go.SL
def nC (T:Tr) (p:List UInt8):Int:=if (bO T p).1≠0 then (bO T p).1 else match T (bO T p).2 with
 | some (.dir _)=>0
 | _=>8
end Go.SL
namespace Go.Proofs.Cl
open RowKit SL Proofs.Nn Proofs.Ba Proofs.Su Proofs.Fs
attribute [local go_sem] Oper.semAt_some
def eF (a:Nat) (v:E):ai:=pt a (V #[v] 37 (0,0))
def za (a:Nat) (l:List (List UInt8)):ai:=ex fun u=>bR u l*eF a u
def qT {w:K} {a:Nat} {l:List (List UInt8)} {F:ai}:ag w (za a l*F)↔∃ u,ag w (bR u l*(eF a u*F)):=by
 unfold za;rw [ag.aw];exact exists_congr fun u=>by rw [ay]
def vu (a:Nat) (L:List aL):ai:=ex fun g:List aL=>fact (g.Perm L/\eJ jw g)*za a (g.map aL.nm)
section
variable {n:Nat} {x:Fx n} {b v pc rc k:Nat} {T:Tr} {w:K} {F:ai} {p:List UInt8}
def Q8 (rc:Nat) (v:E) (g:List aL) (j:ai) (w0:K) (u:E) (wr:K):Prop:=
 ∃ i:Nat,i<=g.length/\u = W N (i:Int)/\aj w0 wr/\ag wr (za rc ((g.take i).map aL.nm)*(dQ v g*j))
def Pq (ht:Tidy n T) (g1:(dN (T (bO T p).2)).length<=zj) (h:ag w (vA x b v T k*(ax pc p*(eF rc (Q U 0 0)*F)))) :
  Calls M 32 #[az v,az pc,az rc] w (Rp (nC T p) (vA x b v T k*(ax pc p*(vu rc (dN (T (bO T p).2))*F))) (vA x b v T k*(ax pc p*(eF rc (Q U 0 0)*F))) w):=by
 refine aF fun n1 HQ=>?_;have h0:=h.to (by unfold vA;ac_rfl:_=dx x b (eH T) k*(pt v (bq b n)*(ax pc p*(eF rc (Q U 0 0)*F))));have k0:w.cell? ⟨v,0,U⟩=Y (az b)/\w.cell? ⟨v,1,U⟩=Y (W N (n:Int))/\w.cell? ⟨pc,0,U⟩=Y (Z (str p)):=⟨h0.ah.cell 0,h0.ah.cell 1,h0.au.cell 0⟩
 have R0:=ae g1;clear g1;have m0:=ae h;have HT:=ae ht
 have n0:Hid (∀ e,e≠0->e=nC T p->∀ (w':K),aj w w'->ag w' (vA x b v T k*(ax pc p*(eF rc (Q U 0 0)*F)))->n1 (.panicked (jB e)) w'):=fun e hc he w' d hs=>
  HQ.out _ _ ⟨d,.inr ⟨by rw [<- he];exact hc,by rw [he],hs⟩⟩
 clear h h0
 cases hs:bh p with
 | none=>
  have hk:=ae (fg (w:=w.drew) hs);have hc:(1:Int)=nC T p:=by unfold nC;rw [qO hs];rfl
  clear ht hs
  go_enter func32,ntmps32
  go_wp2_with fail
  refine wp_region_held_drew (S:=fun w'=>w'.cell? ⟨v,0,U⟩=Y (az b)/\w'.cell? ⟨v,1,U⟩=Y (W N (n:Int))/\w'.cell? ⟨pc,0,U⟩=Y (Z (str p))) (by kernel_rfl) k0 (fun j0=>?_);refine tk 0 ?_;refine tk 1 ?_;refine tk 2 ?_;refine tk 3 ?_;refine tk 4 ?_;refine tk 5 ?_;refine tr 6 fun H0 hK=>?_
  go_simp
  go_wp2_with (go_at_call 31;refine hk.out.mono ?_;rintro e j ⟨rfl,d4,h4⟩;exact ⟨rfl,n0.out 1 (by decide) hc _ ((aj.refl w).drew.trans d4) (h4.cM m0.out.drew)⟩)
 | some ps=>
  obtain ⟨v1,hl⟩:=dO hs;have u0:=gy (T:=T) hs;have N0:(dN (T (aO T 1 ps).2)).length<=zj:=by have:=R0.out;rw [u0] at this;exact this
  have L0:=ae N0;clear N0 R0;have hk:=ae (dJ (w:=w.drew) hs);have hy:=fun h0=>ht.walk ps ht.root.choose_spec h0;have hw:=ae fun (u:E) (w':K) (h':ag w' (vA x b v T k*(bR u ps*(ax pc p*(eF rc (Q U 0 0)*F)))))=>gw HT.out hl eY h';have g0:=ae (show nC T p=if (aO T 1 ps).1≠0 then (aO T 1 ps).1 else match T (aO T 1 ps).2 with|some (.dir _)=>0|_=>8 by unfold nC;rw [u0]);rw [u0] at HQ;have HY:=ae hy;clear ht hs hl v1 u0 hy;generalize aO T 1 ps=pw at *;obtain ⟨wc,id⟩:=pw;dsimp only at hw HY g0 HQ L0
  by_cases hc:wc=0
  .subst hc
   obtain ⟨y1,hy⟩:=HY.out rfl
   cases y1 with
   | file f=>
    have e0:(8:Int)=nC T p:=by rw [g0.out,if_neg (by decide),hy]
    have o0:=ae fun (u:E) (w':K) (h':ag w' (dx x b (eH T) k*(pt v (bq b n)*(ax pc p*(bR u ps*(eF rc (Q U 0 0)*F))))))=>Ii h' (gL hy) (HT.out.files _ _ hy);have s0:=ae fun w=>cC w 8 (by decide);have m1:=ae e0;clear hy HY g0 HQ e0
    go_enter func32,ntmps32
    go_wp2_with fail
    go_region_held3 (fun w'=>w'.cell? ⟨v,0,U⟩=Y (az b)/\w'.cell? ⟨v,1,U⟩=Y (W N (n:Int))/\w'.cell? ⟨pc,0,U⟩=Y (Z (str p)))
     (first|exact k0|exact k1|exact k2|exact k3|go_keep)
     (first
     | (go_at_call 31;refine hk.out.mono ?_;rintro e j ⟨u,rfl,d4,h4⟩;have h5:=(h4.under m0.out.drew).to (by ac_rfl:_=vA x b v T k*(bR u ps*(ax pc p*(eF rc (Q U 0 0)*F))));have r:=h5.to (by unfold vA;ac_rfl:_=pt v (bq b n)*(ax pc p*(dx x b (eH T) k*(bR u ps*(eF rc (Q U 0 0)*F)))));have k1:j.cell? ⟨v,0,U⟩=Y (az b)/\j.cell? ⟨v,1,U⟩=Y (W N (n:Int))/\j.cell? ⟨pc,0,U⟩=Y (Z (str p)):=⟨r.cell 0,r.cell 1,r.ah.cell 0⟩;have f0:=ae (hw.out u j h5))
     | (go_at_call 30;refine f0.out.mono ?_;rintro e w5 ⟨he,d5,h7⟩;obtain rfl:=he.elim (fun h=>h.2) (fun h=>absurd rfl h.1);have C:=h7.to (by unfold vA;ac_rfl:_=dx x b (eH T) k*(pt v (bq b n)*(ax pc p*(bR u ps*(eF rc (Q U 0 0)*F)))));have k2:w5.cell? ⟨v,0,U⟩=Y (az b)/\w5.cell? ⟨v,1,U⟩=Y (W N (n:Int))/\w5.cell? ⟨pc,0,U⟩=Y (Z (str p)):=⟨C.ah.cell 0,C.ah.cell 1,C.au.cell 0⟩;have p0:=ae (o0.out u w5 C))
     | (go_at_call 33;refine p0.out.mono ?_;rintro e w6 ⟨rfl,d6,y⟩;have k3:w6.cell? ⟨v,0,U⟩=Y (az b)/\w6.cell? ⟨v,1,U⟩=Y (W N (n:Int))/\w6.cell? ⟨pc,0,U⟩=Y (Z (str p)):=⟨y.ah.cell 0,y.ah.cell 1,y.au.cell 0⟩))
    rename_i j0;have r1:=ae (n0.out 8 (by decide) m1.out _ ((((aj.refl w).drew.trans d4).trans d5).trans d6) (y.to (by unfold vA;ac_rfl:_=bR u ps*(vA x b v T k*(ax pc p*(eF rc (Q U 0 0)*F))))).right);clear j0 k0 k1 k2 k3 h4 h5 r h7 C y d4 d5 d6 f0 p0 o0 hw hk n0 he
    go_wp2_with fail
    refine (s0.out _).mono ?_;rintro e w7 ⟨rfl,rfl⟩;exact ⟨rfl,r1.out⟩
   | dir L=>
    have e0:nC T p=0:=by rw [g0.out,if_neg (by decide),hy]
    have hE:=HT.out.mz _ _ hy;have w1:L.length<=zj:=by have:=L0.out;rw [hy] at this;exact this
    have o0:=ae fun (u:E) (w':K) (h':ag w' (dx x b (eH T) k*(pt v (bq b n)*(ax pc p*(bR u ps*(eF rc (Q U 0 0)*F))))))=>JH h' (jG hy) hE.ok w1 hE.nd;have s0:=ae cR;have HL:=ae hE.len;rw [e0,hy] at HQ;clear hy HY g0 n0 hE e0
    go_enter func32,ntmps32
    go_wp2_with fail
    go_region_held3 (fun w'=>w'.cell? ⟨v,0,U⟩=Y (az b)/\w'.cell? ⟨v,1,U⟩=Y (W N (n:Int))/\w'.cell? ⟨pc,0,U⟩=Y (Z (str p)))
     (first|exact k0|exact k1|exact k2|exact k3|go_keep)
     (first
     | (go_at_call 31;refine hk.out.mono ?_;rintro e j ⟨u,rfl,d4,h4⟩;have h5:=(h4.under m0.out.drew).to (by ac_rfl:_=vA x b v T k*(bR u ps*(ax pc p*(eF rc (Q U 0 0)*F))));have r:=h5.to (by unfold vA;ac_rfl:_=pt v (bq b n)*(ax pc p*(dx x b (eH T) k*(bR u ps*(eF rc (Q U 0 0)*F)))));have k1:j.cell? ⟨v,0,U⟩=Y (az b)/\j.cell? ⟨v,1,U⟩=Y (W N (n:Int))/\j.cell? ⟨pc,0,U⟩=Y (Z (str p)):=⟨r.cell 0,r.cell 1,r.ah.cell 0⟩;have f0:=ae (hw.out u j h5))
     | (go_at_call 30;refine f0.out.mono ?_;rintro e w5 ⟨he,d5,h7⟩;obtain rfl:=he.elim (fun h=>h.2) (fun h=>absurd rfl h.1);have C:=h7.to (by unfold vA;ac_rfl:_=dx x b (eH T) k*(pt v (bq b n)*(ax pc p*(bR u ps*(eF rc (Q U 0 0)*F)))));have k2:w5.cell? ⟨v,0,U⟩=Y (az b)/\w5.cell? ⟨v,1,U⟩=Y (W N (n:Int))/\w5.cell? ⟨pc,0,U⟩=Y (Z (str p)):=⟨C.ah.cell 0,C.ah.cell 1,C.au.cell 0⟩;have p0:=ae (o0.out u w5 C))
     | (go_at_call 33;refine p0.out.mono ?_;rintro e w6 ⟨u2,g,rfl,pW,sW,d6,y⟩;have k3:w6.cell? ⟨v,0,U⟩=Y (az b)/\w6.cell? ⟨v,1,U⟩=Y (W N (n:Int))/\w6.cell? ⟨pc,0,U⟩=Y (Z (str p)):=⟨y.au.cell 0,y.au.cell 1,y.aA.cell 0⟩;obtain ⟨ua,z,rfl⟩:=aC y))
    rename_i j0;have D6:=ae ((((aj.refl w).drew.trans d4).trans d5).trans d6);have H9:=ae (y.to (by unfold vA;ac_rfl:_=dQ (Q ua g.length z) g*(eF rc (Q U 0 0)*(vA x b v T k*(ax pc p*(bR u ps*F))))));have q1:g.length<=3840:=by rw [pW.length_eq];exact HL.out
    have PW:=ae pW;have SW:=ae sW;clear j0 k0 k1 k2 k3 h4 h5 r h7 C y d4 d5 d6 f0 p0 o0 hw hk he m0 HL pW sW
    go_wp2_with fail
    refine (s0.out _).mono ?_;rintro e w7 ⟨rfl,rfl⟩;clear s0
    go_wp2_with fail
    have hZ:=H9.out.to (by ac_rfl:_=eF rc (Q U 0 0)*(dQ (Q ua g.length z) g*(vA x b v T k*(ax pc p*(bR u ps*F)))));obtain ⟨b0,hz⟩:∃ b0,vA x b v T k*(ax pc p*(bR u ps*F))=b0:=⟨_,rfl⟩
    rw [hz] at hZ;have h0:Q8 rc (Q ua g.length z) g b0 w (W N 0) w6:=⟨0,Nat.zero_le _,rfl,D6.out,qT.2 ⟨Q U 0 0,hZ.eU 9 1⟩⟩
    have G0:=ae h0;have HZ:=ae hz.symm;obtain ⟨d0,hN⟩:∃ d0,g.length=d0:=⟨_,rfl⟩
    have HN:=ae hN;have A1:(d0:Int)<=3840:=by omega
    clear hZ h0 hz q1 H9 D6;rw [hN];clear hN
    go_loopw [24] (fun u wr=>Q8 rc (Q ua g.length z) g b0 w u wr) (fun u _=>d0-(intOf u).toNat)
    case atStart=>exact G0.out
    case round=>
     obtain ⟨i,hi,rfl,D0,l0⟩:=hrel;rw [HN.out] at hi
     by_cases B1:i<d0
     .have D1:(i:Int)<(d0:Int):=by omega
      have K0:i<g.length:=by have:=HN.out;omega
      obtain ⟨v',h1⟩:=qT.1 l0;obtain ⟨pa,F0,rfl⟩:=aC h1;have h2:ag wr (sl 81 2 (Q ua g.length z) g.length (bG g)*(za rc ((g.take i).map aL.nm)*b0)):=l0.to (by unfold dQ;ac_rfl);obtain ⟨r0,c,e,e1,e2,l1,l2⟩:=oD h2 K0;simp only [Value.slice.injEq] at e;obtain ⟨rfl,-,rfl⟩:=e;have j1:(g.take (i+1)).map aL.nm=(g.take i).map aL.nm++[(g[i]).nm]:=by rw [List.take_add_one,List.map_append,B2 K0];rfl
      have t1:((g.take i).map aL.nm).length=i:=by rw [A3,List.length_take];omega
      generalize g[i]=x at *;have K1:(d0:Int)<=(z:Int):=by have:=HN.out;omega
      have hA:=(h1.alloc (V #[W N (x.nd:Int),Z (str x.nm)] 81 (0,0))).alloc (V #[Z (str x.nm)] 9 (0,0));simp only [A2] at hA;generalize hl:(g.take i).map aL.nm=l at *;have c0:wr.cell? ⟨rc,0,U⟩=Y (Q pa l.length F0):=h1.ah.cell 0;have E1:rc<wr.heap.size:=E5 wr _ c0;have H1:r0<wr.heap.size:=E5 wr _ e1
      have hR:pC ((wr.alloc (V #[W N (x.nd:Int),Z (str x.nm)] 81 (0,0))).alloc (V #[Z (str x.nm)] 9 (0,0))) 1 (Q (Y ⟨wr.heap.size+1,0,U⟩) 1 1) 1 [Z (str x.nm)]:=
       ⟨rfl,.inr ⟨_,_,rfl,fun x1 u hu=>by
        rw [Addr.add_lit,Nat.zero_add];exact (hA.cell x1).trans (by simpa using hu)⟩⟩
      obtain ⟨i0,Y0,hz,f1,X0⟩:=info_parts rD;have W0:=hA.to (by unfold bR;ac_rfl:_=sl 9 1 (Q pa l.length F0) l.length (strs l)*(eF rc (Q pa l.length F0)*(dQ (Q (Y ⟨r0,0,U⟩) g.length z) g*(pt (wr.heap.size+1) (V #[Z (str x.nm)] 9 (0,0))*(pt wr.heap.size (V #[W N (x.nd:Int),Z (str x.nm)] 81 (0,0))*b0)))));obtain ⟨v2,w',d1,q0,i1⟩:=ag.append (P:=M) (ty:=37) underlying37 Y0 hz f1 X0 rfl W0 hR (by intro u hu;rw [List.mem_singleton.1 hu];rfl) (by unfold maxLen;omega) (by omega);obtain ⟨aa,ac,rfl⟩:=aC q0;have o1:w'.cell? ⟨rc,0,U⟩=Y (Q pa l.length F0):=q0.ah.cell 0;have z1:w'.frozen? ⟨rc,0,U⟩=Y':=q0.ah.frozen 0;have x0:=q0.ah.setCell 0 (Q aa (l.length+1) ac);simp only [E2,G3] at x0;have e:strs l++[Z (str x.nm)]=strs (l++[x.nm]):=by unfold strs;rw [List.map_append];rfl
      rw [e] at x0
      have c1:ag (w'.setCell ⟨rc,0,U⟩ (Q aa (l.length+1) ac)) (za rc ((g.take (i+1)).map aL.nm)*(dQ (Q (Y ⟨r0,0,U⟩) g.length z) g*b0)):=by
       rw [j1];refine qT.2 ⟨Q aa (l.length+1) ac,?_⟩;unfold bR;rw [H6,H4];exact (x0.to (by unfold eF;ac_rfl:_=(pt (wr.heap.size+1) (V #[Z (str x.nm)] 9 (0,0))*pt wr.heap.size (V #[W N (x.nd:Int),Z (str x.nm)] 81 (0,0)))*(sl 9 1 (Q aa (l.length+1) ac) (l.length+1) (strs (l++[x.nm]))*(eF rc (Q aa (l.length+1) ac)*(dQ (Q (Y ⟨r0,0,U⟩) g.length z) g*b0))))).right
      have S0:=ae c1;have V0:=ae ((((D0.alloc (V #[W N (x.nd:Int),Z (str x.nm)] 81 (0,0))).alloc (V #[Z (str x.nm)] 9 (0,0))).trans i1).setCell ⟨rc,0,U⟩ (Q aa (l.length+1) ac));have T0:=ae d1;have Hi:=ae hi;clear l0 h1 h2 hA hR Y0 hz f1 X0 W0 d1 q0 i1 x0 c1 e j1 hl D0 G0 hi K0 l1 t1;obtain ⟨ll,Z0⟩:∃ ll,l.length=ll:=⟨_,rfl⟩
      rw [Z0] at T0 S0 V0 c0 o1;clear Z0;have L1:(z:Int)<=9223372036854775807:=by omega
      clear l2
      go_wp2_with (at_builtin;refine wpList_append_run T0.out _ _ rfl rfl rfl rfl rfl ?_)
      refine ⟨⟨i+1,by have:=HN.out;omega,by go_num,V0.out,S0.out⟩,by simp [intOf];omega⟩
     .obtain rfl:i=d0:=by omega
      have h1:ag wr (za rc (g.map aL.nm)*(dQ (Q ua g.length z) g*b0)):=by rw [H3 (by rw [HN.out];exact B3 _)] at l0;exact l0
      rw [HZ.out] at h1
      have h2:ag wr (vu rc L*(vA x b v T k*(ax pc p*F))):=by
       unfold vu;rw [ag.aw];refine ⟨g,?_⟩;rw [ay];exact ag.aq.2 ⟨⟨PW.out,SW.out⟩,(h1.to (by ac_rfl:_=(dQ (Q ua g.length z) g*bR u ps)*(za rc (g.map aL.nm)*(vA x b v T k*(ax pc p*F))))).right⟩
      have s1:=ae (HQ.out (I (H #[])) wr ⟨D0,.inl ⟨rfl,rfl,h2.to (by ac_rfl)⟩⟩);clear h1 h2 HQ l0 D0 G0
      go_wp2_with fail
      go_end0
      exact s1.out
  .have e0:wc=nC T p:=by rw [g0.out,if_pos hc]
   go_enter func32,ntmps32
   go_wp2_with fail
   refine wp_region_held_drew (S:=fun w'=>w'.cell? ⟨v,0,U⟩=Y (az b)/\w'.cell? ⟨v,1,U⟩=Y (W N (n:Int))/\w'.cell? ⟨pc,0,U⟩=Y (Z (str p))) (by kernel_rfl) k0 (fun j0=>?_);refine tk 0 ?_;refine tk 1 ?_;refine tk 2 ?_;refine tk 3 ?_;refine tk 4 ?_;refine tk 5 ?_;refine tr 6 fun H0 hK=>?_
   go_simp
   go_wp2_with (go_at_call 31;refine hk.out.mono ?_;rintro e j ⟨u,rfl,d4,h4⟩)
   have h5:=(h4.under m0.out.drew).to (by ac_rfl:_=vA x b v T k*(bR u ps*(ax pc p*(eF rc (Q U 0 0)*F))));have r:=h5.to (by unfold vA;ac_rfl:_=pt v (bq b n)*(ax pc p*(dx x b (eH T) k*(bR u ps*(eF rc (Q U 0 0)*F)))));have k1:j.cell? ⟨v,0,U⟩=Y (az b)/\j.cell? ⟨v,1,U⟩=Y (W N (n:Int))/\j.cell? ⟨pc,0,U⟩=Y (Z (str p)):=⟨r.cell 0,r.cell 1,r.ah.cell 0⟩
   have f0:=ae (hw.out u j h5);refine hK.out _ _ k1 (fun j0=>?_);clear hK H0;refine tr 7 fun H0 hK=>?_
   go_simp
   go_wp2_with (go_at_call 30;refine f0.out.mono ?_;rintro e w5 ⟨he,d5,h7⟩;obtain rfl:=he.elim (fun h=>absurd h.1 hc) (fun h=>h.2);exact ⟨rfl,n0.out wc hc e0 _ (((aj.refl w).drew.trans d4).trans d5) (h7.to (by ac_rfl:_=bR u ps*(vA x b v T k*(ax pc p*(eF rc (Q U 0 0)*F))))).right⟩)
end
section
variable {t:Pl} {q:Dk t.n} {s s':Ds} {T:Tr} {k m:Nat} {O:jj} {w:K} {F:ai} {p:List UInt8}
def WL (t:Pl) (m:Nat) (s:Ds) (O:jj) (c:Int) (L:List aL) (F:ai) (w:K) (e:Ending) (w':K):Prop:=
 ∃ s',aj w w'/\s.Rd s'/\((c≠0/\e = I (H #[Q U 0 0,W N c])/\ag w' (cX t s' m O*F)) \/
  (c=0/\∃ u g,g.Perm L/\eJ jw g/\e = I (H #[u,W N 0])/\ag w' (bR u (g.map aL.nm)*(cX t s' m O*F))))
def CP (hf:kM t q s T k) (hB:s.B<=1000000) (d0:(dN (T (bO T p).2)).length<=zj) (h:ag w (cX t s m O*F)) :
  Calls M 8 #[az t.f,Z (str p)] w (WL t m s O (nC T p) (dN (T (bO T p).2)) F w):=by
 refine aF fun e0 l=>?_;have z:=((h.alloc (V #[Z (str p)] 9 (0,0))).alloc (V #[Q U 0 0] 37 (0,0)))
 simp only [A2] at z;have dA:=ae (((aj.refl w).alloc (V #[Z (str p)] 9 (0,0))).alloc (V #[Q U 0 0] 37 (0,0)))
 have hd:=ae fun (pc rc:Nat) (w':K) (h':ag w' (cX t s m O*((ax pc p*eF rc (Q U 0 0))*F)))=>
  pd hf hB 32 #[az pc,az rc] (ax pc p*eF rc (Q U 0 0)) (nC T p) (ax pc p*vu rc (dN (T (bO T p).2))) (ax pc p*eF rc (Q U 0 0)) (enters func32 Kr0 rfl)
   (fun x v b w1 c0 hw=>(Pq (x:=x) (b:=b) (v:=v) (k:=k) (pc:=pc) (rc:=rc) (F:=dy t m O*c0) (p:=p) hf.ty d0 (hw.u00)).mono fun e w' hq=>by simpa only [ay] using hq) h'
 have HA:=ae z;unfold WL at l;clear h z hB hf;generalize nC T p=cc at *;generalize dN (T (bO T p).2)=L at *
 go_in
 go_wp2_with fail
 generalize (w.alloc (V #[Z (str p)] 9 (0,0))).alloc (V #[Q U 0 0] 37 (0,0))=w1 at *;generalize w.heap.size=pc at *;refine (hd.o pc (pc+1) _ (HA.o.to (by unfold ax eF;ac_rfl))).mono ?_;rintro e w2 ⟨s',rfl,d2,y,j⟩;have r:=ae (dA.o.trans d2);clear hd dA HA d2
 by_cases C:cc=0
 .subst C
  rw [if_pos rfl] at j;have h3:=j.to (by unfold vu;ac_rfl:_=(ex fun g:List aL=>fact (g.Perm L/\eJ jw g)*za (pc+1) (g.map aL.nm))*(cX t s' m O*(ax pc p*F)));obtain ⟨g,h4⟩:=ag.aw.1 h3;rw [ay] at h4;obtain ⟨⟨pW,sW⟩,h5⟩:=ag.aq.1 h4;obtain ⟨f0,u⟩:=qT.1 h5;obtain ⟨ua,uc,rfl⟩:=aC u;have t0:w2.cell? ⟨pc+1,0,U⟩=Y (Q ua (g.map aL.nm).length uc):=u.ah.cell 0;have b0:=ae (l.o _ _ ⟨s',r.o,y,.inr ⟨rfl,_,g,pW,sW,rfl,(u.t00 ((eF (pc+1) (Q ua (g.map aL.nm).length uc)*ax pc p)*(bR (Q ua (g.map aL.nm).length uc) (g.map aL.nm)*(cX t s' m O*F)))).right⟩⟩);clear j h3 h4 h5 u l y r pW sW;generalize (g.map aL.nm).length=ln at *
  exact Zz b0.o
 .rw [if_neg C] at j
  have b0:=ae (l.o _ _ ⟨s',r.o,y,.inl ⟨C,rfl,(j.t00 ((ax pc p*eF (pc+1) (Q U 0 0))*(cX t s' m O*F))).right⟩⟩);clear j l y r
  exact Zz b0.o
end
end Go.Proofs.Cl
namespace Go.SL
open RowKit
def yz (T:Tr) (d id:Nat) (nm:List UInt8) (f:AF) (L:List aL):Tr:=Go.SL.df (ei T d (L++[⟨id,nm⟩])) id (Y (.file { f with lk:=f.lk+1 }))
def Tidy.I0 {n id:Nat} {T:Tr} {f:AF} (h:Tidy n T) (g:T id=Y (.file f)):0<=f.lk:=by
 have:=h.ref id;rw [g] at this;simp only [C7] at this;omega
def Tidy.OS {n id:Nat} {T:Tr} {f:AF} (h:Tidy n T) (g:T id=Y (.file f)):id≠1:=by
 rintro rfl;obtain ⟨L,j⟩:=h.root;rw [j] at g;cases g
def Tidy.link {n d id:Nat} {T:Tr} {L:List aL} {nm:List UInt8} {f:AF} (h:Tidy n T) (g:T id=Y (.file f)) (j:T d=Y (.dir L)) (c0:0<id) (e0:n<=3840) (y:cK nm=Z') (C:iE L nm=U) (u:L.length<3840):Tidy n (yz T d id nm f L):=by
 have z:id≠d:=by rintro rfl;rw [g] at j;cases j
 have d0:=h.lt g;have l:=h.w.add j ((h.mz _ _ j).snoc (id:=id) Om0 Om0 y C u);have hy:ei T d (L++[⟨id,nm⟩]) id=Y (.file f):=by unfold ei;rw [aI _ _ z];exact g
 have r:=l.leaf (y':=Y (.file { f with lk:=f.lk+1 })) hy rfl rfl (h.OS g) (fun L e=>by cases e) (fun b0 e=>by cases e;exact (h.files _ _ g:f.kd=1));refine r.tidy fun x=>?_
 by_cases e:x=id
 .subst e;simp [C7];omega
 .simp [e]
def jE (T:Tr) (k:Nat) (p1 p2:List UInt8):Int:=match bh p1,bh p2 with
 | some ps,Y qs=>if (aO T 1 ps).1≠0 then (aO T 1 ps).1 else match T (aO T 1 ps).2 with
  | some (.file f)=>if ee T qs≠0 then ee T qs else if 60000<=f.lk then 9 else iQ k (dN (T (aT T qs))) (bD qs)
  | _=>8
 | _,_=>1
def yO (T:Tr) (k:Nat) (p1 p2:List UInt8) (c:Int) (T':Tr) (k':Nat):Prop:=
 c=jE T k p1 p2/\(c=0->∃ ps qs id f L,bh p1=Y ps/\bh p2=Y qs/\aO T 1 ps=(0,id)/\T id=Y (.file f)/\T (aT T qs)=Y (.dir L)/\iE L (bD qs)=U /\
  T'=yz T (aT T qs) id (bD qs) f L/\k'=k+aY L.length-aY (L.length+1))
end Go.SL
namespace Go.Proofs.Cl
open RowKit SL Proofs.Nn Proofs.Ba Proofs.Su Proofs.Fs
attribute [local go_sem] Oper.semAt_some
section
variable {n:Nat} {x:Fx n} {b v pc qc k:Nat} {T:Tr} {w:K} {F:ai} {p1 p2:List UInt8}
def ML (hn:n<=3840) (ht:Tidy n T) (B1:∀ id u0,T id=Y u0->0<id) (h:ag w (vA x b v T k*(ax pc p1*(ax qc p2*F)))) :
  Calls M 46 #[az v,az pc,az qc] w (Rw x b v (yO T k p1 p2) (ax pc p1*(ax qc p2*F)) w):=by
 refine aF fun X1 HQ=>?_;have k0:w.cell? ⟨pc,0,U⟩=Y (Z (str p1))/\w.cell? ⟨qc,0,U⟩=Y (Z (str p2)):=⟨h.ah.cell 0,h.au.cell 0⟩
 have j0:=ae h;have r:=ae ht
 have d0:Hid (∀ c,c≠0->c=jE T k p1 p2->∀ (w':K),aj w w'->ag w' (vA x b v T k*(ax pc p1*(ax qc p2*F)))->X1 (.panicked (jB c)) w'):=fun c g he w' d j=>
  HQ.out _ _ ⟨c,T,k,0,⟨he,fun h=>absurd h g⟩,fun h=>absurd h g,.inr ⟨g,rfl⟩,d,by decide,mx (ag.mY (x:=x) 0 (j.to (by unfold vA;ac_rfl:_=dx x b (eH T) k*(pt v (bq b n)*(ax pc p1*(ax qc p2*F)))))|>.to (by ac_rfl))⟩
 clear h ht
 cases j:bh p1 with
 | none=>
  have hk:=ae (fg (w:=w.drew) j);have g:(1:Int)=jE T k p1 p2:=by unfold jE;rw [j]
  have HC:=ae g;clear j HQ g
  go_enter func46,ntmps46
  go_wp2_with fail
  refine wp_region_held_drew (S:=fun w'=>w'.cell? ⟨pc,0,U⟩=Y (Z (str p1))/\w'.cell? ⟨qc,0,U⟩=Y (Z (str p2))) (by kernel_rfl) k0 (fun o0=>?_);refine tk 0 ?_;refine tk 2 ?_;refine tr 1 fun K0 hK=>?_
  go_simp
  go_wp2_with (go_at_call 31;refine hk.out.mono ?_;rintro e w4 ⟨rfl,d4,h4⟩;exact ⟨rfl,d0.out 1 (by decide) HC.out _ ((aj.refl w).drew.trans d4) (h4.cM j0.out.drew)⟩)
 | some ps=>
  cases b0:bh p2 with
  | none=>
   have hk:=ae (dJ (w:=w.drew) j);have p0:=ae fun w'=>fg (w:=w') b0;have g:(1:Int)=jE T k p1 p2:=by unfold jE;rw [j,b0]
   have HC:=ae g;clear j b0 HQ g
   go_enter func46,ntmps46
   go_wp2_with fail
   refine wp_region_held_drew (S:=fun w'=>w'.cell? ⟨pc,0,U⟩=Y (Z (str p1))/\w'.cell? ⟨qc,0,U⟩=Y (Z (str p2))) (by kernel_rfl) k0 (fun o0=>?_);refine tk 0 ?_;refine tk 2 ?_;refine tr 1 fun K0 hK=>?_
   go_simp
   go_wp2_with (go_at_call 31;refine hk.out.mono ?_;rintro e w4 ⟨u,rfl,d4,h4⟩)
   have h5:=h4.under j0.out.drew;have k1:w4.cell? ⟨pc,0,U⟩=Y (Z (str p1))/\w4.cell? ⟨qc,0,U⟩=Y (Z (str p2)):=⟨h5.au.cell 0,h5.aA.cell 0⟩
   refine hK.out _ _ k1 (fun o0=>?_);clear hK K0;refine tr 3 fun K0 hK=>?_
   go_simp
   go_wp2_with (go_at_call 31;refine (p0.out _).mono ?_;rintro e w5 ⟨rfl,d5,h6⟩;exact ⟨rfl,d0.out 1 (by decide) HC.out _ (((aj.refl w).drew.trans d4).trans d5) (h6.cM h5).right⟩)
  | some qs=>
   obtain ⟨a2,hl⟩:=dO j;obtain ⟨z1,q1⟩:=dO b0;have hk:=ae (dJ (w:=w.drew) j);have p0:=ae fun w'=>dJ (w:=w') b0
   have f0:=ae (show jE T k p1 p2=if (aO T 1 ps).1≠0 then (aO T 1 ps).1 else match T (aO T 1 ps).2 with
    | some (.file f)=>if ee T qs≠0 then ee T qs else if 60000<=f.lk then 9 else iQ k (dN (T (aT T qs))) (bD qs)
    | _=>8 by unfold jE;rw [j,b0])
   have hy:=fun h0=>r.out.walk ps r.out.root.choose_spec h0;have HY:=ae hy;have HL:=ae hl;have S1:=ae q1;have U1:=ae z1;have V1:=ae B1
   have F0:=ae fun (id:Nat) (f:AF) (L:List aL) (e1:aO T 1 ps=(0,id)) (e2:T id=Y (.file f)) (e3:T (aT T qs)=Y (.dir L)) (e4:iE L (bD qs)=U) (e5:jE T k p1 p2=0) (e6:Tidy n (yz T (aT T qs) id (bD qs) f L)) (w':K) (d:aj w w') (b2:ag w' (vA (x.more 8) b v (yz T (aT T qs) id (bD qs) f L) (k+aY L.length-aY (L.length+1))*(ax pc p1*(ax qc p2*F))))=>
    HQ.out (I (H #[])) w' ⟨0,_,_,8,⟨e5.symm,fun _=>⟨ps,qs,id,f,L,j,b0,e1,e2,e3,e4,rfl,rfl⟩⟩,fun _=>e6,.inl ⟨rfl,rfl⟩,d,by decide,b2⟩
   clear j b0 HQ a2 hl z1 q1 hy B1
   go_enter func46,ntmps46
   go_wp2_with fail
   go_region_held3 (fun w'=>w'.cell? ⟨pc,0,U⟩=Y (Z (str p1))/\w'.cell? ⟨qc,0,U⟩=Y (Z (str p2)))
    (first|exact k0|exact k1|exact k2|go_keep)
    (first
     | (go_at_call 31;(with_reducible refine (p0.out _).mono ?_);rintro e w5 ⟨u2,rfl,d5,h6⟩;have y:=h6.under h5;have k2:w5.cell? ⟨pc,0,U⟩=Y (Z (str p1))/\w5.cell? ⟨qc,0,U⟩=Y (Z (str p2)):=⟨y.aA.cell 0,y.aJ.cell 0⟩)
     | (go_at_call 31;(with_reducible refine hk.out.mono ?_);rintro e w4 ⟨u,rfl,d4,h4⟩;have h5:=h4.under j0.out.drew;have k1:w4.cell? ⟨pc,0,U⟩=Y (Z (str p1))/\w4.cell? ⟨qc,0,U⟩=Y (Z (str p2)):=⟨h5.au.cell 0,h5.aA.cell 0⟩))
   rename_i o0;have h8:=y.to (by ac_rfl:_=vA x b v T k*(bR u ps*(bR u2 qs*(ax pc p1*(ax qc p2*F)))));have hw:=ae (gw r.out HL.out eY h8);have D5:=ae (((aj.refl w).drew.trans d4).trans d5);clear o0 k0 k1 k2 h4 h5 h6 y h8 d4 d5 hk p0 j0 HL;obtain ⟨pw,D1⟩:∃ pw,aO T 1 ps=pw:=⟨_,rfl⟩
   rw [D1] at hw HY f0 F0;clear D1;obtain ⟨wc,id⟩:=pw;dsimp only at hw HY f0
   go_wp2_with fail
   refine hw.out.mono ?_;rintro e w6 ⟨he,d6,h6⟩;clear hw;have D6:=ae (D5.out.trans d6);clear D5 d6;rcases he with ⟨rfl,rfl⟩|⟨g,rfl⟩
   .obtain ⟨u0,hy⟩:=HY.out rfl
    have j1:=ae (oN hy h6);clear h6
    go_wp2_with fail
    refine j1.out.mono ?_;rintro e w7 hq;rcases hq with ⟨i0,z,rfl,L1,i2,O1,j2,d7,y⟩|⟨i0,rfl,d7,y⟩
    .cases u0 with
     | dir L=>exact absurd i0 (by show ¬ (2:Int)=1;decide)
     | file f=>
      have e0:jE T k p1 p2=if ee T qs≠0 then ee T qs else if 60000<=f.lk then 9 else iQ k (dN (T (aT T qs))) (bD qs):=by rw [f0.out,if_neg (by decide),hy]
      have x0:=ae e0;obtain ⟨hX,A1,o1⟩:=lZ L1;have hB:=y.alloc (V ny 66 (0,0));have Hz:=ae hB.heap;have hE:=hB.setRow (cs':=ints z.l);have n1:((w7.alloc (V ny 66 (0,0))).setRow w7.heap.size (ints z.l)).cell? ⟨w7.heap.size,1,U⟩=Y (W N f.lk):=by rw [show f.lk=z.lk from O1.symm];exact hE.cell 1
      have HE:=ae (hE.to (by ac_rfl:_=vA x b v T k*(bR u2 qs*(pt w7.heap.size (V (ints z.l) 66 (0,0))*(bR u ps*(ax pc p1*(ax qc p2*F)))))));have D7:=ae (((D6.out.trans d7).alloc (V ny 66 (0,0))).setRow w7.heap.size (ints z.l));have d1:=ae A1;have c1:=ae o1;have HX:=ae hX;have N1:=ae n1;have l2:=ae i0;have c0:=ae hy;clear j1 hB hE hX A1 o1 n1 d7 y L1 i2 O1 j2 hy HY f0 e0 i0 D6;unfold ny at *
      go_upto_region 3 with (refine wpList_store_row (by exact rfl) 66 (.tmp 7) (.tmp 18) (by exact rfl) w7.heap.size (ints z.l) (by exact rfl) (by exact rfl) 66 _ (by with_reducible exact Hz.out) c1.out (by rw [HX.out];rfl) d1.out ?_)
      generalize c2:(w7.alloc (V #[W N 0,W N 0,W N 0,W N 0,W N 0,W N 0,W N 0,W N 0,W N 0,W N 0,W N 0,W N 0,W N 0,W N 0,W N 0,W N 0,W N 0,W N 0,W N 0,W N 0] 66 (0,0))).setRow w7.heap.size (ints z.l)=w8 at *;generalize w7.heap.size=nb at *;have l1:=ae (qh r.out S1.out (fun m2 P hW=>eQ hW) eY HE.out);clear c2 Hz d1 c1 HX
      go_wp2_with fail
      refine l1.out.mono ?_;rintro e l ⟨he,d9,h9⟩;have n1:l.cell? ⟨nb,1,U⟩=Y (W N f.lk):=(h9.au.cell 1).trans ((HE.out.au.cell 1).symm.trans N1.out);have D9:=ae (D7.out.trans d9);clear l1 HE N1 D7 d9;rcases he with ⟨R0,rfl⟩|⟨g,rfl⟩
      .obtain ⟨y1,L,hd,hp⟩:=oB r.out R0
       have r0:=Af U1.out y1;have e0:jE T k p1 p2=if 60000<=f.lk then 9 else iQ k L (bD qs):=by rw [x0.out,if_neg (by rw [R0];simp),hd];rfl
       have g0:=ae e0;have G0:=ae fun e5 e6=>F0.out id f L rfl c0.out hd hp e5 e6;have hE:=r.out.mz _ _ hd;have S0:=V1.out _ _ c0.out;have n2:=r.out.lt c0.out;have E1:=fun hl=>r.out.link c0.out hd S0 hn r0 hp hl;have H0:=ae E1;obtain ⟨d,N0⟩:∃ d,aT T qs=d:=⟨_,rfl⟩
       obtain ⟨nm,V0⟩:∃ nm,bD qs=nm:=⟨_,rfl⟩
       rw [N0,V0] at G0 H0 ⊢;rw [V0] at g0 r0 hp;rw [N0] at hd;have hB:=h9.alloc (V #[W N (d:Int),Z (str nm)] 104 (0,0));have dB:=ae (D9.out.alloc (V #[W N (d:Int),Z (str nm)] 104 (0,0)));have H1:=bW l (V #[W N (d:Int),Z (str nm)] 104 (0,0)) _ _ n1;have hC:=hB.to (by ac_rfl:_=vA x b v T k*(pt l.heap.size (V #[W N (d:Int),Z (str nm)] 104 (0,0))*(bR u2 qs*(pt nb (V (ints z.l) 66 (0,0))*(bR u ps*(ax pc p1*(ax qc p2*F)))))));have s0:(l.alloc (V #[W N (d:Int),Z (str nm)] 104 (0,0))).cell? ⟨l.heap.size,0,U⟩=Y (W N (d:Int)):=hB.cell 0;have s1:(l.alloc (V #[W N (d:Int),Z (str nm)] 104 (0,0))).cell? ⟨l.heap.size,1,U⟩=Y (Z (str nm)):=hB.cell 1;have ha:=ae (uQ (child:=id) S0 (by omega) hd hE r0 hC);have HB:=ae hC;have HD:=ae hd;have HP:=ae hp;have w1:=r.out.I0 c0.out;have Y1:=ae fun w=>cC w 9 (by decide);have o2:nb<l.heap.size:=E5 l _ n1;clear hB hC h9 hd hE r0 hp e0 N0 V0 R0 y1 x0 F0 S0 E1 n1
       by_cases q0:60000<=f.lk
       .have g1:(9:Int)=jE T k p1 p2:=by rw [g0.out,if_pos q0]
        have R1:=ae g1;clear g1 g0;generalize f.lk=lk at *
        go_wp2_with fail
        refine (Y1.out _).mono ?_;rintro e f2 ⟨rfl,rfl⟩;exact ⟨rfl,d0.out 9 (by decide) R1.out _ dB.out (HB.out.to (by ac_rfl:_=(pt l.heap.size (V #[W N (d:Int),Z (str nm)] 104 (0,0))*(bR u2 qs*(pt nb (V (ints z.l) 66 (0,0))*bR u ps)))*(vA x b v T k*(ax pc p1*(ax qc p2*F))))).right⟩
       .have t1:f.lk<60000:=by omega
        have D0:=ae (show jE T k p1 p2=iQ k L nm by rw [g0.out,if_neg q0]);clear g0;obtain ⟨lk,T0⟩:∃ lk,f.lk=lk:=⟨_,rfl⟩
        rw [T0] at H1 q0 t1 w1;have Y0:=ae T0;clear T0
        go_wp2_with fail
        generalize l.alloc (V #[W N (d:Int),Z (str nm)] 104 (0,0))=f2 at *;generalize l.heap.size=sp at *;refine ha.out.mono ?_;rintro e K1 hq;rcases hq with ⟨C,rfl,l0,m0⟩|⟨C,rfl,l0,m0⟩
        .have r1:L.length<3840:=by
          unfold iQ at C;rw [HP.out] at C;simp only [J7,Bool.false_eq_true,if_false] at C
          split at C
          .exact absurd C (by decide)
          .omega
         have m1:id≠d:=by rintro rfl;have h1:=c0.out;have h2:=HD.out;rw [h1] at h2;cases h2
         have i1:eH (ei T d (L++[⟨id,nm⟩])) id=Y f:=gL (by unfold ei;rw [aI _ _ m1];exact c0.out);have W0:wrap64 (f.lk+1)=f.lk+1:=by have:=Y0.out;unfold wrap64;omega
         have n0:=m0.to (by unfold vA;ac_rfl:_=dx (x.more 5) b (eH (ei T d (L++[⟨id,nm⟩]))) (k+aY L.length-aY (L.length+1))*(pt v (bq b n)*(pt sp (V #[W N (d:Int),Z (str nm)] 104 (0,0))*(bR u2 qs*(pt nb (V (ints z.l) 66 (0,0))*(bR u ps*(ax pc p1*(ax qc p2*F))))))));have v0:K1.cell? ⟨v,0,U⟩=Y (az b):=n0.ah.cell 0;have v1:K1.cell? ⟨v,1,U⟩=Y (W N (n:Int)):=n0.ah.cell 1;have x1:=ae (Gw n0 i1 1 (by rw [W0];have:=Y0.out;omega));have HW:=ae W0;have W1:=ae cR;have Z0:=ae (G0.out (by rw [D0.out,C]) (H0.out r1));have X0:=ae (dB.out.trans l0);clear m0 n0 i1 W0 m1 r1 C l0 dB ha HB H1 s0 s1 q0 t1 w1 G0 H0 D0
         go_wp2_with fail
         refine x1.out.mono ?_;rintro e g2 ⟨rfl,f1,L0⟩;rw [HW.out,show df (eH (ei T d (L++[⟨id,nm⟩]))) id (Y { f with lk:=f.lk+1 })=eH (yz T d id nm f L) from qu (ei T d (L++[⟨id,nm⟩])) id (.file { f with lk:=f.lk+1 })] at L0;have Z1:=ae (Z0.out g2 (X0.out.trans f1) (L0.to (by unfold vA;ac_rfl:_=(pt sp (V #[W N (d:Int),Z (str nm)] 104 (0,0))*(bR u2 qs*(pt nb (V (ints z.l) 66 (0,0))*bR u ps)))*(vA (x.more 8) b v (yz T d id nm f L) (k+aY L.length-aY (L.length+1))*(ax pc p1*(ax qc p2*F))))).right);clear x1 L0 f1 X0 Z0 v0 v1
         go_wp2_with fail
         refine (W1.out _).mono ?_;rintro e q2 ⟨rfl,rfl⟩
         go_wp2_with fail
         go_end0
         exact Z1.out
        .exact ⟨rfl,d0.out _ C D0.out.symm _ (dB.out.trans l0) (m0.to (by ac_rfl:_=(pt sp (V #[W N (d:Int),Z (str nm)] 104 (0,0))*(bR u2 qs*(pt nb (V (ints z.l) 66 (0,0))*bR u ps)))*(vA x b v T k*(ax pc p1*(ax qc p2*F))))).right⟩
      .exact ⟨rfl,d0.out _ g (by rw [x0.out,if_pos g]) _ D9.out (h9.to (by ac_rfl:_=(bR u2 qs*(pt nb (V (ints z.l) 66 (0,0))*bR u ps))*(vA x b v T k*(ax pc p1*(ax qc p2*F))))).right⟩
    .have e0:(8:Int)=jE T k p1 p2:=by
      rw [f0.out,if_neg (by decide),hy]
      cases u0 with
      | dir L=>rfl
      | file f=>exact absurd (r.out.files _ _ hy) i0
     exact ⟨rfl,d0.out 8 (by decide) e0 _ (D6.out.trans d7) (y.to (by ac_rfl:_=(bR u ps*bR u2 qs)*(vA x b v T k*(ax pc p1*(ax qc p2*F))))).right⟩
   .exact ⟨rfl,d0.out _ g (by rw [f0.out,if_pos g]) _ D6.out (h6.to (by ac_rfl:_=(bR u ps*bR u2 qs)*(vA x b v T k*(ax pc p1*(ax qc p2*F))))).right⟩
end
section
variable {t:Pl} {q:Dk t.n} {s s':Ds} {T:Tr} {k m:Nat} {O:jj} {w:K} {F:ai} {p1 p2:List UInt8}
def kM.pos (h:kM t q s T k):∀ id y,T id=Y y->0<id:=fun id y hy=>(h.at_.has.wf (f:=y.af) (by unfold eH;rw [hy];rfl)).2.1
def AL (g:kM t q s T k) (z:s.B<=1000000) (h:ag w (cX t s m O*F)) :
  Calls M 17 #[az t.f,Z (str p1),Z (str p2)] w (OC t q m s O (yO T k p1 p2) F w):=by
 refine aF fun d0 r=>?_;have j:=(h.alloc (V #[Z (str p1)] 9 (0,0))).alloc (V #[Z (str p2)] 9 (0,0));simp only [A2] at j;have u:=ae (((aj.refl w).alloc (V #[Z (str p1)] 9 (0,0))).alloc (V #[Z (str p2)] 9 (0,0)))
 have hd:=ae fun (pc qc:Nat) (w':K) (h':ag w' (cX t s m O*((ax pc p1*ax qc p2)*F)))=>
  kF g z 46 #[az pc,az qc] (ax pc p1*ax qc p2) (yO T k p1 p2) (enters func46 Kr0 rfl)
   (fun x v b w1 b0 hw=>(ML (x:=x) (b:=b) (v:=v) (k:=k) (pc:=pc) (qc:=qc) (F:=dy t m O*b0) (p1:=p1) (p2:=p2) g.hn g.ty g.pos (hw.u00)).mono fun e w' hq=>by simpa only [ay] using hq) h'
 have l:=ae j;clear h j g z
 go_in
 go_wp2_with fail
 generalize (w.alloc (V #[Z (str p1)] 9 (0,0))).alloc (V #[Z (str p2)] 9 (0,0))=w1 at *;generalize w.heap.size=pc at *;refine (hd.o pc (pc+1) _ (l.o.to (by unfold ax;ac_rfl))).mono ?_;rintro e w2 ⟨c,T',k',s',C,rfl,d2,hr,y⟩;have c0:=ae (r.o _ _ ⟨c,T',k',s',C,rfl,u.o.trans d2,hr,(y.t00 ((ax pc p1*ax (pc+1) p2)*(cX t s' m O*F))).right⟩);clear hd u l d2 hr C y r
 exact Zz c0.o
end
section
variable {n:Nat} {x:Fx n} {b v pc k:Nat} {T:Tr} {w:K} {F:ai} {p:List UInt8}
def Jn (ht:Tidy n T) (h:ag w (vA x b v T k*(ax pc p*F))) :
  Calls M 54 #[az v,az pc] w (Rw x b v (vN T k p) (ax pc p*F) w):=by
 refine aF fun o1 HQ=>?_;have cp:w.cell? ⟨pc,0,U⟩=Y (Z (str p)):=h.ah.cell 0;have j0:=ae h;have HT:=ae ht
 have c0:Hid (∀ c,c≠0->c=jA T p->∀ (w':K),aj w w'->ag w' (vA x b v T k*(ax pc p*F))->o1 (.panicked (jB c)) w'):=fun c u he w' d l=>
  HQ.o _ _ ⟨c,T,k,0,⟨he,fun h=>absurd h u⟩,fun h=>absurd h u,.inr ⟨u,rfl⟩,d,De0,mx (ag.mY (x:=x) 0 (l.to (by unfold vA;ac_rfl:_=dx x b (eH T) k*(pt v (bq b n)*(ax pc p*F))))|>.u00)⟩
 clear h ht
 cases l:bh p with
 | none=>
  have hk:=ae (fg (w:=w) l);have u:(1:Int)=jA T p:=by unfold jA;rw [l]
  have r:=ae u;clear l HQ u
  go_in
  go_wp2_with fail
  apply hk.o.mono;rintro e w2 ⟨rfl,d2,h2⟩;exact ⟨rfl,c0.o 1 De0 r.o _ d2 (h2.cM j0.o)⟩
 | some ps=>
  obtain ⟨r1,hl⟩:=dO l;have hk:=ae (dJ (w:=w) l)
  have b0:=ae (show jA T p=if (aO T 1 ps).1≠0 then (aO T 1 ps).1 else match T (aO T 1 ps).2 with
   | some (.dir j)=>if ps=[]\/j≠[] then 11 else 0
   | _=>8 by unfold jA;rw [l];rfl)
  have hy:=fun h0=>HT.o.walk ps HT.o.root.choose_spec h0;have W0:=fun p0=>po (T:=T) (ps:=ps) p0;have HY:=ae hy;have HL:=ae hl;have d0:=ae W0
  have e0:=ae fun (id:Nat) (L:List aL) (i:Nat) (p0:ps≠[]) (e1:aO T 1 ps=(0,id)) (e2:T id=Y (.dir [])) (e3:T (aT T ps)=Y (.dir L)) (e4:iE L (bD ps)=Y i) (e5:jA T p=0) (e6:Tidy n (tU T (aT T ps) id L i)) (w':K) (d:aj w w') (s1:ag w' (vA (x.more 10) b v (tU T (aT T ps) id L i) (k+aY L.length-aY (L.length-1)+bE (eC 1 []).pr)*(ax pc p*F)))=>
   HQ.o (I (H #[])) w' ⟨0,_,_,10,⟨e5.symm,fun _=>⟨ps,id,L,i,l,p0,e1,e2,e3,e4,rfl,rfl⟩⟩,fun _=>e6,.inl ⟨rfl,rfl⟩,d,De0,s1⟩
  clear l HQ r1 hl hy W0
  go_in
  go_wp2_with fail
  apply hk.o.mono;rintro e w2 ⟨s0,rfl,d2,h2⟩;have h3:=(h2.under j0.o).t00 (vA x b v T k*(bR s0 ps*(ax pc p*F)));have hw:=ae (gw HT.o HL.o eY h3);clear cp hk h2 h3 j0;obtain ⟨pw,f1⟩:=Nm (aO T 1 ps)
  rw [f1] at hw HY b0 e0 d0;clear f1;obtain ⟨wc,id⟩:=pw;dsimp only at hw HY b0 d0
  go_wp2_with fail
  apply hw.o.mono;rintro e w3 ⟨he,d3,h3⟩;clear hw;have D3:=ae (d2.trans d3);clear d2 d3;rcases he with ⟨rfl,rfl⟩|⟨u,rfl⟩
  .obtain ⟨u0,hy⟩:=HY.o rfl
   have Z0:=ae (jU hy h3);obtain ⟨ua,uc,rfl⟩:=eQ (h3.t00 (bR s0 ps*(vA x b v T k*(ax pc p*F))));clear h3
   go_wp2_with fail
   apply Z0.o.mono;rintro e g ⟨z,rfl,k1,l1,x1,m1,d7,h7⟩;obtain ⟨hX,d1,T0⟩:=lZ k1;have hB:=h7.alloc (V ny 66 (0,0));have Hz:=ae hB.heap;have hE:=hB.setRow (cs':=ints z.l);have n0:((g.alloc (V ny 66 (0,0))).setRow g.heap.size (ints z.l)).cell? ⟨g.heap.size,0,U⟩=Y (W N u0.af.kd):=by rw [<- l1];exact hE.cell 0
   have n2:((g.alloc (V ny 66 (0,0))).setRow g.heap.size (ints z.l)).cell? ⟨g.heap.size,2,U⟩=Y (W N (u0.af.sz:Int)):=by rw [<- m1];exact hE.cell 2
   have HE:=ae (hE.t00 (vA x b v T k*(bR (Q ua ps.length uc) ps*(pt g.heap.size (V (ints z.l) 66 (0,0))*(ax pc p*F)))));have D7:=ae (((D3.o.trans d7).alloc (V ny 66 (0,0))).setRow g.heap.size (ints z.l));have G0:=ae d1;have F0:=ae T0;have HX:=ae hX;have N0:=ae n0;have N2:=ae n2;have C:=ae hy;clear Z0 hB hE hX d1 T0 n0 n2 d7 h7 k1 l1 x1 m1 hy HY D3;unfold ny at *
   go_upto_region 3 with (refine wpList_store_row (by exact rfl) 66 (.tmp 5) (.tmp 13) (by exact rfl) g.heap.size (ints z.l) (by exact rfl) (by exact rfl) 66 _ (by with_reducible exact Hz.o) F0.o (by rw [HX.o];rfl) G0.o ?_)
   generalize t1:(g.alloc (V #[W N 0,W N 0,W N 0,W N 0,W N 0,W N 0,W N 0,W N 0,W N 0,W N 0,W N 0,W N 0,W N 0,W N 0,W N 0,W N 0,W N 0,W N 0,W N 0,W N 0] 66 (0,0))).setRow g.heap.size (ints z.l)=w8 at *;generalize g.heap.size=nb at *;clear t1 Hz G0 F0 HX;have n0:=N0.o;have n2:=N2.o;clear N0 N2
   cases u0 with
   | file f=>
    have f0:(8:Int)=jA T p:=by rw [b0.o,if_neg De0,C.o]
    have r:=ae f0;have V0:f.kd=1:=HT.o.files _ _ C.o;have i1:w8.cell? ⟨nb,0,U⟩=Y (W N 1):=by rw [<- V0];exact n0
    have i0:=ae fun w=>cC w 8 De0;clear f0 V0 n0 n2 b0 e0
    go_wp2_with fail
    apply (i0.o _).mono;rintro e w9 ⟨rfl,rfl⟩;exact ⟨rfl,c0.o 8 De0 r.o _ D7.o (HE.o.t00 ((bR (Q ua ps.length uc) ps*pt nb (V (ints z.l) 66 (0,0)))*(vA x b v T k*(ax pc p*F)))).right⟩
   | dir j=>
    have i1:w8.cell? ⟨nb,0,U⟩=Y (W N 2):=n0;have j1:w8.cell? ⟨nb,2,U⟩=Y (W N ((eC 1 j).sz:Int)):=n2;have f0:jA T p=if ps=[]\/j≠[] then 11 else 0:=by rw [b0.o,if_neg De0,C.o]
    have r:=ae f0;clear n0 n2 f0 b0
    by_cases y:ps=[]\/j≠[]
    .have k0:=ae (show (11:Int)=jA T p by rw [r.o,if_pos y])
     have i0:=ae fun w=>cC w 11 De0;have Y0:=ae (c0.o 11 De0 k0.o _ D7.o (HE.o.t00 ((bR (Q ua ps.length uc) ps*pt nb (V (ints z.l) 66 (0,0)))*(vA x b v T k*(ax pc p*F)))).right)
     by_cases hps:ps=[]
     .have o0:(ps.length:Int)=0:=by rw [hps];rfl
      clear r k0 e0 c0 d0 HE y hps D7;generalize ps.length=ln at *
      go_wp2_with fail
      apply (i0.o _).mono;rintro e w9 ⟨rfl,rfl⟩;exact ⟨rfl,Y0.o⟩
     .have hM:j≠[]:=y.elim (fun h=>absurd h hps) (fun h=>h)
      have o0:¬ (ps.length:Int)=0:=by have:=List.length_pos_iff.2 hps;omega
      have r0:(0:Int)<((eC 1 j).sz:Int):=by have:=List.length_pos_iff.2 hM;show (0:Int)<((32*j.length:Nat):Int);omega
      clear r k0 e0 c0 d0 HE y hps hM D7;generalize ps.length=ln at *;generalize ((eC 1 j).sz:Int)=sz at *
      go_wp2_with fail
      apply (i0.o _).mono;rintro e w9 ⟨rfl,rfl⟩;exact ⟨rfl,Y0.o⟩
    .have hps:ps≠[]:=fun h=>y (.inl h)
     have hM:j=[]:=Classical.byContradiction fun h=>y (.inr h);subst hM;have c1:jA T p=0:=by rw [r.o,if_neg y]
     obtain ⟨g1,L,i,hi,hd,hp,m0⟩:=d0.o hps (by first|rfl|trivial);have R0:=HT.o.gone hd hi m0 C.o rfl (by have:=HT.o.Ew hd (List.getElem_mem hi);rw [m0] at this;show (if id=1 then (0:Int) else 1)=1;rw [if_neg this]);have D0:=ae (e0.o id L i hps rfl C.o hd hp c1 R0);have S0:id≠aT T ps:=by intro e;have h1:=C.o;rw [e,hd] at h1;cases h1;simp at hi
     have K0:eH (ei T (aT T ps) (mn L i)) id=Y (eC 1 []):=jG (by unfold ei;rw [aI _ _ S0];exact C.o);have q0:=ae (oj HT.o HL.o hps eY g1 hd hp HE.o);have x0:=ae K0;have n1:=ae cR;have o0:¬ (ps.length:Int)=0:=by have:=List.length_pos_iff.2 hps;omega
     have r0:((eC 1 []).sz:Int)=0:=rfl;rw [r0] at j1;clear r e0 c0 d0 HE y hps c1 g1 hp m0 R0 S0 K0 r0 HL;generalize hD:aT T ps=d at *;obtain ⟨ln,X0⟩:=Nm ps.length
     rw [X0] at q0 o0 ⊢;clear X0
     go_wp2_with fail
     apply q0.o.mono;rintro e w9 ⟨he,d9,h9⟩;obtain rfl:=he.elim (fun h=>h.2) (fun h=>absurd rfl h.1);have g0:=h9.to (by unfold vA;ac_rfl:_=dx (x.more 9) b (eH (ei T d (mn L i))) (k+aY L.length-aY (L.length-1))*(pt v (bq b n)*(bR (Q ua ln uc) ps*(pt nb (V (ints z.l) 66 (0,0))*(ax pc p*F)))));have v0:w9.cell? ⟨v,0,U⟩=Y (az b):=g0.ah.cell 0;have v1:w9.cell? ⟨v,1,U⟩=Y (W N (n:Int)):=g0.ah.cell 1;have L0:=ae (Ng g0 x0.o);have D9:=ae (D7.o.trans d9);clear q0 h9 g0 d9 D7 x0 i1 j1 he
     go_wp2_with fail
     apply L0.o.mono;rintro e w1 ⟨rfl,H0,l0⟩;rw [BB] at l0;have q1:=ae (D0.o w1 (D9.o.trans H0) (l0.to (by unfold vA;ac_rfl:_=(bR (Q ua ln uc) ps*pt nb (V (ints z.l) 66 (0,0)))*(vA (x.more 10) b v (tU T d id L i) (k+aY L.length-aY (L.length-1)+bE (eC 1 []).pr)*(ax pc p*F)))).right);clear L0 l0 H0 D9 D0 v0 v1
     go_wp2_with fail
     apply (n1.o _).mono;rintro e y1 ⟨rfl,rfl⟩
     exact Zy q1.o
  .exact ⟨rfl,c0.o _ u (by rw [b0.o,if_pos u]) _ D3.o (h3.t00 (bR s0 ps*(vA x b v T k*(ax pc p*F)))).right⟩
end
section
variable {t:Pl} {q:Dk t.n} {s s':Ds} {T:Tr} {k m:Nat} {O:jj} {w:K} {F:ai} {p:List UInt8}
def yT (g:kM t q s T k) (z:s.B<=1000000) (h:ag w (cX t s m O*F)) :
  Calls M 19 #[az t.f,Z (str p)] w (OC t q m s O (vN T k p) F w):=by
 refine aF fun d0 l=>?_;have y:=h.alloc (V #[Z (str p)] 9 (0,0));have r:=ae ((aj.refl w).alloc (V #[Z (str p)] 9 (0,0)))
 have hd:=ae fun (pc:Nat) (w':K) (h':ag w' (cX t s m O*(ax pc p*F)))=>
  kF g z 54 #[az pc] (ax pc p) (vN T k p) (enters func54 Kr0 rfl)
   (fun x v b w1 b0 hw=>Jn (x:=x) (b:=b) (v:=v) (k:=k) (pc:=pc) (F:=dy t m O*b0) (p:=p) g.ty hw) h'
 have j:=ae y;clear h y g z
 go_in
 go_wp2_with fail
 generalize w.alloc (V #[Z (str p)] 9 (0,0))=w1 at *;generalize w.heap.size=pc at *;refine (hd.o pc _ (j.o.to (by unfold ax;ac_rfl))).mono ?_;rintro e w2 ⟨c,T',k',s',C,rfl,d2,hr,u⟩;have c0:=ae (l.o _ _ ⟨c,T',k',s',C,rfl,r.o.trans d2,hr,(u.t00 (ax pc p*(cX t s' m O*F))).right⟩);clear hd r j d2 hr C u l
 exact Zz c0.o
end
end Go.Proofs.Cl
namespace Go.SL
def Ke (O:List (Int × (Nat × Nat))) (id:Nat):Bool:=O.any fun p=>p.2.1 == id
end Go.SL
namespace Go.Proofs.Cl
open RowKit SL Proofs.Nn Proofs.Ba Proofs.Su Proofs.Fs
attribute [local go_sem] Oper.semAt_some
section
variable {t:Pl} {m id:Nat} {O:jj} {w:K} {F:ai}
def OU {a c:Nat × Nat} (h:C9 a=C9 c):a.1=c.1:=by
 unfold C9 at h;injection h with h
 have g:=congrArg (fun x:Array E=>x[0]?) h;simp at g;omega
def LF (m:Nat) (o:Obj) (O:jj) (id r:Nat) (j:ai) (w0:K) (k:Nat) (wr:K):Prop:=
 ∃ D g,O.length<=D.length+k/\Iter m o (lf O) D g/\(∀ x:Int × (Nat × Nat),(x.1,C9 x.2) ∈ D->x.2.1≠id)/\ag wr (pt r g*(pt m o*j))/\aj w0 wr
def EF (h:ag w (dy t m O*F)):Calls M 51 #[az t.f,W N (id:Int)] w fun e w'=>e = I (.bool (Ke O id))/\aj w w'/\ag w' (dy t m O*F):=by
 refine aF fun R0 HQ=>?_;have c1:=jN h;have h1:ag w (mp m (lf O)*(pt t.f (gS t (.map (Y m)))*F)):=h.to (by unfold dy;ac_rfl);obtain ⟨o,ho,hb,j⟩:=h1.n9;obtain ⟨it,G0,m0⟩:=lv (P:=M) underlying95 hb ho;have r:=ae fun (b:Bool) (u0:b=Ke O id) (w':K) (d:aj w w') (hs:ag w' (pt m o*(pt t.f (gS t (.map (Y m)))*F)))=>HQ.o (I (.bool b)) w' ⟨by rw [u0],d,(hs.ui ho).to (by unfold dy;ac_rfl)⟩;generalize hZ:pt t.f (gS t (.map (Y m)))*F=f0 at *;have h0:LF m o O id w.heap.size f0 w O.length (w.alloc it):=⟨[],it,Si0,m0,fun x g=>(by cases g),j.alloc it,(aj.refl w).alloc it⟩
 have k0:=ae h0;clear h h1 j hb hZ m0 h0 ho HQ
 go_in
 go_wp2_with fail
 go_loopg [] O.length (fun k wr=>LF m o O id w.heap.size f0 w k wr)
 case atStart=>exact k0.o
 case round=>
  obtain ⟨D,T0,e0,c0,u,l,y⟩:=hrel;clear G0 k0 c1;have b0:wr.heap[m]?=Y o:=l.ah.heap;have HD:=ae u;have N0:=ae e0;rcases l.next (P:=M) b0 c0 with ⟨r0,p0⟩|⟨p,K0,w2,j,q0,p0,i0,d0,j0,l0,x0⟩
  .have o0:Y'=Ke O id:=by
    symm;unfold Ke;rw [List.any_eq_false];intro x g;have:=u x (r0.mem_iff.2 (List.mem_map.2 ⟨x,g,rfl⟩));simpa using this
   have g0:=ae (r.o Y' o0 wr y l.right);clear r0 l y b0 c0 u e0 r o0
   exact Zz g0.o
  .obtain ⟨x,g,H0⟩:=List.mem_map.1 j
   obtain ⟨x1,z,x3⟩:=x;subst H0;dsimp only at p0 x0;have hE:=i0.alloc (V #[W N (z:Int),W N (x3:Int)] 100 (0,0));have C:=(y.trans j0).alloc (V #[W N (z:Int),W N (x3:Int)] 100 (0,0))
   by_cases hq:z=id
   .have s0:Z'=Ke O id:=by
     symm;unfold Ke;rw [List.any_eq_true];exact ⟨_,g,by simpa using hq⟩
    have g0:=ae (r.o Z' s0 _ C hE.right.right);clear b0 c0 u e0 r s0 hE C l i0 y j0 j q0 d0 l0 g HD;subst hq
    exact Zz g0.o
   .have S0:¬ (z:Int)=(id:Int):=Om0
    have n0:=zK d0;rw [H6,H4] at n0;have F0:(lf O).length=O.length:=A3 _
    have HN:=ae (show LF m o O id w.heap.size f0 w (gk-1) (w2.alloc (V #[W N (z:Int),W N (x3:Int)] 100 (0,0))) from ⟨_,K0,by rw [H6,H4];omega,d0,fun L0 hy=>by
     rcases List.mem_append.1 hy with hy|hy
     .exact HD.o L0 hy
     .rw [List.mem_singleton] at hy
      have:=OU (congrArg Prod.snd hy);dsimp only at this;rw [this];exact hq,hE.right,C⟩)
    have D0:gk-1<gk:=Om0
    clear b0 c0 u e0 r hE C l i0 y j0 j q0 d0 l0 g hq n0 F0
    go_wp2_with fail
    go_roundg (gk-1)
    case measure=>exact D0
    case rel=>exact HN.o
end
end Go.Proofs.Cl
namespace Go.SL
def fR (T:Tr) (O:List (Int × (Nat × Nat))) (p:List UInt8):Int:=match bh p with
 | none=>1
 | some ps=>if (aO T 1 ps).1≠0 then (aO T 1 ps).1 else match T (aO T 1 ps).2 with
  | some (.file f)=>if f.lk=1/\Ke O (aO T 1 ps).2=Z' then 10 else 0
  | _=>8
def rF (T:Tr) (k:Nat) (O:List (Int × (Nat × Nat))) (p:List UInt8) (c:Int) (T':Tr) (k':Nat):Prop:=
 c=fR T O p/\(c=0->∃ ps id f L i,bh p=Y ps/\ps≠[]/\aO T 1 ps=(0,id)/\T id=Y (.file f)/\T (aT T ps)=Y (.dir L)/\iE L (bD ps)=Y i /\
  ((1<f.lk/\T'=CJ T (aT T ps) id L i f/\k'=k+aY L.length-aY (L.length-1))\/(f.lk=1/\T'=tU T (aT T ps) id L i/\k'=k+aY L.length-aY (L.length-1)+bE f.pr)))
end Go.SL
namespace Go.Proofs.Cl
open RowKit SL Proofs.Nn Proofs.Ba Proofs.Su Proofs.Fs
attribute [local go_sem] Oper.semAt_some
section
variable {t:Pl} {x:Fx t.n} {b v pc fc k m:Nat} {T:Tr} {O:jj} {w:K} {F:ai} {p:List UInt8}
def Fu (ht:Tidy t.n T) (y1:∀ id f,T id=Y (.file f)->f.lk<=65535) (h:ag w (vA x b v T k*(ax pc p*(aZ t fc*(dy t m O*F))))) :
  Calls M 50 #[az v,az pc,az fc] w (Rw x b v (rF T k O p) (ax pc p*(aZ t fc*(dy t m O*F))) w):=by
 refine aF fun V1 HQ=>?_;have cp:w.cell? ⟨pc,0,U⟩=Y (Z (str p)):=h.ah.cell 0;have S0:=ae h;have r:=ae ht;have i1:=ae y1
 have j0:Hid (∀ c,c≠0->c=fR T O p->∀ (w':K),aj w w'->ag w' (vA x b v T k*(ax pc p*(aZ t fc*(dy t m O*F))))->V1 (.panicked (jB c)) w'):=fun c hc he w' d C=>
  HQ.o _ _ ⟨c,T,k,0,⟨he,fun h=>absurd h hc⟩,fun h=>absurd h hc,.inr ⟨hc,rfl⟩,d,De0,mx (ag.mY (x:=x) 0 (C.to (by unfold vA;ac_rfl:_=dx x b (eH T) k*(pt v (bq b t.n)*(ax pc p*(aZ t fc*(dy t m O*F))))))|>.u00)⟩
 clear h ht y1
 cases C:bh p with
 | none=>
  have hk:=ae (fg (w:=w) C);have hc:(1:Int)=fR T O p:=by unfold fR;rw [C]
  have HC:=ae hc;clear C HQ hc
  go_in
  go_wp2_with fail
  apply hk.o.mono;rintro e w2 ⟨rfl,d2,h2⟩;exact ⟨rfl,j0.o 1 De0 HC.o _ d2 (h2.cM S0.o)⟩
 | some ps=>
  obtain ⟨Y1,hl⟩:=dO C;have hk:=ae (dJ (w:=w) C)
  have g0:=ae (show fR T O p=if (aO T 1 ps).1≠0 then (aO T 1 ps).1 else match T (aO T 1 ps).2 with
   | some (.file f)=>if f.lk=1/\Ke O (aO T 1 ps).2=Z' then 10 else 0
   | _=>8 by unfold fR;rw [C])
  have hy:=fun h0=>r.o.walk ps r.o.root.choose_spec h0;have w1:=fun Z0=>po (T:=T) (ps:=ps) Z0;have B1:ps=[]->(aO T 1 ps).2=1:=fun e=>by rw [e];rfl
  have HY:=ae hy;have HL:=ae hl;have H0:=ae w1;have L0:=ae B1
  have T0:=ae fun (id:Nat) (f:AF) (L:List aL) (i:Nat) (Z0:ps≠[]) (e1:aO T 1 ps=(0,id)) (e2:T id=Y (.file f)) (e3:T (aT T ps)=Y (.dir L)) (e4:iE L (bD ps)=Y i) (e5:fR T O p=0) (T':Tr) (k':Nat) (e6:Tidy t.n T') (e7:(1<f.lk/\T'=CJ T (aT T ps) id L i f/\k'=k+aY L.length-aY (L.length-1))\/(f.lk=1/\T'=tU T (aT T ps) id L i/\k'=k+aY L.length-aY (L.length-1)+bE f.pr)) (c1:Nat) (hj:c1<=24) (w':K) (d:aj w w') (Z1:ag w' (vA (x.more c1) b v T' k'*(ax pc p*(aZ t fc*(dy t m O*F)))))=>
   HQ.o (I (H #[])) w' ⟨0,_,_,c1,⟨e5.symm,fun _=>⟨ps,id,f,L,i,C,Z0,e1,e2,e3,e4,e7⟩⟩,fun _=>e6,.inl ⟨rfl,rfl⟩,d,hj,Z1⟩
  clear C HQ Y1 hl hy w1 B1
  go_in
  go_wp2_with fail
  apply hk.o.mono;rintro e w2 ⟨d1,rfl,d2,h2⟩;have h3:=(h2.under S0.o).t00 (vA x b v T k*(bR d1 ps*(ax pc p*(aZ t fc*(dy t m O*F)))));have hw:=ae (gw r.o HL.o eY h3);clear cp hk h2 h3 S0;obtain ⟨pw,A1⟩:=Nm (aO T 1 ps)
  rw [A1] at hw HY g0 T0 H0 L0;clear A1;obtain ⟨wc,id⟩:=pw;dsimp only at hw HY g0 H0 L0
  go_wp2_with fail
  apply hw.o.mono;rintro e w3 ⟨he,d3,h3⟩;clear hw;have D3:=ae (d2.trans d3);clear d2 d3;rcases he with ⟨rfl,rfl⟩|⟨hc,rfl⟩
  .obtain ⟨E1,hy⟩:=HY.o rfl
   have r1:=ae (oN hy h3);obtain ⟨u,y,rfl⟩:=eQ (h3.t00 (bR d1 ps*(vA x b v T k*(ax pc p*(aZ t fc*(dy t m O*F))))));clear h3
   go_wp2_with fail
   apply r1.o.mono;rintro e w7 hq;rcases hq with ⟨R0,z,rfl,H1,c2,K1,f2,d7,h7⟩|⟨R0,rfl,d7,h7⟩
   .cases E1 with
    | dir L=>exact absurd R0 (by show ¬ (2:Int)=1;decide)
    | file f=>
     have hps:ps≠[]:=fun e=>by have h1:=L0.o e;rw [h1] at hy;obtain ⟨L,hL⟩:=r.o.root;rw [hL] at hy;cases hy
     have i0:=ae (show fR T O p=if f.lk=1/\Ke O id=Z' then 10 else 0 by rw [g0.o,if_neg De0,hy]);obtain ⟨D1,L,i,hi,hd,hp,N0⟩:=H0.o hps (by first|rfl|trivial)
     have Y0:1<=f.lk:=by
      have hp:=wQ (r.o.lt hd) hd (List.getElem_mem hi);rw [N0] at hp;have:=r.o.ref id;rw [hy] at this;simp only [C7] at this;omega
     have W0:=i1.o _ _ hy;have p0:=ae (T0.o id f L i hps rfl hy hd hp);have K0:=ae (r.o.less hd hi N0 hy);have F0:=ae fun (e:f.lk=1)=>r.o.gone hd hi N0 hy rfl e;have s1:id≠aT T ps:=by intro e;rw [e,hd] at hy;cases hy
     have q1:eH (ei T (aT T ps) (mn L i)) id=Y f:=gL (by unfold ei;rw [aI _ _ s1];exact hy);have n0:=ae q1;obtain ⟨hX,z1,t1⟩:=lZ H1;have hB:=h7.alloc (V ny 66 (0,0));have Hz:=ae hB.heap;have hE:=hB.setRow (cs':=ints z.l);have n1:((w7.alloc (V ny 66 (0,0))).setRow w7.heap.size (ints z.l)).cell? ⟨w7.heap.size,1,U⟩=Y (W N f.lk):=by rw [show f.lk=z.lk from K1.symm];exact hE.cell 1
     have m1:=hE.t00 (vA x b v T k*(bR (Q u ps.length y) ps*(pt w7.heap.size (V (ints z.l) 66 (0,0))*(ax pc p*(aZ t fc*(dy t m O*F))))));have HE:=ae m1;have D0:=ae fun (w':K) (h':ag w' (vA x b v T k*(bR (Q u ps.length y) ps*(pt w7.heap.size (V (ints z.l) 66 (0,0))*(ax pc p*(aZ t fc*(dy t m O*F)))))))=>oj r.o HL.o hps eY D1 hd hp h';have D7:=ae (((D3.o.trans d7).alloc (V ny 66 (0,0))).setRow w7.heap.size (ints z.l));have l1:=ae z1;have k1:=ae t1;have HX:=ae hX;have N1:=ae n1;have g2:¬ (ps.length:Int)=0:=by have:=List.length_pos_iff.2 hps;omega
     clear r1 hB hE m1 hX z1 t1 n1 d7 h7 H1 c2 K1 f2 hy HY g0 D3 R0 hps D1 hd hp N0 q1 s1 T0 H0 L0 r hi i1;unfold ny at *
     go_upto_region 3 with (refine wpList_store_row (by exact rfl) 66 (.tmp 6) (.tmp 14) (by exact rfl) w7.heap.size (ints z.l) (by exact rfl) (by exact rfl) 66 _ (by with_reducible exact Hz.o) k1.o (by rw [HX.o];rfl) l1.o ?_)
     generalize a2:(w7.alloc (V #[W N 0,W N 0,W N 0,W N 0,W N 0,W N 0,W N 0,W N 0,W N 0,W N 0,W N 0,W N 0,W N 0,W N 0,W N 0,W N 0,W N 0,W N 0,W N 0,W N 0] 66 (0,0))).setRow w7.heap.size (ints z.l)=w8 at *;generalize w7.heap.size=nb at *;clear a2 Hz l1 k1 HX HL;have G0:=ae fun (w':K) (h':ag w' (dy t m O*(vA x b v T k*((bR (Q u ps.length y) ps*(pt nb (V (ints z.l) 66 (0,0))*(ax pc p*aZ t fc)))*F))))=>EF (id:=id) h';have f0:w8.cell? ⟨fc,0,U⟩=Y (az t.f):=HE.o.aJ.cell 0;have n1:=N1.o;have j1:=ae cR;generalize hD:aT T ps=d at *;generalize ps.length=ln at *
     by_cases g:f.lk=1
     .rw [g] at N1 n1
      have hH:=HE.o.t00 (dy t m O*(vA x b v T k*((bR (Q u ln y) ps*(pt nb (V (ints z.l) 66 (0,0))*(ax pc p*aZ t fc)))*F)));have x0:=ae (G0.o w8 hH)
      cases hb:Ke O id with
      | true=>
       have o1:(10:Int)=fR T O p:=by rw [i0.o,if_pos ⟨g,hb⟩]
       have L1:=ae o1;rw [hb] at x0;have W1:=ae fun w=>cC w 10 De0;clear o1 hb g i0 p0 K0 F0 n0 G0 hH D0 Y0 W0
       go_wp2_with fail
       apply x0.o.mono;rintro e w9 ⟨rfl,d9,j⟩
       go_wp2_with fail
       apply (W1.o _).mono;rintro e c0 ⟨rfl,rfl⟩;exact ⟨rfl,j0.o 10 De0 L1.o _ (D7.o.trans d9) (j.t00 ((bR (Q u ln y) ps*pt nb (V (ints z.l) 66 (0,0)))*(vA x b v T k*(ax pc p*(aZ t fc*(dy t m O*F)))))).right⟩
      | false=>
       have l:fR T O p=0:=by rw [i0.o,if_neg];rintro ⟨-,h⟩;rw [hb] at h;cases h
       rw [hb] at x0;have d0:=ae l;have o0:=ae g;clear hb i0 G0 hH Y0 W0 j0 l g
       go_wp2_with fail
       apply x0.o.mono;rintro e w9 ⟨rfl,d9,j⟩;have k0:=j.t00 (vA x b v T k*(bR (Q u ln y) ps*(pt nb (V (ints z.l) 66 (0,0))*(ax pc p*(aZ t fc*(dy t m O*F))))));have D9:=ae (D7.o.trans d9);have l:=d0.o;have g:=o0.o;clear j d9 x0 D7 n1 f0 d0 o0;have g1:=ae k0;have d0:=ae l;have o0:=ae g;clear k0 l g
       go_wp2_with fail
       have k0:=g1.o;have l:=d0.o;have g:=o0.o;clear g1 d0 o0;apply (D0.o _ k0).mono;rintro e c0 ⟨he,r0,j⟩;obtain rfl:=he.elim (fun h=>h.2) (fun h=>absurd rfl h.1);have n1:c0.cell? ⟨nb,1,U⟩=Y (W N 1):=(j.au.cell 1).trans ((HE.o.au.cell 1).symm.trans N1.o);have b0:=j.to (by unfold vA;ac_rfl:_=dx (x.more 9) b (eH (ei T d (mn L i))) (k+aY L.length-aY (L.length-1))*(pt v (bq b t.n)*(bR (Q u ln y) ps*(pt nb (V (ints z.l) 66 (0,0))*(ax pc p*(aZ t fc*(dy t m O*F)))))));have v0:c0.cell? ⟨v,0,U⟩=Y (az b):=b0.ah.cell 0;have v1:c0.cell? ⟨v,1,U⟩=Y (W N (t.n:Int)):=b0.ah.cell 1;have u0:=ae (Ng b0 n0.o);have q0:=ae (p0.o l _ _ (F0.o g) (.inr ⟨g,rfl,rfl⟩) 10 De0);have m0:=ae (D9.o.trans r0);clear D0 j b0 r0 he HE N1 p0 K0 F0 n0 D9 g
       go_wp2_with fail
       apply u0.o.mono;rintro e f1 ⟨rfl,s0,e0⟩;rw [BB] at e0;have V0:=ae (q0.o f1 (m0.o.trans s0) (e0.to (by unfold vA;ac_rfl:_=(bR (Q u ln y) ps*pt nb (V (ints z.l) 66 (0,0)))*(vA (x.more 10) b v (tU T d id L i) (k+aY L.length-aY (L.length-1)+bE f.pr)*(ax pc p*(aZ t fc*(dy t m O*F)))))).right);clear u0 e0 s0 m0 q0 v0 v1
       go_wp2_with fail
       apply (j1.o _).mono;rintro e b2 ⟨rfl,rfl⟩
       exact Zy V0.o
     .have x1:1<f.lk:=Om0
      have l:fR T O p=0:=by rw [i0.o,if_neg fun h=>g h.1]
      have l0:wrap64 (f.lk+-1)=f.lk-1:=by unfold wrap64;omega
      have U1:=ae l0;have d0:=ae l;have R1:=ae (p0.o l _ _ K0.o (.inl ⟨x1,rfl,rfl⟩) 12 De0);have D9:=D7;obtain ⟨lk,X0⟩:=Nm f.lk
      have O1:=ae X0;rw [X0] at n1 g x1 Y0 W0 N1;clear X0 l0 l i0 G0 j0
      go_wp2_with fail
      have k0:=HE.o;have l:=d0.o;have l0:=U1.o;apply (D0.o _ k0).mono;rintro e c0 ⟨he,r0,j⟩;obtain rfl:=he.elim (fun h=>h.2) (fun h=>absurd rfl h.1);have n1:c0.cell? ⟨nb,1,U⟩=Y (W N lk):=(j.au.cell 1).trans ((HE.o.au.cell 1).symm.trans N1.o);have b0:=j.to (by unfold vA;ac_rfl:_=dx (x.more 9) b (eH (ei T d (mn L i))) (k+aY L.length-aY (L.length-1))*(pt v (bq b t.n)*(bR (Q u ln y) ps*(pt nb (V (ints z.l) 66 (0,0))*(ax pc p*(aZ t fc*(dy t m O*F)))))));have v0:c0.cell? ⟨v,0,U⟩=Y (az b):=b0.ah.cell 0;have v1:c0.cell? ⟨v,1,U⟩=Y (W N (t.n:Int)):=b0.ah.cell 1;have u0:=ae (Gw b0 n0.o (-1) (by rw [l0];have:=O1.o;omega));have q0:=R1;have m0:=ae (D9.o.trans r0);have S1:=ae l0;clear D0 j b0 r0 he HE N1 p0 K0 F0 n0 D9 l0
      go_wp2_with fail
      apply u0.o.mono;rintro e f1 ⟨rfl,s0,e0⟩;rw [S1.o,show df (eH (ei T d (mn L i))) id (Y { f with lk:=f.lk-1 })=eH (CJ T d id L i f) from qu (ei T d (mn L i)) id (.file { f with lk:=f.lk-1 })] at e0;have V0:=ae (q0.o f1 (m0.o.trans s0) (e0.to (by unfold vA;ac_rfl:_=(bR (Q u ln y) ps*pt nb (V (ints z.l) 66 (0,0)))*(vA (x.more 12) b v (CJ T d id L i f) (k+aY L.length-aY (L.length-1))*(ax pc p*(aZ t fc*(dy t m O*F)))))).right);clear u0 e0 s0 m0 q0 v0 v1
      go_wp2_with fail
      apply (j1.o _).mono;rintro e b2 ⟨rfl,rfl⟩
      exact Zy V0.o
   .have X1:(8:Int)=fR T O p:=by
     rw [g0.o,if_neg De0,hy]
     cases E1 with
     | dir L=>rfl
     | file f=>exact absurd (r.o.files _ _ hy) R0
    exact ⟨rfl,j0.o 8 De0 X1 _ (D3.o.trans d7) (h7.t00 (bR (Q u ps.length y) ps*(vA x b v T k*(ax pc p*(aZ t fc*(dy t m O*F)))))).right⟩
  .exact ⟨rfl,j0.o _ hc (by rw [g0.o,if_pos hc]) _ D3.o (h3.t00 (bR d1 ps*(vA x b v T k*(ax pc p*(aZ t fc*(dy t m O*F)))))).right⟩
end
section
variable {t:Pl} {q:Dk t.n} {s s':Ds} {T:Tr} {k m:Nat} {O:jj} {w:K} {F:ai} {p:List UInt8}
def vp (g:kM t q s T k) (z:s.B<=1000000) (h:ag w (cX t s m O*F)) :
  Calls M 18 #[az t.f,Z (str p)] w (OC t q m s O (rF T k O p) F w):=by
 refine aF fun d0 r=>?_;have j:=(h.alloc (V #[az t.f] 28 (0,0))).alloc (V #[Z (str p)] 9 (0,0));simp only [A2] at j;have u:=ae (((aj.refl w).alloc (V #[az t.f] 28 (0,0))).alloc (V #[Z (str p)] 9 (0,0)))
 have hd:=ae fun (pc fc:Nat) (w':K) (h':ag w' (cX t s m O*((ax pc p*aZ t fc)*F)))=>
  kF g z 50 #[az pc,az fc] (ax pc p*aZ t fc) (rF T k O p) (enters func50 Kr0 rfl)
   (fun x v b w1 b0 hw=>(Fu (x:=x) (b:=b) (v:=v) (k:=k) (m:=m) (O:=O) (pc:=pc) (fc:=fc) (F:=b0) (p:=p) g.ty (fun id f hT=>(g.at_.has.wf (gL hT)).1.Kf) (hw.u00)).mono fun e w' hq=>by simpa only [ay] using hq) h'
 have l:=ae j;clear h j g z
 go_in
 go_wp2_with fail
 generalize (w.alloc (V #[az t.f] 28 (0,0))).alloc (V #[Z (str p)] 9 (0,0))=w1 at *;generalize w.heap.size=fc at *;refine (hd.o (fc+1) fc _ (l.o.to (by unfold ax aZ;ac_rfl))).mono ?_;rintro e w2 ⟨c,T',k',s',C,rfl,d2,hr,y⟩;have c0:=ae (r.o _ _ ⟨c,T',k',s',C,rfl,u.o.trans d2,hr,(y.t00 ((ax (fc+1) p*aZ t fc)*(cX t s' m O*F))).right⟩);clear hd u l d2 hr C y r
 exact Zz c0.o
end
end Go.Proofs.Cl
namespace Go.SL
def kz (ps qs:List (List UInt8)):Bool:=decide (ps.length<qs.length) && decide (ps=qs.take ps.length)
end Go.SL
namespace Go.Proofs.Cl
open RowKit SL Proofs.Nn Proofs.Ba Proofs.Su Proofs.Fs
attribute [local go_sem] Oper.semAt_some
section
variable {w:K} {F:ai} {ps qs:List (List UInt8)} {u1 u2:E}
def str_inj {a c:List UInt8} (h:str a=str c):a=c:=by
 have:=congrArg (fun x:ByteArray=>x.data.toList) h;simpa [str] using this
def ue:∀ {a c:List (List UInt8)},a.map str=c.map str->a=c
 | [],[],_=>rfl
 | [],_ :: _,h=>by simp at h
 | _ :: _,[],h=>by simp at h
 | x :: a,y :: c,h=>by
  simp only [H2,List.cons.injEq] at h;rw [str_inj h.1,ue h.2]
def rL {u:E} (b0:ps≠[]) (h:ag w (bR u ps*F)):∃ g c,u = Q (Y ⟨g,0,U⟩) ps.length c/\ps.length<=c/\c<=9223372036854775807/\∀ j,j<(ps.map str).length->w.cell? ⟨g,0+j,U⟩=Y (Z ((ps.map str).getD j ByteArray.empty)):=by
 have hp:=List.length_pos_iff.2 b0;rcases ag.dq (show ag w (sl 9 1 u ps.length (strs ps)*F) from h) with ⟨_,h0,_⟩|⟨g,r,c0,rfl,y,h4,h5,z,C⟩
 .omega
 .refine ⟨g,r,rfl,y,by unfold maxLen at h4;omega,fun j l=>?_⟩
  rw [A3] at l
  have e:(strs ps)[j]?=Y (Z ((ps.map str).getD j ByteArray.empty)):=by
   unfold strs;rw [List.getElem?_map,B2 l,List.getD,List.getElem?_map,B2 l]
   rfl
  rw [Nat.zero_add,C.cell,<- e,<- z,List.getElem?_take,if_pos Om0,Array.getElem?_toList]
def Jg (b0:ps≠[]) (e0:ps.length<=1000) (f0:qs.length<=1000) (h:ag w (bR u1 ps*(bR u2 qs*F))) :
  Calls M 56 #[u1,u2] w fun e w'=>e = I (.bool (kz ps qs))/\aj w w'/\ag w' (bR u1 ps*(bR u2 qs*F)):=by
 refine aF fun i0 g=>?_;have l:=ae h;have hp:=List.length_pos_iff.2 b0
 by_cases j:ps.length<qs.length
 .have g0:qs≠[]:=fun e=>by rw [e] at j;simp at j
  obtain ⟨g1,c1,rfl,k1,l1,z1⟩:=rL b0 h;obtain ⟨g2,u,rfl,k2,l2,z2⟩:=rL g0 h.ah;have y:=Tryz.slices_Equal_string g1 0 ps.length c1 g2 0 ps.length u (ps.map str) (qs.map str) w (by rw [A3];exact B3 _) (by rw [A3];omega) Om0 Om0 z1 z2
  have hd:decide ((ps.map str).take ps.length=(qs.map str).take ps.length)=kz ps qs:=by
   unfold kz;rw [decide_eq_true j,Bool.true_and];refine decide_eq_decide.2 ⟨fun e=>?_,fun e=>?_⟩
   .rw [H3 (by rw [A3];exact B3 _),<- List.map_take] at e
    exact ue e
   .rw [H3 (by rw [A3];exact B3 _),<- List.map_take,<- e]
  rw [hd] at y;have r:=ae y;have C:(ps.length:Int)<(qs.length:Int):=Om0
  have hc:(ps.length:Int)<=(u:Int):=Om0
  have j0:(u:Int)<=9223372036854775807:=Om0
  have h0:(0:Int)<=(ps.length:Int):=Om0
  clear h y hd z1 z2 j hp l1 l2 k1 k2;generalize kz ps qs=bb at *;obtain ⟨pn,c0⟩:=Nm ps.length
  obtain ⟨qn,d0⟩:=Nm qs.length
  rw [c0] at r l C hc h0 g ⊢;rw [d0] at l C g ⊢;clear c0 d0 e0 f0
  go_in
  go_wp2_with fail
  apply r.o.mono;rintro e w2 ⟨rfl,nq,rfl⟩;have z:=ae (g.o _ (w.drewN nq) ⟨rfl,(aj.refl w).trans ⟨rfl,rfl,rfl,B3 _⟩,l.o⟩);clear r l g
  exact Zz z.o
 .have hb:kz ps qs=Y':=by unfold kz;rw [decide_eq_false j];rfl
  rw [hb] at g;have z:=ae (g.o _ _ ⟨rfl,aj.refl w,h⟩);obtain ⟨a1,n1,rfl⟩:=eQ h;obtain ⟨a2,n2,rfl⟩:=eQ h.ah;have C:¬ (ps.length:Int)<(qs.length:Int):=Om0
  clear h g l j hb hp;generalize ps.length=pn at *;generalize qs.length=qn at *
  go_in
  exact Zz z.o
end
end Go.Proofs.Cl
namespace Go.SL
open RowKit
def jL (T:Tr) (d:Nat) (i:Nat):Tr:=ei T d (mn (dN (T d)) i)
def sI (T:Tr) (k d:Nat):Nat:=k+aY (dN (T d)).length-aY ((dN (T d)).length-1)
def Q5 (T:Tr) (d id:Nat) (nm:List UInt8):Tr:=ei T d (dN (T d)++[⟨id,nm⟩])
def VV (T:Tr) (k d:Nat):Nat:=k+aY (dN (T d)).length-aY ((dN (T d)).length+1)
def vW:Option sd->Bool
 | some (.dir _)=>Z'
 | _=>Y'
def nh (T:Tr) (ps:List (List UInt8)):Nat:=(iE (dN (T (aT T ps))) (bD ps)).getD 0
def pz (T:Tr) (k:Nat) (p1 p2:List UInt8):Int:=match bh p1,bh p2 with
 | some ps,Y qs=>if ps=[] then 11 else if (aO T 1 ps).1≠0 then (aO T 1 ps).1 else
  if kz ps qs=Z'/\vW (T (aO T 1 ps).2)=Z' then 11 else if ee T qs≠0 then ee T qs else
  iQ (sI T k (aT T ps)) (dN (jL T (aT T ps) (nh T ps) (aT T qs))) (bD qs)
 | _,_=>1
def L9 (T:Tr) (k:Nat) (p1 p2:List UInt8) (c:Int) (T':Tr) (k':Nat):Prop:=
 c=pz T k p1 p2/\(c=0->∃ ps qs,bh p1=Y ps/\bh p2=Y qs/\ps≠[]/\(aO T 1 ps).1=0 /\
  T'=Q5 (jL T (aT T ps) (nh T ps)) (aT T qs) (aO T 1 ps).2 (bD qs)/\k'=VV (jL T (aT T ps) (nh T ps)) (sI T k (aT T ps)) (aT T qs))
section
variable {n d d2 id i:Nat} {T:Tr} {L L2:List aL} {nm:List UInt8}
def Tidy.rename (h:Tidy n T) (c0:n<=3840) (r:T d=Y (.dir L)) (hi:i<L.length) (u:(L[i]).nd=id) (h0:0<id) (b0:id<n) (j:jL T d i d2=Y (.dir L2)) (hn:cK nm=Z') (hp:iE L2 nm=U) (hl:L2.length<3840):Tidy n (Q5 (jL T d i) d2 id nm):=by
 have g:jL T d i=ei T d (mn L i):=by unfold jL;rw [r];rfl
 have l:=h.w.rm r hi;have hE:nx L2:=l.mz _ _ (by rw [<- g];exact j);have C:=l.add (d:=d2) (L:=L2) (id:=id) (nm:=nm) (by rw [<- g];exact j) (hE.snoc Om0 Om0 hn hp hl);have y:Q5 (jL T d i) d2 id nm=ei (ei T d (mn L i)) d2 (L2++[⟨id,nm⟩]):=by unfold Q5;rw [j,g];rfl
 rw [y];refine C.tidy fun x=>?_
 by_cases e:x=id
 .subst e;simp [u]
 .have z:¬ x=(L[i]).nd:=by rw [u];exact e
  simp [e,z]
def Cw (l:T d=Y (.dir L)) (j:T d2=Y (.dir L2)):∃ g,jL T d i d2=Y (.dir g):=by
 unfold jL ei
 by_cases e:d2=d
 .exact ⟨_,by rw [e,bA]⟩
 .exact ⟨L2,by rw [aI _ _ e];exact j⟩
end
end Go.SL
namespace Go.Proofs.Cl
open RowKit SL Proofs.Nn Proofs.Ba Proofs.Su Proofs.Fs
attribute [local go_sem] Oper.semAt_some
section
variable {n:Nat} {x:Fx n} {b v pc qc k:Nat} {T:Tr} {w:K} {F:ai} {p1 p2:List UInt8}
def Fk (hn:n<=3840) (ht:Tidy n T) (N1:∀ id G0,T id=Y G0->0<id) (h:ag w (vA x b v T k*(ax pc p1*(ax qc p2*F)))) :
  Calls M 55 #[az v,az pc,az qc] w (Rw x b v (L9 T k p1 p2) (ax pc p1*(ax qc p2*F)) w):=by
 refine aF fun f2 HQ=>?_;have k0:w.cell? ⟨pc,0,U⟩=Y (Z (str p1))/\w.cell? ⟨qc,0,U⟩=Y (Z (str p2)):=⟨h.ah.cell 0,h.au.cell 0⟩
 have m0:=ae h;have HT:=ae ht
 have b0:Hid (∀ c,c≠0->c=pz T k p1 p2->∀ (w':K),aj w w'->ag w' (vA x b v T k*(ax pc p1*(ax qc p2*F)))->f2 (.panicked (jB c)) w'):=fun c g he w' d C=>
  HQ.out _ _ ⟨c,T,k,0,⟨he,fun h=>absurd h g⟩,fun h=>absurd h g,.inr ⟨g,rfl⟩,d,by decide,mx (ag.mY (x:=x) 0 (C.to (by unfold vA;ac_rfl:_=dx x b (eH T) k*(pt v (bq b n)*(ax pc p1*(ax qc p2*F)))))|>.to (by ac_rfl))⟩
 clear h ht
 cases C:bh p1 with
 | none=>
  have hk:=ae (fg (w:=w.drew) C);have g:(1:Int)=pz T k p1 p2:=by unfold pz;rw [C]
  have HC:=ae g;clear C HQ g
  go_enter func55,ntmps55
  go_wp2_with fail
  refine wp_region_held_drew (S:=fun w'=>w'.cell? ⟨pc,0,U⟩=Y (Z (str p1))/\w'.cell? ⟨qc,0,U⟩=Y (Z (str p2))) (by kernel_rfl) k0 (fun x0=>?_);refine tk 0 ?_;refine tk 2 ?_;refine tr 1 fun R0 hK=>?_
  go_simp
  go_wp2_with (go_at_call 31;refine hk.out.mono ?_;rintro e w4 ⟨rfl,d4,h4⟩;exact ⟨rfl,b0.out 1 (by decide) HC.out _ ((aj.refl w).drew.trans d4) (h4.cM m0.out.drew)⟩)
 | some ps=>
  cases g0:bh p2 with
  | none=>
   have hk:=ae (dJ (w:=w.drew) C);have D0:=ae fun w'=>fg (w:=w') g0;have g:(1:Int)=pz T k p1 p2:=by unfold pz;rw [C,g0]
   have HC:=ae g;clear C g0 HQ g
   go_enter func55,ntmps55
   go_wp2_with fail
   refine wp_region_held_drew (S:=fun w'=>w'.cell? ⟨pc,0,U⟩=Y (Z (str p1))/\w'.cell? ⟨qc,0,U⟩=Y (Z (str p2))) (by kernel_rfl) k0 (fun x0=>?_);refine tk 0 ?_;refine tk 2 ?_;refine tr 1 fun R0 hK=>?_
   go_simp
   go_wp2_with (go_at_call 31;refine hk.out.mono ?_;rintro e w4 ⟨S1,rfl,d4,h4⟩)
   have h5:=h4.under m0.out.drew;have k1:w4.cell? ⟨pc,0,U⟩=Y (Z (str p1))/\w4.cell? ⟨qc,0,U⟩=Y (Z (str p2)):=⟨h5.au.cell 0,h5.aA.cell 0⟩
   refine hK.out _ _ k1 (fun x0=>?_);clear hK R0;refine tr 3 fun R0 hK=>?_
   go_simp
   go_wp2_with (go_at_call 31;refine (D0.out _).mono ?_;rintro e w5 ⟨rfl,d5,h6⟩;exact ⟨rfl,b0.out 1 (by decide) HC.out _ (((aj.refl w).drew.trans d4).trans d5) (h6.cM h5).right⟩)
  | some qs=>
   obtain ⟨F0,hl⟩:=dO C;obtain ⟨K1,D1⟩:=dO g0;have hk:=ae (dJ (w:=w.drew) C);have D0:=ae fun w'=>dJ (w:=w') g0
   have o0:=ae (show pz T k p1 p2=if ps=[] then 11 else if (aO T 1 ps).1≠0 then (aO T 1 ps).1 else
    if kz ps qs=Z'/\vW (T (aO T 1 ps).2)=Z' then 11 else if ee T qs≠0 then ee T qs else
    iQ (sI T k (aT T ps)) (dN (jL T (aT T ps) (nh T ps) (aT T qs))) (bD qs) by unfold pz;rw [C,g0])
   have hy:=fun h0=>HT.out.walk ps HT.out.root.choose_spec h0;have HY:=ae hy;have HL:=ae hl;have L0:=ae D1;have a2:=ae K1;have c2:=ae N1;have f0:=ae fun Y0=>po (T:=T) (ps:=ps) Y0
   have e0:=ae fun (Y0:ps≠[]) (e1:(aO T 1 ps).1=0) (e5:pz T k p1 p2=0) (e6:Tidy n (Q5 (jL T (aT T ps) (nh T ps)) (aT T qs) (aO T 1 ps).2 (bD qs))) (w':K) (d:aj w w') (d1:ag w' (vA (x.more 14) b v (Q5 (jL T (aT T ps) (nh T ps)) (aT T qs) (aO T 1 ps).2 (bD qs)) (VV (jL T (aT T ps) (nh T ps)) (sI T k (aT T ps)) (aT T qs))*(ax pc p1*(ax qc p2*F))))=>
    HQ.out (I (H #[])) w' ⟨0,_,_,14,⟨e5.symm,fun _=>⟨ps,qs,C,g0,Y0,e1,rfl,rfl⟩⟩,fun _=>e6,.inl ⟨rfl,rfl⟩,d,by decide,d1⟩
   have h1:=ae fun (c:Int) (g:c≠0) (he:c=pz T k p1 p2) (f1:Nat) (hj:f1<=24) (T':Tr) (k':Nat) (w':K) (d:aj w w') (d1:ag w' (vA (x.more f1) b v T' k'*(ax pc p1*(ax qc p2*F))))=>HQ.out (.panicked (jB c)) w' ⟨c,T',k',f1,⟨he,fun h=>absurd h g⟩,fun h=>absurd h g,.inr ⟨g,rfl⟩,d,hj,d1⟩;clear C g0 HQ F0 hl K1 D1 hy N1
   go_enter func55,ntmps55
   go_wp2_with fail
   go_region_held3 (fun w'=>w'.cell? ⟨pc,0,U⟩=Y (Z (str p1))/\w'.cell? ⟨qc,0,U⟩=Y (Z (str p2)))
    (first|exact k0|exact k1|exact k2|go_keep)
    (first
     | (go_at_call 31;(with_reducible refine (D0.out _).mono ?_);rintro e w5 ⟨u2,rfl,d5,h6⟩;have h7:=h6.under h5;have k2:w5.cell? ⟨pc,0,U⟩=Y (Z (str p1))/\w5.cell? ⟨qc,0,U⟩=Y (Z (str p2)):=⟨h7.aA.cell 0,h7.aJ.cell 0⟩)
     | (go_at_call 31;(with_reducible refine hk.out.mono ?_);rintro e w4 ⟨S1,rfl,d4,h4⟩;have h5:=h4.under m0.out.drew;have k1:w4.cell? ⟨pc,0,U⟩=Y (Z (str p1))/\w4.cell? ⟨qc,0,U⟩=Y (Z (str p2)):=⟨h5.au.cell 0,h5.aA.cell 0⟩))
   rename_i x0;have j:=h7.to (by ac_rfl:_=vA x b v T k*(bR S1 ps*(bR u2 qs*(ax pc p1*(ax qc p2*F)))));obtain ⟨l,r,rfl⟩:=eQ j.ah;obtain ⟨u,y,rfl⟩:=eQ j.au;have hw:=ae (gw HT.out HL.out eY j);have D5:=ae (((aj.refl w).drew.trans d4).trans d5);have H8:=ae j;clear x0 k0 k1 k2 h4 h5 h6 h7 j d4 d5 hk D0 m0
   by_cases hps:ps=[]
   .have g1:=ae (show (11:Int)=pz T k p1 p2 by rw [o0.out,if_pos hps])
    have T0:=ae fun w=>cC w 11 (by decide);have m2:=ae (b0.out 11 (by decide) g1.out _ D5.out (H8.out.to (by ac_rfl:_=(bR (Q l ps.length r) ps*bR (Q u qs.length y) qs)*(vA x b v T k*(ax pc p1*(ax qc p2*F))))).right);have j2:(ps.length:Int)=0:=by rw [hps];rfl
    clear g1 e0 b0 f0 o0 H8 hw HY HL L0 D5 hps;generalize ps.length=ln at *
    go_wp2_with fail
    refine (T0.out _).mono ?_;rintro e w9 ⟨rfl,rfl⟩;exact ⟨rfl,m2.out⟩
   .have j2:¬ (ps.length:Int)=0:=by have:=List.length_pos_iff.2 hps;omega
    have d0:=ae (show _=_ from o0.out.trans (if_neg hps));have p0:=ae hps;clear hps o0;obtain ⟨pw,O1⟩:∃ pw,aO T 1 ps=pw:=⟨_,rfl⟩
    rw [O1] at hw HY d0 e0 f0;clear O1;obtain ⟨wc,id⟩:=pw;dsimp only at hw HY d0 f0 e0
    go_wp2_with fail
    refine hw.out.mono ?_;rintro e w6 ⟨he,d6,h6⟩;clear hw;have D6:=ae (D5.out.trans d6);clear D5 d6 H8;rcases he with ⟨rfl,rfl⟩|⟨g,rfl⟩
    .obtain ⟨G0,hy⟩:=HY.out rfl
     have BL:=ae fun (w':K) (h':ag w' (bR (Q l ps.length r) ps*(bR (Q u qs.length y) qs*(vA x b v T k*(ax pc p1*(ax qc p2*F))))))=>Jg p0.out HL.out L0.out h';have ND:=ae fun (w':K) (h':ag w' (vA x b v T k*(bR (Q l ps.length r) ps*(bR (Q u qs.length y) qs*(ax pc p1*(ax qc p2*F))))))=>jU hy h';have h7:=h6.to (by ac_rfl:_=bR (Q l ps.length r) ps*(bR (Q u qs.length y) qs*(vA x b v T k*(ax pc p1*(ax qc p2*F)))));have H7:=ae h7;have K0:=ae hy
     have B1:G0.af.kd=if vW (T id)=Z' then 2 else 1:=by
      rw [hy]
      cases G0 with
      | dir L=>rfl
      | file f=>exact HT.out.files _ _ hy
     have n0:=ae B1;clear h6 h7 B1 hy HY;obtain ⟨cc,t1⟩:∃ cc,(kz ps qs && vW (T id))=cc:=⟨_,rfl⟩
     have i0:=ae t1;clear t1
     go_upto_region 4 with (fail)
     go_cut [28] from 19 to 28 (fun u28 wx=>u28 = .bool cc/\aj w wx/\ag wx (vA x b v T k*(bR (Q l ps.length r) ps*(bR (Q u qs.length y) qs*(ax pc p1*(ax qc p2*F))))))
     case first=>
      have l0:=ae (BL.out _ H7.out)
      cases hb:kz ps qs with
      | false=>
       have jD:cc=Y':=by rw [<- i0.out,hb];rfl
       rw [hb] at l0;subst jD;clear BL ND e0 d0 i0 hb n0 f0 b0
       go_wp2_with fail
       refine l0.out.mono ?_;rintro e w8 ⟨rfl,d8,j⟩;have HF:=ae (show aj w w8/\ag w8 (vA x b v T k*(bR (Q l ps.length r) ps*(bR (Q u qs.length y) qs*(ax pc p1*(ax qc p2*F))))) from ⟨D6.out.trans d8,j.to (by ac_rfl)⟩);clear l0 j d8
       go_wp2_with fail
       go_meet
       exact ⟨rfl,HF.out⟩
      | true=>
       have jD:cc=vW (T id):=by rw [<- i0.out,hb];rfl
       rw [hb] at l0;clear BL e0 d0 i0 hb f0 b0
       go_wp2_with fail
       refine l0.out.mono ?_;rintro e w8 ⟨rfl,d8,j⟩;have hn:=ae (ND.out w8 (j.to (by ac_rfl)));have D8:=ae (D6.out.trans d8);have i1:=ae jD;clear l0 j d8 ND jD
       go_wp2_with fail
       refine hn.out.mono ?_;rintro e w9 ⟨t2,rfl,V1,W1,r2,s2,d9,h9⟩;obtain ⟨V0,-,-⟩:=uN V1 w9;rw [W1,n0.out,<- i1.out] at V0;have HF:=ae (show aj w w9/\ag w9 (vA x b v T k*(bR (Q l ps.length r) ps*(bR (Q u qs.length y) qs*(ax pc p1*(ax qc p2*F))))) from ⟨D8.out.trans d9,h9⟩);generalize ints t2.l=yl at *;clear hn V1 W1 r2 s2 d9 h9 D8 i1 n0 K0
       cases cc with
       | true=>
        rw [if_pos rfl] at V0
        go_wp2_with fail
        go_meet
        exact ⟨rfl,HF.out⟩
       | false=>
        rw [if_neg (by decide)] at V0
        go_wp2_with fail
        go_meet
        exact ⟨rfl,HF.out⟩
     case rest=>
      obtain ⟨rfl,d7,j⟩:=hcut
      cases cc with
      | true=>
       have j0:(11:Int)=pz T k p1 p2:=by rw [d0.out,if_neg (by decide),if_pos (by simpa using i0.out)]
       have g2:=ae (b0.out 11 (by decide) j0 _ d7 (j.to (by ac_rfl:_=(bR (Q l ps.length r) ps*bR (Q u qs.length y) qs)*(vA x b v T k*(ax pc p1*(ax qc p2*F))))).right);have T0:=ae fun w=>cC w 11 (by decide);clear j0 j d7 e0 d0 f0 b0
       go_wp2_with fail
       refine (T0.out _).mono ?_;rintro e w9 ⟨rfl,rfl⟩;exact ⟨rfl,g2.out⟩
      | false=>
       have N0:=ae (show pz T k p1 p2=if ee T qs≠0 then ee T qs else iQ (sI T k (aT T ps)) (dN (jL T (aT T ps) (nh T ps) (aT T qs))) (bD qs) by rw [d0.out,if_neg (by decide),if_neg (by have:=i0.out;simpa using this)]);have w1:=ae (qh HT.out L0.out (fun v2 P hW=>eQ hW) eY (j.to (by ac_rfl:_=vA x b v T k*(bR (Q u qs.length y) qs*(bR (Q l ps.length r) ps*(ax pc p1*(ax qc p2*F)))))));have D7:=ae d7;clear j d7 d0 i0 H7 BL ND n0 D6
       go_wp2_with fail
       refine w1.out.mono ?_;rintro e w9 ⟨he,d9,h9⟩;have D9:=ae (D7.out.trans d9);clear w1 d9 D7;rcases he with ⟨W0,rfl⟩|⟨g,rfl⟩
       .obtain ⟨E1,L2,v1,n2⟩:=oB HT.out W0
        have Z0:=Af a2.out E1;obtain ⟨R1,L,i,hi,hd,hp,x1⟩:=f0.out p0.out (by first|rfl|trivial);have X0:nh T ps=i:=by unfold nh;rw [hd];show (iE L (bD ps)).getD 0=i;rw [hp];rfl
        have c1:jL T (aT T ps) i=ei T (aT T ps) (mn L i):=by unfold jL;rw [hd];rfl
        have F0:sI T k (aT T ps)=k+aY L.length-aY (L.length-1):=by unfold sI;rw [hd];rfl
        obtain ⟨z,hM⟩:=Cw (i:=i) hd v1;have H1:pz T k p1 p2=iQ (sI T k (aT T ps)) z (bD qs):=by rw [N0.out,if_neg (by rw [W0];simp),X0,hM];rfl
        have y1:=c2.out _ _ K0.out;have i2:=HT.out.lt K0.out;have m1:=ae fun (e1:iE z (bD qs)=U) (e2:z.length<3840)=>HT.out.rename hn hd hi x1 y1 i2 hM Z0 e1 e2;have q1:nx z:=(HT.out.w.rm hd hi).mz _ _ (by rw [<- c1];exact hM);rw [X0] at e0;have l1:=ae (e0.out p0.out (by first|rfl|trivial));have z1:VV (jL T (aT T ps) i) (sI T k (aT T ps)) (aT T qs)=sI T k (aT T ps)+aY z.length-aY (z.length+1):=by unfold VV;rw [hM];rfl
        have A1:Q5 (jL T (aT T ps) i) (aT T qs) id (bD qs)=ei (jL T (aT T ps) i) (aT T qs) (z++[⟨id,bD qs⟩]):=by unfold Q5;rw [hM];rfl
        have X1:=ae z1;have Y1:=ae A1;have n1:=ae fun (w':K) (P:ai) (h':ag w' (vA x b v T k*(bR (Q l ps.length r) ps*P)))=>oj HT.out HL.out p0.out eY R1 hd hp h';have hB:=h9.alloc (V #[W N (aT T qs:Nat),Z (str (bD qs))] 104 (0,0));have dB:=ae (D9.out.alloc (V #[W N (aT T qs:Nat),Z (str (bD qs))] 104 (0,0)));have hC:=hB.to (by ac_rfl:_=vA x b v T k*(bR (Q l ps.length r) ps*(pt w9.heap.size (V #[W N (aT T qs:Nat),Z (str (bD qs))] 104 (0,0))*(bR (Q u qs.length y) qs*(ax pc p1*(ax qc p2*F))))));have HC:=ae hC;have HM:=ae hM;have HE:=ae q1;have HN:=ae Z0;have j1:=ae H1;have b2:=ae c1;have Z1:=ae F0;clear hB hC h9 v1 n2 hd hp x1 R1 X0 c1 F0 hM H1 q1 Z0 z1 A1 e0 N0 f0 W0 E1 D9 hi
        go_wp2_with fail
        generalize w9.alloc (V #[W N (aT T qs:Nat),Z (str (bD qs))] 104 (0,0))=o2 at *;generalize w9.heap.size=sp at *;refine (n1.out o2 _ HC.out).mono ?_;rintro e U1 ⟨he,o1,j0⟩;obtain rfl:=he.elim (fun h=>h.2) (fun h=>absurd rfl h.1);rw [<- b2.out,<- Z1.out] at j0;have r0:=j0.to (by ac_rfl:_=vA (x.more 9) b v (jL T (aT T ps) i) (sI T k (aT T ps))*(pt sp (V #[W N (aT T qs:Nat),Z (str (bD qs))] 104 (0,0))*((bR (Q l ps.length r) ps*bR (Q u qs.length y) qs)*(ax pc p1*(ax qc p2*F)))));have s0:U1.cell? ⟨sp,0,U⟩=Y (W N (aT T qs:Nat)):=r0.ah.cell 0;have s1:U1.cell? ⟨sp,1,U⟩=Y (Z (str (bD qs))):=r0.ah.cell 1;have ha:=ae (uQ (x:=x.more 9) (child:=id) y1 (by omega) HM.out HE.out HN.out r0);have H0:=ae (dB.out.trans o1);clear he j0 r0 o1 dB HC n1;generalize aT T qs=d2 at *;generalize bD qs=nm at *
        go_wp2_with fail
        refine ha.out.mono ?_;rintro e q2 hq;rcases hq with ⟨c0,rfl,q0,u0⟩|⟨c0,rfl,q0,u0⟩
        .have L1:iE z nm=U:=by
          cases hp:iE z nm with
          | none=>rfl
          | some q=>unfold iQ at c0;rw [hp] at c0;exact absurd c0 (show ¬ (6:Int)=0 by decide)
         have l2:z.length<3840:=by
          unfold iQ at c0;rw [L1] at c0;simp only [J7,Bool.false_eq_true,if_false] at c0
          split at c0
          .exact absurd c0 (by decide)
          .omega
         have r1:=m1.out L1 l2;have S0:=(u0.to (by ac_rfl:_=(pt sp (V #[W N (d2:Int),Z (str nm)] 104 (0,0))*(bR (Q l ps.length r) ps*bR (Q u qs.length y) qs))*(vA (x.more 14) b v (ei (jL T (aT T ps) i) d2 (z++[⟨id,nm⟩])) (sI T k (aT T ps)+aY z.length-aY (z.length+1))*(ax pc p1*(ax qc p2*F))))).right;rw [<- Y1.out,<- X1.out] at S0;have h2:=ae (l1.out (j1.out.trans c0) r1 q2 (H0.out.trans q0) S0);clear ha u0 S0 r1 q0 H0 l1 m1 h1 b0 s0 s1
         go_wp2_with fail
         go_end0
         exact h2.out
        .exact ⟨rfl,h1.out _ c0 j1.out.symm 9 (by decide) _ _ _ (H0.out.trans q0) (u0.to (by ac_rfl:_=(pt sp (V #[W N (d2:Int),Z (str nm)] 104 (0,0))*(bR (Q l ps.length r) ps*bR (Q u qs.length y) qs))*(vA (x.more 9) b v (jL T (aT T ps) i) (sI T k (aT T ps))*(ax pc p1*(ax qc p2*F))))).right⟩
       .exact ⟨rfl,b0.out _ g (by rw [N0.out,if_pos g]) _ D9.out (h9.to (by ac_rfl:_=(bR (Q l ps.length r) ps*bR (Q u qs.length y) qs)*(vA x b v T k*(ax pc p1*(ax qc p2*F))))).right⟩
    .exact ⟨rfl,b0.out _ g (by rw [d0.out,if_pos g]) _ D6.out (h6.to (by ac_rfl:_=(bR (Q l ps.length r) ps*bR (Q u qs.length y) qs)*(vA x b v T k*(ax pc p1*(ax qc p2*F))))).right⟩
end
section
variable {t:Pl} {q:Dk t.n} {s s':Ds} {T:Tr} {k m:Nat} {O:jj} {w:K} {F:ai} {p1 p2:List UInt8}
def vq (g:kM t q s T k) (z:s.B<=1000000) (h:ag w (cX t s m O*F)) :
  Calls M 20 #[az t.f,Z (str p1),Z (str p2)] w (OC t q m s O (L9 T k p1 p2) F w):=by
 refine aF fun d0 r=>?_;have j:=(h.alloc (V #[Z (str p1)] 9 (0,0))).alloc (V #[Z (str p2)] 9 (0,0));simp only [A2] at j;have u:=ae (((aj.refl w).alloc (V #[Z (str p1)] 9 (0,0))).alloc (V #[Z (str p2)] 9 (0,0)))
 have hd:=ae fun (pc qc:Nat) (w':K) (h':ag w' (cX t s m O*((ax pc p1*ax qc p2)*F)))=>
  kF g z 55 #[az pc,az qc] (ax pc p1*ax qc p2) (L9 T k p1 p2) (enters func55 Kr0 rfl)
   (fun x v b w1 b0 hw=>(Fk (x:=x) (b:=b) (v:=v) (k:=k) (pc:=pc) (qc:=qc) (F:=dy t m O*b0) (p1:=p1) (p2:=p2) g.hn g.ty g.pos (hw.u00)).mono fun e w' hq=>by simpa only [ay] using hq) h'
 have l:=ae j;clear h j g z
 go_in
 go_wp2_with fail
 generalize (w.alloc (V #[Z (str p1)] 9 (0,0))).alloc (V #[Z (str p2)] 9 (0,0))=w1 at *;generalize w.heap.size=pc at *;refine (hd.o pc (pc+1) _ (l.o.to (by unfold ax;ac_rfl))).mono ?_;rintro e w2 ⟨c,T',k',s',C,rfl,d2,hr,y⟩;have c0:=ae (r.o _ _ ⟨c,T',k',s',C,rfl,u.o.trans d2,hr,(y.t00 ((ax pc p1*ax (pc+1) p2)*(cX t s' m O*F))).right⟩);clear hd u l d2 hr C y r
 exact Zz c0.o
end
end Go.Proofs.Cl
namespace Go.SL
open RowKit
structure bN (T:Tr) (O:List (Int × (Nat × Nat))):Prop where
 fl:∀ fd o,aM O fd=some o->(∃ f,T o.1=some (.file f))/\o.2<=122880
 len:O.length<=1000
def bN.nil (T:Tr):bN T []:=⟨fun fd o h=>(by cases h),Nat.zero_le _⟩
def bN.tree {T T':Tr} {O:List (Int × (Nat × Nat))} (h:bN T O) (r:∀ fd o f,aM O fd=Y o->T o.1=Y (.file f)->∃ j,T' o.1=Y (.file j)):bN T' O:=
 ⟨fun fd o g=>by
  obtain ⟨⟨f,u⟩,l⟩:=h.fl fd o g;exact ⟨r fd o f g u,l⟩,h.len⟩
def bN.set {T:Tr} {O:List (Int × (Nat × Nat))} {fd:Int} {o:Nat × Nat} (h:bN T O) (r:∃ f,T o.1=Y (.file f)) (j:o.2<=122880) (l:(im O fd o).length<=1000):bN T (im O fd o):=by
 refine ⟨fun u y g=>?_,l⟩;unfold im at g;rw [nF] at g
 split at g
 .cases g;exact ⟨r,j⟩
 .exact h.fl _ _ g
def bN.shut {T:Tr} {O:List (Int × (Nat × Nat))} {fd:Int} (h:bN T O):bN T (Go.SL.del O fd):=by
 refine ⟨fun j l g=>?_,?_⟩
 .rw [vE] at g
  split at g
  .cases g
  .exact h.fl _ _ g
 .unfold del
  exact Nat.le_trans (List.length_filter_le _ _) h.len
end Go.SL
namespace Go.Proofs.Cl
open RowKit SL Proofs.Nn Proofs.Ba Proofs.Su Proofs.Fs
attribute [local go_sem] Oper.semAt_some
section
variable {t:Pl} {S:Hp} {J:Jr} {D D':aB} {fc m:Nat}
def MJ (b0:J.flush D=(0,J,D')) (hJ:J.Ok) (e0:D'.Ok) :
  Sq t S (.map (Y m)) J D 120 #[az fc] (aZ t fc) (fun c d0 G'=>c=0/\d0=⟨0,[],[],(J,D')⟩/\G'=aZ t fc):=by
 intro v b j r g;refine aF fun i0 u=>?_;have z:ag j (QI t.s t.j t.d t.n t.P S (J,D)*(aU 177 5 xA b (Aa t S).rd 0 [] []*(pt t.f (gS t (.map (Y m)))*(pt v (bq b t.n)*(al xA*(aZ t fc*r)))))):=g.to (by unfold dG;show _=(Aa t S).RI (J,D)*_;ac_rfl);obtain ⟨h0,C⟩:=nK z;have f0:j.cell? ⟨fc,0,U⟩=Y (az t.f):=(g.to (by unfold aZ;ac_rfl:_=pt fc (V #[az t.f] 28 (0,0))*(pt t.f (gS t (.map (Y m)))*(pt v (bq b t.n)*(dG (Aa t S) xA b ⟨0,[],[],(J,D)⟩*(al xA*r)))))).cell 0;have s0:j.cell? ⟨t.f,0,U⟩=Y (az t.s):=g.cell 0;have hs:=ae (OK j S t.s t.j t.d t.n t.P J D _ C h0.2);have c0:=ae cR;have HF:=ae b0;clear g z C b0
 go_in
 go_wp2_with fail
 apply hs.o.mono;rintro e w2 ⟨rfl,l,y⟩;rw [HF.o] at l ⊢;have h4:=C1 (x:=(J,D')) hJ e0 l;have g0:=ae (u.o (I (H #[])) w2 ⟨0,xA,⟨0,[],[],(J,D')⟩,aZ t fc,⟨rfl,rfl,rfl⟩,.inl ⟨rfl,rfl⟩,y,h4.to (by unfold dG;show (Aa t S).RI (J,D')*_=_;ac_rfl)⟩);clear l h4 u hs y
 go_wp2_with fail
 apply (c0.o _).mono;rintro e w3 ⟨rfl,rfl⟩
 exact Zy g0.o
end
section
variable {t:Pl} {q:Dk t.n} {s:Ds} {T:Tr} {k m:Nat} {O:jj} {w:K} {F:ai}
def VO (t:Pl) (q:Dk t.n) (m:Nat) (s:Ds) (T:Tr) (k:Nat) (O:jj) (F:ai) (w:K) (e:Ending) (w':K):Prop:=
 e = I (W N 0)/\aj w w'/\kM t q ⟨s.J,s.D.aH,s.has,s.B+1⟩ T k/\ag w' (cX t ⟨s.J,s.D.aH,s.has,s.B+1⟩ m O*F)
def QE (g:kM t q s T k) (hB:s.B<=1000000) (h:ag w (cX t s m O*F)) :
  Calls M 63 #[az t.f] w (VO t q m s T k O F w):=by
 refine aF fun f0 z=>?_;obtain ⟨J,D,has,B⟩:=s;have u:q.Q B J D has:=g.at_.q;have j:=q.inv u;have b0:kM t q ⟨J,D.aH,has,B+1⟩ T k:=⟨⟨q.flush u hB,g.at_.has⟩,g.ty,g.h4,g.hn⟩
 have hA:=h.alloc (V #[az t.f] 28 (0,0));have C:=ae ((aj.refl w).alloc (V #[az t.f] 28 (0,0)));obtain ⟨S,hS⟩:=uw (hA.to (by unfold cX;ac_rfl:_=lI t ⟨J,D,has,B⟩*(pt t.f (gS t (.map (Y m)))*(pt w.heap.size (V #[az t.f] 28 (0,0))*(mp m (lf O)*F)))))
 have hd:=ae (Ea t _ S J D (.map (Y m)) 120 #[az w.heap.size] (aZ t w.heap.size) (mp m (lf O)*F) (fun c r l=>c=0/\r=⟨0,[],[],(J,D.aH)⟩/\l=aZ t w.heap.size) j.ok j.Kk (enters func120 Kr0 rfl) (MJ j.flush j.ok j.aH.Kk)
  (by rintro c r l ⟨-,rfl,-⟩ - - e0;exact absurd rfl e0) (hS.to (by unfold aZ;ac_rfl)))
 have y:=ae b0;clear h hA hS g u j hB b0
 go_in
 go_wp2_with fail
 apply hd.o.mono;rintro e w2 ⟨c,r,l,S',J',D',⟨rfl,rfl,rfl⟩,-,rfl,d2,hs,-,c0⟩;have e:=c0 (.inr rfl);simp only [Prod.mk.injEq] at e;obtain ⟨rfl,rfl⟩:=e;have d0:=ae (z.o _ _ ⟨rfl,C.o.trans d2,y.o,((mC (s:=⟨J,D.aH,has,B+1⟩) (hs.u00)).to (by unfold cX;ac_rfl:lI t ⟨J,D.aH,has,B+1⟩*(pt t.f (gS t (.map (Y m)))*(aZ t w.heap.size*(mp m (lf O)*F)))=aZ t w.heap.size*(cX t ⟨J,D.aH,has,B+1⟩ m O*F))).right⟩);clear hd d2 hs c0 z y C
 exact Zz d0.o
end
def Po (w:K) (y r:Addr) :
    CallsD M 107 #[G (Y y),G (Y r)] .returning w fun e u w'=>e = I (H #[])/\u = .returning/\w=w':=by
  have j:=vt w;refine callsD_of_wpS func107 rfl fun g z l=>?_;apply wpS_seq;apply wpS_region
  simp only [ntmps107,List.size_toArray,List.length_cons,List.length_nil,Nat.reduceAdd,Nat.reduceSub,Array.replicate_succ,
     Array.replicate_zero,List.push_toArray,List.append_toArray,List.nil_append,List.cons_append]
  simp [wpOpsS,go_sem,recoverD,l,Exit.thenS];apply j.mono;rintro e C ⟨rfl,rfl⟩;refine wpS_of_wp ?_
  go_wp2
  cases g
  simp_all [bodyPostS,results,Tryz.results107]
def Ec {w:K} {g:Array E} {a b:Nat} {v e:E} (j:g[6]?=Y (az a)) (l:g[7]?=Y (az b)) (r:w.cell? ⟨a,0,U⟩=Y v) (u:w.cell? ⟨b,0,U⟩=Y e) :
  (results Tryz.f57 g).run M w = .ok (H #[v,e]) w:=by
 have y:g.getD 6 undef=az a:=by simp [j]
 have z:g.getD 7 undef=az b:=by simp [l]
 simp [results,Tryz.results57,j,l,go_sem,r,u]
def G4 {w:K} {g:Array E} {a b:Nat} {v e:E} {R:Ending->K->Prop} (j:g[6]?=Y (az a)) (l:g[7]?=Y (az b)) (y:w.cell? ⟨a,0,U⟩=Y v) (z:w.cell? ⟨b,0,U⟩=Y e) (r:R (I (H #[v,e])) w) :
  bodyPostD M Tryz.f57 R Exit.ret { tmps:=g,defers:=[{ target:=.fn (.func 107) #[G (Y ⟨a,0,U⟩),G (Y ⟨b,0,U⟩)],args:=#[] }] } w:=by
 refine leaves_cons (f:=107) (args:=#[G (Y ⟨a,0,U⟩),G (Y ⟨b,0,U⟩)]) Si0 (by simp [go_sem]) ?_;apply (Po w ⟨a,0,U⟩ ⟨b,0,U⟩).mono;rintro e u C ⟨rfl,rfl,rfl⟩;exact ⟨_,Ec j l y z,r⟩
section
variable {t:Pl} {S:Hp} {J:Jr} {D:aB} {mv:E} {M1:gD (Jr × aB)}
def Fv (h4:4<=t.n) (hn:t.n<=3840) (y:dM (ji (Aa t S).ask) ⟨0,[],[],(J,D)⟩=(.ok (),M1)) :
  Sq t S mv J D 61 #[] emp (fun c c0 z=>c=0/\c0=M1/\z=emp):=by
 intro v b l C g;refine aF fun e0 r=>?_;have v0:l.cell? ⟨v,0,U⟩=Y (az b):=g.ah.cell 0;have v1:l.cell? ⟨v,1,U⟩=Y (W N (t.n:Int)):=g.ah.cell 1;have j:=ae (JG (Aa t S) (Kq t S) t.n h4 hn b ⟨0,[],[],(J,D)⟩ l xA _ (g.t00 (dG (Aa t S) xA b ⟨0,[],[],(J,D)⟩*(al xA*(pt t.f (gS t mv)*(pt v (bq b t.n)*(emp*C)))))));rw [y] at j;have b0:=ae cR;clear g y
 go_in
 go_wp2_with fail
 apply j.o.mono;rintro e w2 ⟨S',-,d2,rfl,u⟩;have d0:=ae (r.o (I (H #[])) w2 ⟨0,S',M1,emp,⟨rfl,rfl,rfl⟩,.inl ⟨rfl,rfl⟩,d2,u.u00⟩);have hc:Rs.code (.ok ():Rs Unit)=0:=rfl;rw [hc];clear u r j d2 v0 v1
 go_wp2_with fail
 apply (b0.o _).mono;rintro e w3 ⟨rfl,rfl⟩
 exact Zy d0.o
end
structure Lq (n P B:Nat) (J:Jr) (D:aB) (has:Has):Prop where
 inv:fP J D has
 jn:J.n=(n:Int)
 bound:tq J
 jP:J.P=P
 sq:J.sq<=(B:Int)
def Lq.zX {n P B:Nat} {J:Jr} {D:aB} {has:Has} {L:Bl} (C:5*n+240<=2*P) (h:Lq n P B J D has) (z:B<=1000000) (u:Batch (n:Int) L):∃ j D',eZ J D Z' L=(0,j,D')/\Lq n P (B+1) j D' (nt has L):=by
 have g:Batch J.n L:=by rw [h.jn];exact u
 have y:J.sq<281474976710655:=by have:=h.sq;omega
 have r:=Dg h.inv h.bound (by rw [h.jn,h.jP];omega) g;obtain ⟨D',l⟩:=AS h.inv g y r;refine ⟨_,D',l.run,l.inv,?_,DY h.inv h.bound g r,h.jP,?_⟩
 .show J.n=_;exact h.jn
 .show J.sq+1<=_;have:=h.sq;omega
def Wy (n P:Nat) (j:5*n+240<=2*P):Dk n:=
 ⟨Lq n P,fun h=>h.inv,fun h=>h.jn,fun h r=>⟨h.inv.cr r,h.jn,h.bound,h.jP,h.sq⟩,fun h g _ l=>h.zX j g l,fun h g=>⟨h.inv.aH,h.jn,h.bound,h.jP,by have:=h.sq;omega⟩⟩
def sr:Has:=fun _=>U
def yk {n:Nat} (r:2<=n):Tidy n gJ:=by
 have g:∀ id L,gJ id=Y (.dir L)->L=[]:=by
  intro id L h;unfold gJ at h
  split at h
  .injection h with h;injection h with h;exact h.symm
  .cases h
 refine ⟨⟨[],rfl⟩,fun id L h=>?_,fun id f h=>?_,fun id=>?_,fun id h=>?_⟩
 .rw [g _ _ h];exact nx.nil
 .unfold gJ at h
  split at h
  .injection h with h;cases h
  .cases h
 .have e:refs n gJ id=0:=by
   unfold refs
   have:∀ l:List Nat,(l.map fun d=>(dN (gJ d)).countP fun e=>e.nd == id).sum=0:=by
    intro l
    induction l with
    | nil=>rfl
    | cons a l j=>
     rw [H2,List.sum_cons,j];have:dN (gJ a)=[]:=by unfold gJ;split <;> rfl
     rw [this];rfl
   exact this _
  rw [e];unfold gJ
  split
  .rename_i h;subst h;rfl
  .rfl
 .unfold gJ;rw [if_neg Om0]
def OH:eH gJ=fun id=>if id=1 then Y (lx 2) else U:=by
 funext id;unfold eH gJ
 split
 .show Y (sd.dir []).af=_
  have:=GC (kd:=2) (.inr rfl);rw [show lQ 2 = .dir [] from rfl] at this;rw [this]
 .rfl
section
variable {t:Pl} {q:Dk t.n} {w:K} {F:ai} {J:Jr} {D:aB} {m:Nat}
def SK (t:Pl) (q:Dk t.n) (m:Nat) (F:ai) (w:K) (e:Ending) (w':K):Prop:=
 ∃ s,e = I (H #[])/\aj w w'/\s.B<=3/\kM t q s gJ (t.n-2)/\ag w' (cX t s m []*F)
def Qz (h4:4<=t.n) (hn:t.n<=3840) (hq:q.Q 1 J D sr) (h:ag w (pt t.f (gS t (.map (Y m)))*(mp m (lf [])*(lI t ⟨J,D,sr,1⟩*F)))) :
  Calls M 27 #[az t.f,.func (.func 61) #[] #[]] w fun e w'=>∃ s,e = I (W N 0)/\aj w w'/\s.B<=2/\kM t q s gJ (t.n-2)/\ag w' (cX t s m []*F):=by
 have hG:Go.SL.Good t.n (jz sr) (IJ J D) ⟨0,[],[],(J,D)⟩:=⟨rfl,IJ.start J D,fun i l _ h=>absurd h (by simp [aM]),fun i l _ h=>absurd h (by simp [aM]),fun p hp=>absurd hp Si0⟩
 obtain ⟨M1,he,C⟩:=Ep (yG hq) Om0 h4 hn hG
 have g0:M1.W.length<=24:=by
  have:=(BF (ask:=Sn)).run he;simp at this;omega
 rw [<- OH] at C;obtain ⟨S,hS⟩:=uw (h.t00 (lI t ⟨J,D,sr,1⟩*(pt t.f (gS t (.map (Y m)))*(mp m (lf [])*F))));have hi:=q.inv hq
 have d0:(M1.W.map Prod.fst).Nodup->M1.W≠[]->∃ r g D',M1.s=(J,{ D with cr:=r })/\q.Q 1 J { D with cr:=r } sr/\Batch (t.n:Int) (iu M1.W)/\eZ J { D with cr:=r } Z' (iu M1.W)=(0,g,D')/\q.Q 2 g D' (nt sr (iu M1.W)):=by
  intro b0 y;obtain ⟨u,r,z⟩:=C.gC.inv;have hb:=xQ C b0 g0 (List.length_pos_iff.2 y);obtain ⟨g,D',e3,e4⟩:=q.zX (q.cr hq r) De0 hb;exact ⟨r,g,D',Prod.ext u z,q.cr hq r,hb,e3,e4⟩
 refine (Ea t w S J D (.map (Y m)) 61 #[] emp (mp m (lf [])*F) (fun c j G'=>c=0/\j=M1/\G'=emp) hi.ok hi.Kk (enters func61 Kr0 rfl) (Fv h4 hn he) ?_ (hS.to (by rw [cl];ac_rfl))).mono ?_
 .rintro c j G' ⟨rfl,rfl,rfl⟩-b0 y
  obtain ⟨r,g,D',u,z,e3,e4,-⟩:=d0 b0 y;refine ⟨sr,g,D',?_,?_,e3,?_⟩
  .rw [u];exact q.inv z
  .rw [u];exact q.jn z
  .rw [u];exact e4
 .rintro e w' ⟨c,j,G',S',g,D',⟨rfl,rfl,rfl⟩,b0,rfl,d,hs,e0,f0⟩
  by_cases y:j.W=[]
  .obtain ⟨u,r,z⟩:=C.gC.inv
   have e:=f0 (.inr y);rw [e] at u z;have hr:Ds.Rd ⟨J,D,sr,1⟩ ⟨g,D',sr,1⟩:=⟨u,⟨r,z⟩,rfl,rfl⟩
   refine ⟨⟨g,D',sr,1⟩,rfl,d,Nat.le_succ 1,⟨Ry.rd (s:=⟨J,D,sr,1⟩) ⟨hq,tR C y⟩ hr,yk Om0,h4,hn⟩,?_⟩;exact (mC (s:=⟨g,D',sr,1⟩) (hs.to (by rw [cl];ac_rfl))).to (by unfold cX;ac_rfl:lI t ⟨g,D',sr,1⟩*(pt t.f (gS t (.map (Y m)))*(mp m (lf [])*F))=_)
  obtain ⟨r',J2,D2,f1,f2,f3,f4,f5⟩:=d0 b0 y;have c0:=e0 rfl y;rw [f1] at c0;have c0:eZ J { D with cr:=r' } Z' (iu j.W)=(0,g,D'):=c0;rw [c0] at f4;simp only [Prod.mk.injEq,true_and] at f4;obtain ⟨rfl,rfl⟩:=f4;refine ⟨⟨g,D',nt sr (iu j.W),2⟩,rfl,d,B3 2,⟨⟨f5,wJ C b0⟩,yk Om0,h4,hn⟩,?_⟩;exact (mC (s:=⟨g,D',nt sr (iu j.W),2⟩) (hs.to (by rw [cl];ac_rfl))).to (by unfold cX;ac_rfl:lI t ⟨g,D',nt sr (iu j.W),2⟩*(pt t.f (gS t (.map (Y m)))*(mp m (lf [])*F))=_)
def Jy (h4:4<=t.n) (hn:t.n<=3840) (hq:q.Q 1 J D sr) (h:ag w (pt t.f (gS t (.map (Y m)))*(mp m (lf [])*(lI t ⟨J,D,sr,1⟩*F)))) :
  Calls M 60 #[az t.f] w (SK t q m F w):=by
 refine aF fun d0 r=>?_;have e0:=nH M;have hd:=ae (Qz h4 hn hq h);have u:=ae cR;clear h hq h4 hn
 go_in
 go_wp2_with fail
 apply hd.o.mono;rintro e w2 ⟨s,rfl,d2,C,g,z⟩;have b0:=ae (QE g Om0 z);have j:=ae d2;have l:=ae C;clear hd d2 g z C
 go_wp2_with fail
 apply (u.o _).mono;rintro e w3 ⟨rfl,rfl⟩
 go_wp2_with fail
 apply b0.o.mono;rintro e w4 ⟨rfl,y,g,h4⟩;have c0:=ae (r.o (I (H #[])) _ ⟨_,rfl,j.o.trans y,(show s.B+1<=3 by have:=l.o;omega),g,h4⟩);clear b0 y g h4 r j l
 go_wp2_with fail
 apply (u.o _).mono;rintro e w5 ⟨rfl,rfl⟩
 exact Zy c0.o
def Rg (l:FuncId) (fc:Array E) (j:ai) (X:Nat->ai):Prop:=
 ∀ (w:K) (g:ai),ag w (j*g)->Calls M l fc w fun e w'=>∃ s,e = I (H #[az s,W N 0])/\aj w w'/\ag w' (X s*g)
def Ru (r:FuncId) (l:Array E) (X:Nat->ai) (j:Nat->Nat->Nat->ai):Prop:=
 ∀ (s f m:Nat) (w:K) (g:ai),ag w (pt f (V #[az s,.map (Y m)] 97 (0,0))*(mp m []*(X s*g)))->Calls M r (#[az f]++l) w fun e w'=>e = I (H #[])/\aj w w'/\ag w' (j s f m*g)
def RN (g:Nat->Nat->Nat->ai) (F:ai) (w:K) (e:Ending) (w':K):Prop:=
 ∃ s f m,e = I (H #[az f,W N 0])/\aj w w'/\ag w' (g s f m*F)
def IP (w:K):(Instr.makeMap 95 U).run M w = .ok (.map (Y w.heap.size)) (w.alloc (.map #[] 0)):=by
 simp [Instr.makeMap,run_underlying underlying95]
def Jx {dv:Nat} {z C:FuncId} {fc gc:Array E} {c0:ai} {X:Nat->ai} {d0:Nat->Nat->Nat->ai} (p0:∀ (y:Array E) (w:K),(callFunc z y).run M w = .ok (.enter z y) w) (q0:∀ (y:Array E) (w:K),(callFunc C y).run M w = .ok (.enter C y) w)
  (hF:Rg z fc c0 X) (hT:Ru C gc X d0) (h:ag w (c0*F)):Calls M 57 #[az dv,.func (.func z) #[] fc,.func (.func C) #[] gc] w (RN d0 F w):=by
 refine aF fun o0 HQ=>?_;have s0:=nH M;have H0:=(h.alloc (V #[G U] 28 (0,0))).alloc (V #[W N 0] 31 (0,0));have D0:=((aj.refl w).alloc (V #[G U] 28 (0,0))).alloc (V #[W N 0] 31 (0,0));rw [A2] at H0;have HF:=ae hF;have HT:=ae hT;clear h hF hT
 go_enter_defers func57,ntmps57
 go_wp2_with fail
 generalize (w.alloc (V #[G U] 28 (0,0))).alloc (V #[W N 0] 31 (0,0))=w1 at *;generalize w.heap.size+1=j at *;generalize w.heap.size=fb at *;have h0:=ae (HF.o w1 _ (H0.t00 (c0*(pt j (V #[W N 0] 31 (0,0))*(pt fb (V #[G U] 28 (0,0))*F)))));have D1:=ae D0;clear H0 D0 HF
 go_wp2_with fail
 apply h0.o.mono;rintro e w2 ⟨s,rfl,d2,h2⟩;have h3:=h2.t00 (pt j (V #[W N 0] 31 (0,0))*(pt fb (V #[G U] 28 (0,0))*(X s*F)));have e0:w2.cell? ⟨j,0,U⟩=Y (W N 0):=h3.cell 0;have ef:w2.frozen? ⟨j,0,U⟩=Y':=h3.frozen 0;have h4:=h3.setCell 0 (W N 0);have D4:=ae ((D1.o.trans d2).setCell ⟨j,0,U⟩ (W N 0));have u:=ae (h4.t00 (pt fb (V #[G U] 28 (0,0))*(pt j (V #[W N 0] 31 (0,0))*(X s*F))));have k0:=ae cR;have g0:=ae IP;clear h0 D1 d2 h2 h3 h4
 go_wp2_with fail
 apply (k0.o _).mono;rintro e w3 ⟨rfl,rfl⟩;generalize w2.setCell ⟨j,0,U⟩ (W N 0)=g at *;have f0:g.cell? ⟨fb,0,U⟩=Y (G U):=u.o.cell 0;have m0:g.frozen? ⟨fb,0,U⟩=Y':=u.o.frozen 0;have r0:fb<g.heap.size:=u.o.lt;have n0:=g0.o;have H5:=((((u.o.setCell 0 (az (g.heap.size+1))).alloc (.map #[] 0)).ui isMap_empty).alloc (V #[az s,.map (Y g.heap.size)] 97 (0,0)))
 have D5:=(((D4.o.setCell ⟨fb,0,U⟩ (az (g.heap.size+1))).alloc (.map #[] 0)).alloc (V #[az s,.map (Y g.heap.size)] 97 (0,0)))
 have j0:(g.setCell ⟨fb,0,U⟩ (az (g.heap.size+1))).heap.size=g.heap.size:=World.size_setCell ..;rw [A2,j0] at H5;have D6:=ae D5;have ht:=ae (HT.o s (g.heap.size+1) g.heap.size _ _ (H5.to (by show _=pt (g.heap.size+1) (V #[az s,.map (Y g.heap.size)] 97 (0,0))*(mp g.heap.size []*(X s*(pt fb (V #[az (g.heap.size+1)] 28 (0,0))*(pt j (V #[W N 0] 31 (0,0))*F))));simp only [E2,G3];ac_rfl)));generalize i0:g.heap.size+1=l at ht D6;have l0:=ae i0;clear H5 D5 u D4 g0 e0 ef i0 j0
 go_wp2_with fail
 rw [l0.o];apply ht.o.mono;rintro e w6 ⟨rfl,d6,h6⟩;have r:=h6.t00 (pt fb (V #[az l] 28 (0,0))*(pt j (V #[W N 0] 31 (0,0))*(d0 s l g.heap.size*F)));have a0:w6.cell? ⟨fb,0,U⟩=Y (az l):=r.cell 0;have a1:w6.frozen? ⟨fb,0,U⟩=Y':=r.frozen 0;have b0:(w6.setCell ⟨fb,0,U⟩ (az l)).cell? ⟨j,0,U⟩=Y (W N 0):=(r.setCell 0 (az l)).ah.cell 0;have b1:(w6.setCell ⟨fb,0,U⟩ (az l)).frozen? ⟨j,0,U⟩=Y':=(r.setCell 0 (az l)).ah.frozen 0;have h8:=(r.setCell 0 (az l)).ah.setCell 0 (W N 0);have H8:=ae h8;have D8:=ae (((D6.o.trans d6).setCell ⟨fb,0,U⟩ (az l)).setCell ⟨j,0,U⟩ (W N 0));clear ht h6 r h8 D6 d6 f0 m0 n0 HT
 go_wp2_with fail
 have h9:=H8.o;simp only [E2,G3] at h9;exact G4 rfl rfl (h9.ah.cell 0) (h9.cell 0) (HQ.o _ _ ⟨s,l,g.heap.size,rfl,D8.o,h9.right.right⟩)
end
end Go.Proofs.Cl
namespace Go.Proofs.Cl
open RowKit SL Proofs.Nn Proofs.Ba Proofs.Su Proofs.Fs
def gm (t:Pl) (q:Dk t.n) (m:Nat) (T:Tr) (k B:Nat) (O:jj):ai:=ex fun s:Ds=>fact (kM t q s T k/\s.B<=B)*cX t s m O
section
variable {t:Pl} {q:Dk t.n} {s:Ds} {T:Tr} {k m B:Nat} {O:jj} {w:K} {F:ai} {p p1 p2:List UInt8} {R:Int->Tr->Nat->Prop} {e:Ending} {w':K}
def eW (h:ag w (gm t q m T k B O*F)):∃ s,kM t q s T k/\s.B<=B/\ag w (cX t s m O*F):=by
 obtain ⟨s,g⟩:=ag.aw.1 h;obtain ⟨⟨j,l⟩,h4⟩:=ag.aq.1 (g.to (ay _ _ _));exact ⟨s,j,l,h4⟩
def eO (j:kM t q s T k) (g:s.B<=B) (h:ag w (cX t s m O*F)):ag w (gm t q m T k B O*F):=
 ag.aw.2 ⟨s,(ag.aq.2 ⟨⟨j,g⟩,h⟩:ag w (fact _*_)).to (ay _ _ _).symm⟩
def FB {g:Nat} (u:B<=g) (h:ag w (gm t q m T k B O*F)):ag w (gm t q m T k g O*F):=by
 obtain ⟨s,j,r,l⟩:=eW h;exact eO j Om0 l
def kM.go {s':Ds} {wr:Bool} (g:s.Go t.n wr s'):s'.B<=s.B+1:=by
 rcases g with h|⟨_,r,L,_,_,_,h⟩
 .rw [h.B];omega
 .omega
def NM (t:Pl) (q:Dk t.n) (m:Nat) (T:Tr) (k B:Nat) (O:jj) (R:Int->Tr->Nat->Prop) (F:ai) (w:K) (e:Ending) (w':K):Prop:=
 aj w w'/\∃ c,e = I (W N c)/\((c≠0/\(∃ T' k',R c T' k')/\ag w' (gm t q m T k B O*F))\/(c=0/\∃ T' k',R 0 T' k'/\ag w' (gm t q m T' k' (B+1) O*F)))
def IW (z:kM t q s T k) (r:s.B<=B) (h:OC t q m s O R F w e w'):NM t q m T k B O R F w e w':=by
 obtain ⟨c,T',k',s',j,y,d,hr,g⟩:=h;refine ⟨d,c,y,?_⟩;rcases hr with ⟨u,l⟩|⟨rfl,C,hg⟩
 .exact .inl ⟨u,⟨T',k',j⟩,eO (z.rd l) (by rw [l.B];exact r) g⟩
 .exact .inr ⟨rfl,T',k',j,eO C (by have:=kM.go hg;omega) g⟩
def NM.ok (h:NM t q m T k B O R F w e w') (l:∀ c T' k',R c T' k'->c=0):∃ T' k',R 0 T' k'/\e = I (W N 0)/\aj w w'/\ag w' (gm t q m T' k' (B+1) O*F):=by
 obtain ⟨d,c,rfl,⟨r,⟨T',k',g⟩,_⟩|⟨rfl,T',k',g,j⟩⟩:=h
 .exact absurd (l _ _ _ g) r
 .exact ⟨T',k',g,rfl,d,j⟩
def NM.no {g:Int} (h:NM t q m T k B O R F w e w') (u:g≠0) (r:∀ c T' k',R c T' k'->c=g):e = I (W N g)/\aj w w'/\ag w' (gm t q m T k B O*F):=by
 obtain ⟨d,c,rfl,⟨y,⟨T',k',j⟩,l⟩|⟨rfl,T',k',j,l⟩⟩:=h
 .rw [r _ _ _ j];exact ⟨rfl,d,l⟩
 .exact absurd (r _ _ _ j).symm u
def NW (u:B<=1000000) (h:ag w (gm t q m T k B O*F)):Calls M 14 #[az t.f,Z (str p)] w (NM t q m T k B O (nW t.n T k 1 p) F w):=by
 obtain ⟨s,g,j,l⟩:=eW h;exact (uH g Om0 l).mono fun e w' r=>IW g j r
def PM (u:B<=1000000) (h:ag w (gm t q m T k B O*F)):Calls M 13 #[az t.f,Z (str p)] w (NM t q m T k B O (nW t.n T k 2 p) F w):=by
 obtain ⟨s,g,j,l⟩:=eW h;exact (yM g Om0 l).mono fun e w' r=>IW g j r
def Si (u:B<=1000000) (h:ag w (gm t q m T k B O*F)):Calls M 17 #[az t.f,Z (str p1),Z (str p2)] w (NM t q m T k B O (yO T k p1 p2) F w):=by
 obtain ⟨s,g,j,l⟩:=eW h;exact (AL g Om0 l).mono fun e w' r=>IW g j r
def Od (u:B<=1000000) (h:ag w (gm t q m T k B O*F)):Calls M 18 #[az t.f,Z (str p)] w (NM t q m T k B O (rF T k O p) F w):=by
 obtain ⟨s,g,j,l⟩:=eW h;exact (vp g Om0 l).mono fun e w' r=>IW g j r
def Pm (u:B<=1000000) (h:ag w (gm t q m T k B O*F)):Calls M 19 #[az t.f,Z (str p)] w (NM t q m T k B O (vN T k p) F w):=by
 obtain ⟨s,g,j,l⟩:=eW h;exact (yT g Om0 l).mono fun e w' r=>IW g j r
def LH (u:B<=1000000) (h:ag w (gm t q m T k B O*F)):Calls M 20 #[az t.f,Z (str p1),Z (str p2)] w (NM t q m T k B O (L9 T k p1 p2) F w):=by
 obtain ⟨s,g,j,l⟩:=eW h;exact (vq g Om0 l).mono fun e w' r=>IW g j r
def xz (X:ai) (v:E) (F:ai) (w:K) (e:Ending) (w':K):Prop:=e = I v/\aj w w'/\ag w' (X*F)
def LY (z:B<=1000000) (h:ag w (gm t q m T k B O*F)):Calls M 7 #[az t.f,Z (str p)] w (xz (gm t q m T k B O) (H #[VP (if (bO T p).1=0 then tY (T (bO T p).2) else (0,0,0)),W N (bO T p).1]) F w):=by
 obtain ⟨s,g,j,l⟩:=eW h;apply (Ln g Om0 l).mono;rintro e w' ⟨s',rfl,d,u,r,h4⟩;have y:s.Rd s':=by rcases u with h|⟨h,_⟩;exact h;cases h
 exact ⟨rfl,d,eO r (by rw [y.B];exact j) h4⟩
def B5 (z:B<=1000000) (h:ag w (gm t q m T k B O*F)):Calls M 10 #[az t.f] w (xz (gm t q m T k B O) (H #[W N (t.n:Int),W N (k:Int),W N 0]) F w):=by
 obtain ⟨s,g,j,l⟩:=eW h;apply (EL g Om0 l).mono;rintro e w' ⟨s',rfl,d,u,r,h4⟩;have y:s.Rd s':=by rcases u with h|⟨h,_⟩;exact h;cases h
 exact ⟨rfl,d,eO r (by rw [y.B];exact j) h4⟩
def Re (t:Pl) (q:Dk t.n) (m:Nat) (T:Tr) (k B:Nat) (O:jj) (p:List UInt8) (F:ai) (w:K) (e:Ending) (w':K):Prop:=
 aj w w'/\((iq T O p≠0/\e = I (H #[W N 0,W N (iq T O p)])/\ag w' (gm t q m T k B O*F)) \/
  (iq T O p=0/\∃ fd:Nat,(∀ j:Nat,j<fd->(aM O (j:Int)).isSome=Z')/\aM O (fd:Int)=U/\e = I (H #[W N (fd:Int),W N 0])/\ag w' (gm t q m T k B (im O fd ((bO T p).2,0))*F)))
def St (C:B<=1000000) (z:O.length<=1000) (h:ag w (gm t q m T k B O*F)):Calls M 15 #[az t.f,Z (str p)] w (Re t q m T k B O p F w):=by
 obtain ⟨s,j,r,y⟩:=eW h;apply (lY j Om0 z y).mono;rintro e w' ⟨s',d,g,⟨l,rfl,h4⟩|⟨l,fd,a1,u,rfl,h4⟩⟩
 .exact ⟨d,.inl ⟨l,rfl,eO (j.rd g) (by rw [g.B];exact r) h4⟩⟩
 .exact ⟨d,.inr ⟨l,fd,a1,u,rfl,eO (j.rd g) (by rw [g.B];exact r) h4⟩⟩
def SH (c:Int) (l:List UInt8) (X g:ai) (F:ai) (w:K) (e:Ending) (w':K):Prop:=
 aj w w'/\((c≠0/\e = I (H #[Q U 0 0,W N c])/\ag w' (X*F))\/(c=0/\∃ u,e = I (H #[u,W N 0])/\ag w' (bs 5 u l*(g*F))))
def Mf {a c:Int} (z:B<=1000000) (h:ag w (gm t q m T k B O*F)):Calls M 9 #[az t.f,Z (str p),W N a,W N c] w (SH (iB T p a c) (lR T p a c) (gm t q m T k B O) (gm t q m T k B O) F w):=by
 obtain ⟨s,j,r,y⟩:=eW h;apply (Nl j Om0 y).mono;rintro e w' ⟨s',d,g,⟨l,rfl,h4⟩|⟨l,u,rfl,h4⟩⟩
 .exact ⟨d,.inl ⟨l,rfl,eO (j.rd g) (by rw [g.B];exact r) h4⟩⟩
 .exact ⟨d,.inr ⟨l,u,rfl,(eO (j.rd g) (by rw [g.B];exact r) (h4.t00 (cX t s' m O*(bs 5 u (lR T p a c)*F)))).u00⟩⟩
def UB (c:Int) (L:List aL) (X:ai) (F:ai) (w:K) (e:Ending) (w':K):Prop:=
 aj w w'/\((c≠0/\e = I (H #[Q U 0 0,W N c])/\ag w' (X*F))\/(c=0/\∃ u g,g.Perm L/\eJ jw g/\e = I (H #[u,W N 0])/\ag w' (bR u (g.map aL.nm)*(X*F))))
def y4 (hB:B<=1000000) (b0:(dN (T (bO T p).2)).length<=zj) (h:ag w (gm t q m T k B O*F)):Calls M 8 #[az t.f,Z (str p)] w (UB (nC T p) (dN (T (bO T p).2)) (gm t q m T k B O) F w):=by
 obtain ⟨s,j,y,C⟩:=eW h;apply (CP j Om0 b0 C).mono;rintro e w' ⟨s',d,g,⟨l,rfl,h4⟩|⟨l,u,r,a1,z,rfl,h4⟩⟩
 .exact ⟨d,.inl ⟨l,rfl,eO (j.rd g) (by rw [g.B];exact y) h4⟩⟩
 .exact ⟨d,.inr ⟨l,u,r,a1,z,rfl,(eO (j.rd g) (by rw [g.B];exact y) (h4.t00 (cX t s' m O*(bR u (r.map aL.nm)*F)))).u00⟩⟩
def En (t:Pl) (q:Dk t.n) (m:Nat) (T:Tr) (k B:Nat) (O:jj) (fd:Int) (o:Nat × Nat) (R:Int->Tr->Nat->Prop) (F:ai) (w:K) (e:Ending) (w':K):Prop:=
 aj w w'/\∃ c,e = I (W N c)/\((c≠0/\(∃ T' k',R c T' k')/\ag w' (gm t q m T k B O*F))\/(c=0/\∃ T' k',R 0 T' k'/\ag w' (gm t q m T' k' (B+1) (im O fd o)*F)))
def OZ {f:AF} {fd:Int} {id at' vc:Nat} {va:Option Addr} {l:List UInt8} {D:ai} (hB:B<=1000000) (hy:aM O fd=Y (id,at')) (hT:T id=Y (.file f)) (ha:at'<=122880) (d0:l.length<=9223372036854775807) (b0:l.length<=vc) (C:∀ g P,ag g (D*P)->Rd g (Q va l.length vc) l) (h:ag w (gm t q m T k B O*(D*F))) :
  Calls M 16 #[az t.f,W N fd,Q va l.length vc] w (En t q m T k B O fd (id,at'+l.length) (fX T k id at' f l) (D*F) w):=by
 obtain ⟨s,j,y,z⟩:=eW h;apply (yg j Om0 hy hT ha d0 b0 C z).mono;rintro e w' ⟨c,T',k',s',r,rfl,d,hr⟩;refine ⟨d,c,rfl,?_⟩;rcases hr with ⟨hc,u,h4⟩|⟨rfl,c0,hg,h4⟩
 .exact .inl ⟨hc,⟨T',k',r⟩,eO (j.rd u) (by rw [u.B];exact y) h4⟩
 .exact .inr ⟨rfl,T',k',r,eO c0 (by have:=kM.go hg;omega) h4⟩
end
end Go.Proofs.Cl
namespace Go.SL
open RowKit
section
variable {n k k' d id:Nat} {T T':Tr} {O:List (Int × (Nat × Nat))} {L:List aL}
def bN.dir (h:bN T O) (g:T d=Y (.dir L)) (l:List aL):bN (ei T d l) O:=
 h.tree fun fd o f r j=>⟨f,by unfold ei;rw [aI _ _ (by rintro rfl;rw [j] at g;cases g)];exact j⟩
def bN.file (h:bN T O) (id:Nat) (f':AF):bN (Go.SL.df T id (Y (.file f'))) O:=h.tree fun fd o f j g=>by
 by_cases e:o.1=id
 .exact ⟨f',by rw [e,bA]⟩
 .exact ⟨f,by rw [aI _ _ e];exact g⟩
def bN.SX (h:bN T O) (y:Option sd) (j:∀ fd o,aM O fd=Y o->o.1≠id):bN (Go.SL.df T id y) O:=
 h.tree fun fd o f l g=>⟨f,by rw [aI _ _ (j fd o l)];exact g⟩
def bN.other (h:bN T O) {z:Option sd} (r:T id=z) (j:∀ f,z≠Y (.file f)) {fd:Int} {o:Nat × Nat} (l:aM O fd=Y o):o.1≠id:=by
 obtain ⟨⟨f,g⟩,_⟩:=h.fl fd o l;rintro rfl;exact j f (by rw [<- r,g])
def bN.node (h:bN T O) {nm:List UInt8} {kd:Int} (g:T d=Y (.dir L)) (j:T id=U):bN (NL T d id nm kd) O:=by
 have l:=h.SX (id:=id) (Y (lQ kd)) fun fd o u=>h.other j (fun f e=>by cases e) u;have r:d≠id:=by rintro rfl;rw [j] at g;cases g
 exact l.dir (L:=L) (by rw [aI _ _ r];exact g) _
def R8 (h:Ke O id=Y') {fd:Int} {o:Nat × Nat} (g:aM O fd=Y o):o.1≠id:=by
 have:=List.any_eq_false.1 h _ (lO g);simpa using this
def bN.made {p:List UInt8} {kd:Int} (h:bN T O) (g:Go.Proofs.Cl.nW n T k kd p 0 T' k'):bN T' O:=by
 obtain ⟨ps,L,id,_,j,_,l,_,_,rfl,_⟩:=g.2 rfl;exact h.node j l
def bN.linked {p1 p2:List UInt8} (h:bN T O) (g:yO T k p1 p2 0 T' k'):bN T' O:=by
 obtain ⟨ps,qs,id,f,L,_,_,_,_,j,_,rfl,_⟩:=g.2 rfl;exact (h.dir j _).file _ _
def bN.Np {p:List UInt8} (h:bN T O) (u:rF T k O p 0 T' k'):bN T' O:=by
 obtain ⟨g,r⟩:=u;obtain ⟨ps,id,f,L,i,hs,_,hw,z,j,_,⟨_,rfl,_⟩|⟨l,rfl,_⟩⟩:=r rfl
 .exact (h.dir j _).file _ _
 .refine (h.dir j _).SX _ fun fd o C=>?_
  unfold fR at g;rw [hs] at g;simp only [hw,ne_eq,not_true_eq_false,if_false,z,l,true_and] at g;refine R8 ?_ C
  cases y:Ke O id with
  | false=>rfl
  | true=>rw [y] at g;simp at g
def bN.Qx {p:List UInt8} (h:bN T O) (g:vN T k p 0 T' k'):bN T' O:=by
 obtain ⟨ps,id,L,i,_,_,_,l,j,_,rfl,_⟩:=g.2 rfl;exact (h.dir j _).SX _ fun fd o r=>h.other l (fun f e=>by cases e) r
def bN.wrote {g:Nat} {f:AF} {l:List UInt8} (h:bN T O) (j:fX T k id g f l 0 T' k'):bN T' O:=by
 rcases j.2 rfl with ⟨_,rfl,_⟩|⟨_,rfl,_⟩
 .exact h
 .exact h.file _ _
def bN.cut {f:AF} {z:Int} (h:bN T O) (g:Qt T k id f z 0 T' k'):bN T' O:=by
 obtain ⟨rfl,_⟩:=g.2 rfl;exact h.file _ _
def bN.renamed {p1 p2:List UInt8} (ht:Tidy n T) (h:bN T O) (C:L9 T k p1 p2 0 T' k'):bN T' O:=by
 obtain ⟨g,y⟩:=C;obtain ⟨ps,qs,c0,d0,r,u,rfl,_⟩:=y rfl;unfold pz at g;rw [c0,d0] at g;simp only [r,if_false,u,ne_eq,not_true_eq_false] at g
 split at g
 .exact absurd g De0
 split at g
 .rename_i l;exact absurd g.symm l
 rename_i l;obtain ⟨_,L2,b0,_⟩:=Go.Proofs.Cl.oB ht (ps:=qs) (by simpa using l);obtain ⟨_,L,i,hi,j,_⟩:=po r u;have j:T (aT T ps)=Y (.dir L):=j;have h4:bN (jL T (aT T ps) (nh T ps)) O:=h.dir j _;obtain ⟨e0,z⟩:=Cw (i:=nh T ps) j b0;exact h4.dir z _
end
end Go.SL
namespace Go.SL
open RowKit Proofs.Cl
section
variable {T T':Tr} {d id x k:Nat} {nm:List UInt8} {kd:Int} {L R X:List aL} {f:AF} {p:List UInt8} {ps qs:List (List UInt8)}
def Pk:NL T d id nm kd d=Y (.dir (dN (T d)++[⟨id,nm⟩])):=bA _ _ _
def QG (h:id≠d):NL T d id nm kd id=Y (lQ kd):=(aI _ _ h).trans (bA _ _ _)
def Qm (h:x≠d) (g:x≠id):NL T d id nm kd x=T x:=(aI _ _ h).trans (aI _ _ g)
def nE {i:Nat} (h:T x=Y (.dir R)) (g:iE R nm=Y i):aO T x [nm]=(0,(R.getD i aL.no).nd):=by
 have e:eo (T x) nm=(0,(R.getD i aL.no).nd):=by rw [h,jT g]
 rw [iP (by rw [e]),e,IB]
def MC {i j:Nat} {g:List UInt8} (h:T x=Y (.dir R)) (r:iE R nm=Y i) (l:T (R.getD i aL.no).nd=Y (.dir X)) (u:iE X g=Y j):aO T x [nm,g]=(0,(X.getD j aL.no).nd):=by
 have e:eo (T x) nm=(0,(R.getD i aL.no).nd):=by rw [h,jT r]
 rw [iP (by rw [e]),e];exact nE l u
def yf (j:ps≠[]) (r:aO T 1 ps.dropLast=(0,d)) (g:T d=Y (.dir L)) (l:iE L (bD ps)=U):ee T ps=0:=by
 unfold ee;rw [if_neg j,r,if_neg Si0,g,mM l];rfl
def rO (g:aO T 1 ps.dropLast=(0,d)):aT T ps=d:=by unfold aT;rw [g]
def uB (g:iE L nm=U) (l:L.length<3840) (j:aY (L.length+1)<=k+aY L.length):iQ k L nm=0:=by
 unfold iQ;rw [g,if_neg De0,if_neg Om0,if_neg Om0]
def BA (y:bh p=Y ps) (u:ps≠[]) (l:aO T 1 ps.dropLast=(0,d)) (g:T d=Y (.dir L)) (j:iE L (bD ps)=U) (r:L.length<3840) (z:1+aY (L.length+1)<=k+aY L.length) (C:0<k):kW T k p=0:=by
 have e:dN (T d)=L:=by rw [g];rfl
 unfold kW;rw [y];simp only;rw [yf u l g j,if_neg Si0,rO l,e,ry,if_neg (show ¬ 122880<=32*L.length by omega),if_neg Si0,if_neg (show ¬ k=0 by omega)];exact uB j r Om0
structure Made (n:Nat) (T T':Tr) (d id:Nat) (nm:List UInt8) (kd:Int) (L:List aL):Prop where
 no:T id=none
 pos:0<id
 lt:id<n
 dir:T' d=some (.dir (L++[⟨id,nm⟩]))
 new:T' id=some (lQ kd)
 qz:∀ x,x≠d->x≠id->T' x=T x
def Gv {n k':Nat} {c:Int} (hs:bh p=Y ps) (hw:aO T 1 ps.dropLast=(0,d)) (r:T d=Y (.dir L)) (h:nW n T k kd p c T' k') (hc:c=0):(∃ id,Made n T T' d id (bD ps) kd L)/\k'=U7 k L:=by
 obtain ⟨-,l⟩:=h;obtain ⟨qs,y,id,u,g,e3,j,z,C,rfl,rfl⟩:=l hc;obtain rfl:ps=qs:=by rw [hs] at u;exact Option.some.inj u
 rw [rO hw] at g ⊢;obtain rfl:L=y:=by rw [r] at g;injection g with g;injection g
 have b0:id≠d:=by rintro rfl;rw [r] at j;cases j
 refine ⟨⟨id,j,z,C,?_,QG b0,fun x h1 l=>Qm h1 l⟩,rfl⟩;rw [Pk,r];rfl
end
section
variable {T T1 T2 T4 T5:Tr} {a b k k':Nat} {c:Int}
abbrev pD:List UInt8:=[47,100]
abbrev Ml:List UInt8:=[47,100,47,97]
abbrev pB:List UInt8:=[47,98]
abbrev Xb:List UInt8:=[47,100,47,101]
abbrev qF:List UInt8:=[104,101,108,108,111]
def mL:bh pD=Y [[100]]:=De0
def nD:bh Ml=Y [[100],[97]]:=De0
def zE:bh pB=Y [[98]]:=De0
def Ll:bh Xb=Y [[100],[101]]:=De0
def Du:bh [47]=Y []:=De0
def FG (a:Nat) (nm:List UInt8):iE [⟨a,nm⟩] nm=Y 0:=by simp [iE]
structure VY (n:Nat) (T:Tr) (a:Nat):Prop where
 ne:a≠1
 root:T 1=some (.dir [⟨a,[100]⟩])
 da:T a=some (.dir [])
 qz:∀ x,x≠1->x≠a->T x=none
def Ud:kW gJ 18 pD=0:=BA mL Si0 (d:=1) (L:=[]) rfl rfl rfl Si0 De0 De0
def Tj {n:Nat} (h:nW n gJ 18 2 pD c T1 k') (l:c=0):(∃ a,VY n T1 a)/\k'=16:=by
 obtain ⟨⟨a,m⟩,r⟩:=Gv (d:=1) (L:=[]) mL rfl rfl h l;have ne:a≠1:=by intro e;have:=m.no;rw [e] at this;cases this
 refine ⟨⟨a,ne,m.dir,m.new,fun x g j=>(m.qz x g j).trans (if_neg g)⟩,by rw [r];decide⟩
structure OP (n:Nat) (T:Tr) (a b:Nat) (R:List aL) (f:AF):Prop where
 a1:a≠1
 b1:b≠1
 ba:b≠a
 root:T 1=some (.dir R)
 da:T a=some (.dir [⟨b,[97]⟩])
 fb:T b=some (.file f)
def VI {n:Nat} (h:VY n T1 a):kW T1 16 Ml=0:=BA nD Si0 (nE h.root (FG a _)) h.da rfl Si0 De0 De0
def SY {n:Nat} (g:VY n T1 a) (h:nW n T1 16 1 Ml c T2 k') (j:c=0):(∃ b,OP n T2 a b [⟨a,[100]⟩] (lx 1))/\k'=14:=by
 obtain ⟨⟨b,m⟩,l⟩:=Gv (d:=a) (L:=[]) nD (nE g.root (FG a _)) g.da h j;have ne:b≠1:=by intro e;have:=m.no;rw [e,g.root] at this;cases this
 have r:b≠a:=by intro e;have:=m.no;rw [e,g.da] at this;cases this
 exact ⟨⟨b,g.ne,ne,r,by rw [m.qz 1 (Ne.symm g.ne) (Ne.symm ne)];exact g.root,m.dir,m.new⟩,by rw [l];decide⟩
def xh {n:Nat} {f:AF} (h:OP n T a b [⟨a,[100]⟩] f):aO T 1 [[100],[97]]=(0,b):=MC h.root (FG a _) h.da (FG b _)
def yR {n:Nat} {f:AF} (h:OP n T a b [⟨a,[100]⟩] f):bO T Ml=(0,b):=(gy nD).trans (xh h)
def Cj {n:Nat} {f:AF} (h:OP n T a b [⟨a,[100]⟩] f):(bO T Ml).1=0/\T (bO T Ml).2=Y (.file f):=by rw [yR h];exact ⟨rfl,h.fb⟩
def wo:AF:=(lx 1).wr 0 qF
def Vs:sS 14 0 (lx 1) qF=0:=by decide +kernel
def Ti {n:Nat} (g:OP n T a b [⟨a,[100]⟩] (lx 1)) (h:fX T 14 b 0 (lx 1) qF c T4 k') (u:c=0):OP n T4 a b [⟨a,[100]⟩] wo/\k'=13:=by
 obtain ⟨-,r⟩:=h;rcases r u with ⟨e,_⟩|⟨_,j,l⟩
 .cases e
 .rw [j,l]
  refine ⟨⟨g.a1,g.b1,g.ba,(aI _ _ (Ne.symm g.b1)).trans g.root,(aI _ _ (Ne.symm g.ba)).trans g.da,bA _ _ _⟩,by decide +kernel⟩
def Uf {n:Nat} (h:OP n T a b [⟨a,[100]⟩] wo):jE T 13 Ml pB=0:=by
 have g:ee T [[98]]=0:=yf (d:=1) Si0 rfl h.root (by simp [iE,bD]);unfold jE;rw [nD,zE];simp only;rw [xh h,if_neg Si0,h.fb];simp only;rw [g,if_neg Si0,if_neg De0,rO (d:=1) rfl,h.root];exact uB (by simp [iE,bD,dN]) (by simp [dN]) (by simp [dN];decide)
def FX:AF:={ wo with lk:=2 }
def Sw {n:Nat} (h4:OP n T4 a b [⟨a,[100]⟩] wo) (h:yO T4 13 Ml pB c T5 k') (z:c=0):OP n T5 a b [⟨a,[100]⟩,⟨b,[98]⟩] FX/\k'=13:=by
 obtain ⟨-,y⟩:=h;obtain ⟨ps,qs,id,f,L,r,u,l,g,j,C,rfl,rfl⟩:=y z;obtain rfl:=Option.some.inj (nD.symm.trans r);obtain rfl:=Option.some.inj (zE.symm.trans u);rw [xh h4] at l;obtain rfl:b=id:=(Prod.mk.inj l).2;rw [rO (d:=1) rfl,h4.root] at j;obtain rfl:[⟨a,[100]⟩]=L:=by injection j with j;injection j
 obtain rfl:wo=f:=by rw [h4.fb] at g;injection g with g;injection g
 rw [rO (d:=1) rfl];refine ⟨⟨h4.a1,h4.b1,h4.ba,(aI _ _ (Ne.symm h4.b1)).trans (bA _ _ _),?_,bA _ _ _⟩,(show 13+aY 1-aY 2=13 by decide)⟩;exact (aI _ _ (Ne.symm h4.ba)).trans ((aI _ _ h4.a1).trans h4.da)
section
variable {n:Nat} (h:OP n T a b [⟨a,[100]⟩,⟨b,[98]⟩] FX)
include h
def Ns:bO T pB=(0,b):=(gy zE).trans (nE (i:=1) h.root (by simp [iE,List.findIdx?_cons]))
def VD:bO T pD=(0,a):=(gy mL).trans (nE (i:=0) h.root (by simp [iE,List.findIdx?_cons]))
def vI:(bO T pB).1=0/\tY (T (bO T pB).2)=(1,2,5):=by
 rw [Ns h];dsimp only;rw [h.fb];exact ⟨rfl,rfl⟩
def J8:iB T pB 1 3=0:=by
 unfold iB;rw [if_pos De0,Ns h,if_neg Si0,h.fb]
def NG:lR T pB 1 3=[101,108,108]:=by
 unfold lR;rw [Ns h];dsimp only;rw [h.fb];decide
def zP:nC T [47]=0/\dN (T (bO T [47]).2)=[⟨a,[100]⟩,⟨b,[98]⟩]:=by
 have e:bO T [47]=(0,1):=gy Du;unfold nC;rw [e];dsimp only;rw [if_neg Si0,h.root];exact ⟨rfl,rfl⟩
omit h in
def J6 {l:List aL} (z:l.Perm [⟨a,[100]⟩,⟨b,[98]⟩]) (hs:eJ jw l):l.map aL.nm=[[98],[100]]:=by
 have C:=z.length_eq
 match l,C with
 | [x,y],_=>
  have r:=z.map aL.nm;simp only [H2,List.map_nil] at r ⊢
  have u:x.nm≠y.nm:=by
   have:=r.nodup_iff.2 (by decide:[([100]:List UInt8),[98]].Nodup);simpa using this
  have hx:x.nm=[100]\/x.nm=[98]:=by simpa using r.mem_iff.1 (List.mem_cons_self (a:=x.nm) (l:=[y.nm]))
  have hy:y.nm=[100]\/y.nm=[98]:=by simpa using r.mem_iff.1 (show y.nm ∈ [x.nm,y.nm] by simp)
  rcases hx with g|g <;> rcases hy with j|j
  .exact absurd (g.trans j.symm) u
  .have:=(List.pairwise_cons.1 hs).1 y Si0
   unfold jw at this;rw [g,j] at this;exact absurd this De0
  .rw [g,j]
  .exact absurd (g.trans j.symm) u
end
end
end Go.SL
namespace Go.Proofs.Cl
open RowKit SL Proofs.Nn Proofs.Ba Proofs.Su Proofs.Fs
attribute [local go_sem] Oper.semAt_some
section
variable {t:Pl} {q:Dk t.n} {s:Ds} {T:Tr} {k m B id:Nat} {O:jj} {w:K} {F:ai} {p p1 p2:List UInt8} {ps qs:List (List UInt8)} {L:List aL}
def I9 (g:B<=1000000) (r:bh p=Y ps) (u:aO T 1 ps=(0,id)) (hy:T id=Y (.dir L)) (h:ag w (gm t q m T k B O*F)) :
  Calls M 18 #[az t.f,Z (str p)] w (xz (gm t q m T k B O) (W N 8) F w):=
 (Od g h).mono fun e w' j=>j.no De0 fun c T' k' l=>l.1.trans (by unfold fR;rw [r];simp only;rw [u,if_neg Si0,hy])
def Il (g:B<=1000000) (u:bh p=Y ps) (z:ps≠[]) (y:aO T 1 ps=(0,id)) (hy:T id=Y (.dir L)) (j:L≠[]) (h:ag w (gm t q m T k B O*F)) :
  Calls M 19 #[az t.f,Z (str p)] w (xz (gm t q m T k B O) (W N 11) F w):=
 (Pm g h).mono fun e w' l=>l.no De0 fun c T' k' r=>r.1.trans (by unfold jA;rw [u];simp only;rw [y,if_neg Si0,hy];exact if_pos (.inr j))
def EU (g:B<=1000000) (y:bh p1=Y ps) (z:bh p2=Y qs) (l:ps≠[]) (C:aO T 1 ps=(0,id)) (hy:T id=Y (.dir L)) (j:kz ps qs=Z') (h:ag w (gm t q m T k B O*F)) :
  Calls M 20 #[az t.f,Z (str p1),Z (str p2)] w (xz (gm t q m T k B O) (W N 11) F w):=
 (LH g h).mono fun e w' r=>r.no De0 fun c T' k' u=>u.1.trans (by unfold pz;rw [y,z];simp only;rw [if_neg l,C,if_neg Si0,if_pos ⟨j,by rw [hy];rfl⟩])
end
end Go.Proofs.Cl

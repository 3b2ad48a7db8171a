/- Steps. -/
import Derived.Test.YtebfaobobccikaaGreatDoorLP39
import Derived.Test.YtebfaobobccikaaGreatDoorLP31
set_option linter.all false
set_option maxRecDepth 99999
set_option maxHeartbeats 0
open Go.SL
open Go.Value renaming int->V,slice->N,pointer->H,string->Y,tuple->I
open Go.Obj renaming cells->Z
open Go.Ending renaming returned->K
open Go renaming World->M,Value->G
open Go.Proofs.Tryz renaming prog->Q
open Option renaming some->W,none->U
open Go.Proofs.Tryz
open Go.World renaming size_alloc->A2,block_lt_of_cell?->K2
open List renaming length_map->B2,getElem?_eq_getElem->H2,setIfInBounds_toArray->L2,set_cons_zero->M2,length_append->O2,length_singleton->P2,take_of_length_le->R2,map_cons->S2
open Nat renaming le_refl->E2
namespace Go.SL
def lE (T:Tr) (p:List UInt8):Int:=if (bV T p).1≠0 then (bV T p).1 else match T (bV T p).2 with
 | some (.dir _)=>0
 | _=>8
end Go.SL
namespace Go.Proofs.Cl
open RowKit SL Proofs.Nn Proofs.Ba Proofs.Su Proofs.Fs
attribute [local go_sem] Oper.semAt_some
def gy (a:Nat) (v:G):ai:=pt a (Z #[v] 31 (0,0))
def zE (a:Nat) (l:List (List UInt8)):ai:=ex fun u=>ei u l*gy a u
theorem pX {w:M} {a:Nat} {l:List (List UInt8)} {F:ai}:ag w (zE a l*F)↔∃ u,ag w (ei u l*(gy a u*F)):=by
 unfold zE;rw [ag.ax];exact exists_congr fun u=>by rw [ay]
def vH (a:Nat) (L:List aH):ai:=ex fun g:List aH=>fact (g.Perm L/\eG jB g)*zE a (g.map aH.nm)
section
variable {n:Nat} {x:Fx n} {b v pc rc k:Nat} {T:Tr} {w:M} {F:ai} {p:List UInt8}
def PF (rc:Nat) (v:G) (g:List aH) (j:ai) (w0:M) (u:G) (wr:M):Prop:=
 ∃ i:Nat,i<=g.length/\u = V .i64 (i:Int)/\aj w0 wr/\ag wr (zE rc ((g.take i).map aH.nm)*(dJ v g*j))
theorem Oh (ht:Tidy n T) (o0:lE T p=0) (X0:(eP (T (bV T p).2)).length<=BA) (h:ag w (vA x b v T k*(aA pc p*(gy rc (N U 0 0)*F)))) :
  Calls Q 39 #[az v,az pc,az rc] w (Nx (lE T p) (vA x b v T k*(aA pc p*(vH rc (eP (T (bV T p).2))*F))) (vA x b v T k*(aA pc p*(gy rc (N U 0 0)*F))) w):=by
 refine aJ fun f1 HQ=>?_;have y:=h.to (by unfold vA;ac_rfl:_=dS x b (fR T) k*(pt v (bT b n)*(aA pc p*(gy rc (N U 0 0)*F))));have k0:w.cell? ⟨v,0,U⟩=W (az b)/\w.cell? ⟨v,1,U⟩=W (V .i64 (n:Int))/\w.cell? ⟨pc,0,U⟩=W (Y (str p)):=⟨y.ah.cell 0,y.ah.cell 1,y.aw.cell 0⟩
 have u0:=ae X0;clear X0;have q0:=ae h;have HT:=ae ht
 have d1:Hid (∀ e,e≠0->e=lE T p->∀ (w':M),aj w w'->ag w' (vA x b v T k*(aA pc p*(gy rc (N U 0 0)*F)))->f1 (.panicked (nt e)) w'):=fun e hc he w' d C=>
  HQ.out _ _ ⟨d,.inr ⟨by rw [<- he];exact hc,by rw [he],C⟩⟩
 clear h y
 cases C:bA p with
 | none=>
  exact absurd ((by unfold lE;rw [qE C];rfl:(1:Int)=lE T p).trans o0) (by decide)
 | some ps=>
  obtain ⟨n1,hl⟩:=dq C;have h0:=fD (T:=T) C;have s0:(eP (T (aT T 1 ps).2)).length<=BA:=by have:=u0.out;rw [h0] at this;exact this
  have r0:=ae s0;clear s0 u0;have hk:=ae (dQ (w:=w.drew) C);have o:=fun y=>ht.walk ps ht.root.choose_spec y;have hw:=ae fun (u:G) (w':M) (h':ag w' (vA x b v T k*(ei u ps*(aA pc p*(gy rc (N U 0 0)*F)))))=>fB HT.out hl gN h';have e0:=ae (show lE T p=if (aT T 1 ps).1≠0 then (aT T 1 ps).1 else match T (aT T 1 ps).2 with|some (.dir _)=>0|_=>8 by unfold lE;rw [h0]);rw [h0] at HQ;have HY:=ae o;clear ht C hl n1 h0 o;generalize aT T 1 ps=pw at *;obtain ⟨wc,id⟩:=pw;dsimp only at hw HY e0 HQ r0
  by_cases hc:wc=0
  .subst hc
   obtain ⟨r1,o⟩:=HY.out rfl
   cases r1 with
   | file f=>
    have b0:(8:Int)=lE T p:=by rw [e0.out,if_neg (by decide),o]
    exact absurd (b0.trans o0) (by decide)
   | dir L=>
    have b0:lE T p=0:=by rw [e0.out,if_neg (by decide),o]
    have hE:=HT.out.pC _ _ o;have o1:L.length<=BA:=by have:=r0.out;rw [o] at this;exact this
    have R0:=ae fun (u:G) (w':M) (h':ag w' (dS x b (fR T) k*(pt v (bT b n)*(aA pc p*(ei u ps*(gy rc (N U 0 0)*F))))))=>GY h' (kJ o) hE.ok o1 hE.nd;have K0:=ae dm;have HL:=ae hE.len;rw [b0,o] at HQ;clear o HY e0 d1 hE b0
    go_enter func39,ntmps39
    go_wp2_with fail
    go_region_held3 (fun w'=>w'.cell? ⟨v,0,U⟩=W (az b)/\w'.cell? ⟨v,1,U⟩=W (V .i64 (n:Int))/\w'.cell? ⟨pc,0,U⟩=W (Y (str p)))
     (first|exact k0|exact k1|exact k2|exact k3|go_keep)
     (first
     | (go_at_call 31;refine hk.out.mono ?_;rintro e w4 ⟨u,rfl,d4,h4⟩;have h5:=(h4.under q0.out.drew).to (by ac_rfl:_=vA x b v T k*(ei u ps*(aA pc p*(gy rc (N U 0 0)*F))));have h6:=h5.to (by unfold vA;ac_rfl:_=pt v (bT b n)*(aA pc p*(dS x b (fR T) k*(ei u ps*(gy rc (N U 0 0)*F)))));have k1:w4.cell? ⟨v,0,U⟩=W (az b)/\w4.cell? ⟨v,1,U⟩=W (V .i64 (n:Int))/\w4.cell? ⟨pc,0,U⟩=W (Y (str p)):=⟨h6.cell 0,h6.cell 1,h6.ah.cell 0⟩;have c1:=ae (hw.out u w4 h5))
     | (go_at_call 32;refine c1.out.mono ?_;rintro e w5 ⟨he,d5,h7⟩;obtain rfl:=he.elim (fun h=>h.2) (fun h=>absurd rfl h.1);have h8:=h7.to (by unfold vA;ac_rfl:_=dS x b (fR T) k*(pt v (bT b n)*(aA pc p*(ei u ps*(gy rc (N U 0 0)*F)))));have k2:w5.cell? ⟨v,0,U⟩=W (az b)/\w5.cell? ⟨v,1,U⟩=W (V .i64 (n:Int))/\w5.cell? ⟨pc,0,U⟩=W (Y (str p)):=⟨h8.ah.cell 0,h8.ah.cell 1,h8.aw.cell 0⟩;have S0:=ae (R0.out u w5 h8))
     | (go_at_call 40;refine S0.out.mono ?_;rintro e w6 ⟨u2,g,rfl,pW,sW,d6,h9⟩;have k3:w6.cell? ⟨v,0,U⟩=W (az b)/\w6.cell? ⟨v,1,U⟩=W (V .i64 (n:Int))/\w6.cell? ⟨pc,0,U⟩=W (Y (str p)):=⟨h9.aw.cell 0,h9.aw.cell 1,h9.aD.cell 0⟩;obtain ⟨E,j,rfl⟩:=aE h9))
    rename_i h1;have D6:=ae ((((aj.refl w).drew.trans d4).trans d5).trans d6);have H9:=ae (h9.to (by unfold vA;ac_rfl:_=dJ (N E g.length j) g*(gy rc (N U 0 0)*(vA x b v T k*(aA pc p*(ei u ps*F))))));have i1:g.length<=3840:=by rw [pW.length_eq];exact HL.out
    have PW:=ae pW;have SW:=ae sW;clear h1 k0 k1 k2 k3 h4 h5 h6 h7 h8 h9 d4 d5 d6 c1 S0 R0 hw hk he q0 HL pW sW
    go_wp2_with fail
    refine (K0.out _).mono ?_;rintro e w7 ⟨rfl,rfl⟩;clear K0
    go_wp2_with fail
    have hZ:=H9.out.to (by ac_rfl:_=gy rc (N U 0 0)*(dJ (N E g.length j) g*(vA x b v T k*(aA pc p*(ei u ps*F)))));obtain ⟨r,hz⟩:∃ r,vA x b v T k*(aA pc p*(ei u ps*F))=r:=⟨_,rfl⟩
    rw [hz] at hZ;have y:PF rc (N E g.length j) g r w (V .i64 0) w6:=⟨0,Nat.zero_le _,rfl,D6.out,pX.2 ⟨N U 0 0,hZ.eQ 9 1⟩⟩
    have n0:=ae y;have HZ:=ae hz.symm;obtain ⟨z,hN⟩:∃ z,g.length=z:=⟨_,rfl⟩
    have HN:=ae hN;have t1:(z:Int)<=3840:=by omega
    clear hZ y hz i1 H9 D6;rw [hN];clear hN
    go_loopw [24] (fun u wr=>PF rc (N E g.length j) g r w u wr) (fun u _=>z-(intOf u).toNat)
    case atStart=>exact n0.out
    case round=>
     obtain ⟨i,hi,rfl,l0,d0⟩:=hrel;rw [HN.out] at hi
     by_cases v1:i<z
     .have w1:(i:Int)<(z:Int):=by omega
      have p0:i<g.length:=by have:=HN.out;omega
      obtain ⟨v',A⟩:=pX.1 d0;obtain ⟨pa,m0,rfl⟩:=aE A;have h2:ag wr (sl 80 2 (N E g.length j) g.length (bD g)*(zE rc ((g.take i).map aH.nm)*r)):=d0.to (by unfold dJ;ac_rfl);obtain ⟨g0,c,e,e1,e2,l1,l2⟩:=nV h2 p0;simp only [Value.slice.injEq] at e;obtain ⟨rfl,-,rfl⟩:=e;have Z0:(g.take (i+1)).map aH.nm=(g.take i).map aH.nm++[(g[i]).nm]:=by rw [List.take_add_one,List.map_append,H2 p0];rfl
      have m1:((g.take i).map aH.nm).length=i:=by rw [B2,List.length_take];omega
      generalize g[i]=x at *;have z1:(z:Int)<=(j:Int):=by have:=HN.out;omega
      have hA:=(A.alloc (Z #[V .i64 (x.nd:Int),Y (str x.nm)] 80 (0,0))).alloc (Z #[Y (str x.nm)] 9 (0,0));simp only [A2] at hA;generalize hl:(g.take i).map aH.nm=l at *;have c0:wr.cell? ⟨rc,0,U⟩=W (N pa l.length m0):=A.ah.cell 0;have x1:rc<wr.heap.size:=K2 wr _ c0;have y1:g0<wr.heap.size:=K2 wr _ e1
      have hR:oG ((wr.alloc (Z #[V .i64 (x.nd:Int),Y (str x.nm)] 80 (0,0))).alloc (Z #[Y (str x.nm)] 9 (0,0))) 1 (N (W ⟨wr.heap.size+1,0,U⟩) 1 1) 1 [Y (str x.nm)]:=
       ⟨rfl,.inr ⟨_,_,rfl,fun q1 u hu=>by
        rw [Addr.add_lit,Nat.zero_add];exact (hA.cell q1).trans (by simpa using hu)⟩⟩
      obtain ⟨i0,L0,hz,W0,H0⟩:=info_parts qD;have G0:=hA.to (by unfold ei;ac_rfl:_=sl 9 1 (N pa l.length m0) l.length (strs l)*(gy rc (N pa l.length m0)*(dJ (N (W ⟨g0,0,U⟩) g.length j) g*(pt (wr.heap.size+1) (Z #[Y (str x.nm)] 9 (0,0))*(pt wr.heap.size (Z #[V .i64 (x.nd:Int),Y (str x.nm)] 80 (0,0))*r)))));obtain ⟨v2,w',V0,f0,Y0⟩:=ag.append (P:=Q) (ty:=31) underlying31 L0 hz W0 H0 rfl G0 hR (by intro u hu;rw [List.mem_singleton.1 hu];rfl) (by unfold maxLen;omega) (by omega);obtain ⟨aa,ac,rfl⟩:=aE f0;have g1:w'.cell? ⟨rc,0,U⟩=W (N pa l.length m0):=f0.ah.cell 0;have s1:w'.frozen? ⟨rc,0,U⟩=false:=f0.ah.frozen 0;have j0:=f0.ah.setCell 0 (N aa (l.length+1) ac);simp only [L2,M2] at j0;have e:strs l++[Y (str x.nm)]=strs (l++[x.nm]):=by unfold strs;rw [List.map_append];rfl
      rw [e] at j0
      have T0:ag (w'.setCell ⟨rc,0,U⟩ (N aa (l.length+1) ac)) (zE rc ((g.take (i+1)).map aH.nm)*(dJ (N (W ⟨g0,0,U⟩) g.length j) g*r)):=by
       rw [Z0];refine pX.2 ⟨N aa (l.length+1) ac,?_⟩;unfold ei;rw [O2,P2];exact (j0.to (by unfold gy;ac_rfl:_=(pt (wr.heap.size+1) (Z #[Y (str x.nm)] 9 (0,0))*pt wr.heap.size (Z #[V .i64 (x.nd:Int),Y (str x.nm)] 80 (0,0)))*(sl 9 1 (N aa (l.length+1) ac) (l.length+1) (strs (l++[x.nm]))*(gy rc (N aa (l.length+1) ac)*(dJ (N (W ⟨g0,0,U⟩) g.length j) g*r))))).right
      have x0:=ae T0;have F0:=ae ((((l0.alloc (Z #[V .i64 (x.nd:Int),Y (str x.nm)] 80 (0,0))).alloc (Z #[Y (str x.nm)] 9 (0,0))).trans Y0).setCell ⟨rc,0,U⟩ (N aa (l.length+1) ac));have D0:=ae V0;have Hi:=ae hi;clear d0 A h2 hA hR L0 hz W0 H0 G0 V0 f0 Y0 j0 T0 e Z0 hl l0 n0 hi p0 l1 m1;obtain ⟨ll,N0⟩:∃ ll,l.length=ll:=⟨_,rfl⟩
      rw [N0] at D0 x0 F0 c0 g1;clear N0;have A1:(j:Int)<=9223372036854775807:=by omega
      clear l2
      go_wp2_with (at_builtin;refine wpList_append_run D0.out _ _ rfl rfl rfl rfl rfl ?_)
      refine ⟨⟨i+1,by have:=HN.out;omega,by go_num,F0.out,x0.out⟩,by simp [intOf];omega⟩
     .obtain rfl:i=z:=by omega
      have A:ag wr (zE rc (g.map aH.nm)*(dJ (N E g.length j) g*r)):=by rw [R2 (by rw [HN.out];exact E2 _)] at d0;exact d0
      rw [HZ.out] at A
      have h2:ag wr (vH rc L*(vA x b v T k*(aA pc p*F))):=by
       unfold vH;rw [ag.ax];refine ⟨g,?_⟩;rw [ay];exact ag.au.2 ⟨⟨PW.out,SW.out⟩,(A.to (by ac_rfl:_=(dJ (N E g.length j) g*ei u ps)*(zE rc (g.map aH.nm)*(vA x b v T k*(aA pc p*F))))).right⟩
      have j1:=ae (HQ.out (K (I #[])) wr ⟨l0,.inl ⟨rfl,rfl,h2.to (by ac_rfl)⟩⟩);clear A h2 HQ d0 l0 n0
      go_wp2_with fail
      go_end0
      exact j1.out
  .have b0:wc=lE T p:=by rw [e0.out,if_pos hc]
   exact absurd (b0.trans o0) hc
end
section
variable {t:Pl} {q:Dk t.n} {s s':Ds} {T:Tr} {k m:Nat} {O:mS} {w:M} {F:ai} {p:List UInt8}
def Vf (t:Pl) (m:Nat) (s:Ds) (O:mS) (c:Int) (L:List aH) (F:ai) (w:M) (e:Ending) (w':M):Prop:=
 ∃ s',aj w w'/\s.Rd s'/\((c≠0/\e = K (I #[N U 0 0,V .i64 c])/\ag w' (fQ t s' m O*F)) \/
  (c=0/\∃ u g,g.Perm L/\eG jB g/\e = K (I #[u,V .i64 0])/\ag w' (ei u (g.map aH.nm)*(fQ t s' m O*F))))
theorem Ap (A:oI t q s T k) (hB:s.B<=1000000) (b0:lE T p=0) (d0:(eP (T (bV T p).2)).length<=BA) (h:ag w (fQ t s m O*F)) :
  Calls Q 12 #[az t.f,Y (str p)] w (Vf t m s O (lE T p) (eP (T (bV T p).2)) F w):=by
 refine aJ fun e0 j=>?_;have y:=((h.alloc (Z #[Y (str p)] 9 (0,0))).alloc (Z #[N U 0 0] 31 (0,0)))
 simp only [A2] at y;have dA:=ae (((aj.refl w).alloc (Z #[Y (str p)] 9 (0,0))).alloc (Z #[N U 0 0] 31 (0,0)))
 have hd:=ae fun (pc rc:Nat) (w':M) (h':ag w' (fQ t s m O*((aA pc p*gy rc (N U 0 0))*F)))=>
  lP A hB 39 #[az pc,az rc] (aA pc p*gy rc (N U 0 0)) (lE T p) (aA pc p*vH rc (eP (T (bV T p).2))) (aA pc p*gy rc (N U 0 0)) (enters func39 (by kernel_rfl) rfl)
   (fun x v b w1 c0 hw=>(Oh (x:=x) (b:=b) (v:=v) (k:=k) (pc:=pc) (rc:=rc) (F:=eJ t m O*c0) (p:=p) A.ty b0 d0 (hw.to (by ac_rfl))).mono fun e w' hq=>by simpa only [ay] using hq) h'
 have HA:=ae y;clear b0;unfold Vf at j;clear h y hB A;generalize lE T p=cc at *;generalize eP (T (bV T p).2)=L at *
 go_enter func12,ntmps12
 go_wp2_with fail
 generalize (w.alloc (Z #[Y (str p)] 9 (0,0))).alloc (Z #[N U 0 0] 31 (0,0))=w1 at *;generalize w.heap.size=pc at *;refine (hd.out pc (pc+1) _ (HA.out.to (by unfold aA gy;ac_rfl))).mono ?_;rintro e w2 ⟨s',rfl,d2,r,i⟩;have l:=ae (dA.out.trans d2);clear hd dA HA d2
 by_cases z:cc=0
 .subst z
  rw [if_pos rfl] at i;have h3:=i.to (by unfold vH;ac_rfl:_=(ex fun g:List aH=>fact (g.Perm L/\eG jB g)*zE (pc+1) (g.map aH.nm))*(fQ t s' m O*(aA pc p*F)));obtain ⟨g,u⟩:=ag.ax.1 h3;rw [ay] at u;obtain ⟨⟨pW,sW⟩,h5⟩:=ag.au.1 u;obtain ⟨f0,o⟩:=pX.1 h5;obtain ⟨E,uc,rfl⟩:=aE o;have t0:w2.cell? ⟨pc+1,0,U⟩=W (N E (g.map aH.nm).length uc):=o.ah.cell 0;have C:=ae (j.out _ _ ⟨s',l.out,r,.inr ⟨rfl,_,g,pW,sW,rfl,(o.to (by ac_rfl:_=(gy (pc+1) (N E (g.map aH.nm).length uc)*aA pc p)*(ei (N E (g.map aH.nm).length uc) (g.map aH.nm)*(fQ t s' m O*F)))).right⟩⟩);clear i h3 u h5 o j r l pW sW;generalize (g.map aH.nm).length=ln at *
  go_wp2_with fail
  exact C.out
 .rw [if_neg z] at i
  have C:=ae (j.out _ _ ⟨s',l.out,r,.inl ⟨z,rfl,(i.to (by ac_rfl:_=(aA pc p*gy (pc+1) (N U 0 0))*(fQ t s' m O*F))).right⟩⟩);clear i j r l
  go_wp2_with fail
  exact C.out
end
end Go.Proofs.Cl
namespace Go.SL
open RowKit
def yy (T:Tr) (d id:Nat) (nm:List UInt8) (f:AF) (L:List aH):Tr:=Go.SL.dp (gj T d (L++[⟨id,nm⟩])) id (W (.file { f with lk:=f.lk+1 }))
theorem Tidy.IE {n id:Nat} {T:Tr} {f:AF} (h:Tidy n T) (g:T id=W (.file f)):0<=f.lk:=by
 have:=h.ref id;rw [g] at this;simp only [CH] at this;omega
theorem Tidy.NO {n id:Nat} {T:Tr} {f:AF} (h:Tidy n T) (g:T id=W (.file f)):id≠1:=by
 rintro rfl;obtain ⟨L,i⟩:=h.root;rw [i] at g;cases g
theorem Tidy.link {n d id:Nat} {T:Tr} {L:List aH} {nm:List UInt8} {f:AF} (h:Tidy n T) (i:T id=W (.file f)) (j:T d=W (.dir L)) (C:0<id) (b0:n<=3840) (u:cM nm=true) (z:iz L nm=U) (r:L.length<3840):Tidy n (yy T d id nm f L):=by
 have y:id≠d:=by rintro rfl;rw [i] at j;cases j
 have E:=h.lt i;have l:=h.w.add j ((h.pC _ _ j).snoc (id:=id) (by omega) (by omega) u z r);have A:gj T d (L++[⟨id,nm⟩]) id=W (.file f):=by unfold gj;rw [aK _ _ y];exact i
 have o:=l.leaf (y':=W (.file { f with lk:=f.lk+1 })) A rfl rfl (h.NO i) (fun L e=>by cases e) (fun g e=>by cases e;exact (h.files _ _ i:f.kd=1));refine o.tidy fun x=>?_
 by_cases e:x=id
 .subst e;simp [CH];omega
 .simp [e]
def gX (T:Tr) (k:Nat) (p1 p2:List UInt8):Int:=match bA p1,bA p2 with
 | some ps,W qs=>if (aT T 1 ps).1≠0 then (aT T 1 ps).1 else match T (aT T 1 ps).2 with
  | some (.file f)=>if fI T qs≠0 then fI T qs else if 60000<=f.lk then 9 else kP k (eP (T (dw T qs))) (cG qs)
  | _=>8
 | _,_=>1
def AR (T:Tr) (k:Nat) (p1 p2:List UInt8) (c:Int) (T':Tr) (k':Nat):Prop:=
 c=gX T k p1 p2/\(c=0->∃ ps qs id f L,bA p1=W ps/\bA p2=W qs/\aT T 1 ps=(0,id)/\T id=W (.file f)/\T (dw T qs)=W (.dir L)/\iz L (cG qs)=U /\
  T'=yy T (dw T qs) id (cG qs) f L/\k'=k+aY L.length-aY (L.length+1))
end Go.SL
namespace Go.Proofs.Cl
open RowKit SL Proofs.Nn Proofs.Ba Proofs.Su Proofs.Fs
attribute [local go_sem] Oper.semAt_some
section
variable {n:Nat} {x:Fx n} {b v pc qc k:Nat} {T:Tr} {w:M} {F:ai} {p1 p2:List UInt8}
theorem KA (hn:n<=3840) (ht:Tidy n T) (x1:∀ id m0,T id=W m0->0<id) (E:gX T k p1 p2=0) (h:ag w (vA x b v T k*(aA pc p1*(aA qc p2*F)))) :
  Calls Q 45 #[az v,az pc,az qc] w (To x b v (AR T k p1 p2) (aA pc p1*(aA qc p2*F)) w):=by
 refine aJ fun b2 HQ=>?_;have k0:w.cell? ⟨pc,0,U⟩=W (Y (str p1))/\w.cell? ⟨qc,0,U⟩=W (Y (str p2)):=⟨h.ah.cell 0,h.aw.cell 0⟩
 have S0:=ae h;have i:=ae ht;clear h ht
 cases hs:bA p1 with
 | none=>
  have l:(1:Int)=gX T k p1 p2:=by unfold gX;rw [hs]
  exact absurd (l.trans E) (by decide)
 | some ps=>
  cases d0:bA p2 with
  | none=>
   have l:(1:Int)=gX T k p1 p2:=by unfold gX;rw [hs,d0]
   exact absurd (l.trans E) (by decide)
  | some qs=>
   obtain ⟨U1,hl⟩:=dq hs;obtain ⟨t1,j1⟩:=dq d0;have hk:=ae (dQ (w:=w.drew) hs);have i1:=ae fun w'=>dQ (w:=w') d0
   have c0:=ae (show gX T k p1 p2=if (aT T 1 ps).1≠0 then (aT T 1 ps).1 else match T (aT T 1 ps).2 with
    | some (.file f)=>if fI T qs≠0 then fI T qs else if 60000<=f.lk then 9 else kP k (eP (T (dw T qs))) (cG qs)
    | _=>8 by unfold gX;rw [hs,d0])
   have o:=fun h0=>i.out.walk ps i.out.root.choose_spec h0;have HY:=ae o;have HL:=ae hl;have H1:=ae j1;have K1:=ae t1;have L1:=ae x1
   have p0:=ae fun (id:Nat) (f:AF) (L:List aH) (e1:aT T 1 ps=(0,id)) (e2:T id=W (.file f)) (e3:T (dw T qs)=W (.dir L)) (e4:iz L (cG qs)=U) (e5:gX T k p1 p2=0) (e6:Tidy n (yy T (dw T qs) id (cG qs) f L)) (w':M) (d:aj w w') (V1:ag w' (vA (x.more 8) b v (yy T (dw T qs) id (cG qs) f L) (k+aY L.length-aY (L.length+1))*(aA pc p1*(aA qc p2*F))))=>
    HQ.out (K (I #[])) w' ⟨0,_,_,8,⟨e5.symm,fun _=>⟨ps,qs,id,f,L,hs,d0,e1,e2,e3,e4,rfl,rfl⟩⟩,fun _=>e6,.inl ⟨rfl,rfl⟩,d,by decide,V1⟩
   clear hs d0 HQ U1 hl t1 j1 o x1
   go_enter func45,ntmps45
   go_wp2_with fail
   go_region_held3 (fun w'=>w'.cell? ⟨pc,0,U⟩=W (Y (str p1))/\w'.cell? ⟨qc,0,U⟩=W (Y (str p2)))
    (first|exact k0|exact k1|exact k2|go_keep)
    (first
     | (go_at_call 31;(with_reducible refine (i1.out _).mono ?_);rintro e w5 ⟨u2,rfl,d5,h6⟩;have u:=h6.under h5;have k2:w5.cell? ⟨pc,0,U⟩=W (Y (str p1))/\w5.cell? ⟨qc,0,U⟩=W (Y (str p2)):=⟨u.aD.cell 0,u.aM.cell 0⟩)
     | (go_at_call 31;(with_reducible refine hk.out.mono ?_);rintro e w4 ⟨f0,rfl,d4,h4⟩;have h5:=h4.under S0.out.drew;have k1:w4.cell? ⟨pc,0,U⟩=W (Y (str p1))/\w4.cell? ⟨qc,0,U⟩=W (Y (str p2)):=⟨h5.aw.cell 0,h5.aD.cell 0⟩))
   rename_i R1;have h8:=u.to (by ac_rfl:_=vA x b v T k*(ei f0 ps*(ei u2 qs*(aA pc p1*(aA qc p2*F)))));have hw:=ae (fB i.out HL.out gN h8);have D5:=ae (((aj.refl w).drew.trans d4).trans d5);clear R1 k0 k1 k2 h4 h5 h6 u h8 d4 d5 hk i1 S0 HL;obtain ⟨pw,y1⟩:∃ pw,aT T 1 ps=pw:=⟨_,rfl⟩
   rw [y1] at hw HY c0 p0;clear y1;obtain ⟨wc,id⟩:=pw;dsimp only at hw HY c0
   go_wp2_with fail
   refine hw.out.mono ?_;rintro e w6 ⟨he,d6,h6⟩;clear hw;have D6:=ae (D5.out.trans d6);clear D5 d6;rcases he with ⟨rfl,rfl⟩|⟨l,rfl⟩
   .obtain ⟨m0,o⟩:=HY.out rfl
    have c1:=ae (la o h6);clear h6
    go_wp2_with fail
    refine c1.out.mono ?_;rintro e r hq;rcases hq with ⟨e0,z,rfl,D1,Y1,E1,Z1,d7,u⟩|⟨e0,rfl,d7,u⟩
    .cases m0 with
     | dir L=>exact absurd e0 (by show ¬ (2:Int)=1;decide)
     | file f=>
      have b0:gX T k p1 p2=if fI T qs≠0 then fI T qs else if 60000<=f.lk then 9 else kP k (eP (T (dw T qs))) (cG qs):=by rw [c0.out,if_neg (by decide),o]
      have n0:=ae b0;obtain ⟨hX,w1,g1⟩:=nK D1;have y:=u.alloc (Z mR 65 (0,0));have Hz:=ae y.heap;have hE:=y.setRow (cs':=ints z.l);have n1:((r.alloc (Z mR 65 (0,0))).setRow r.heap.size (ints z.l)).cell? ⟨r.heap.size,1,U⟩=W (V .i64 f.lk):=by rw [show f.lk=z.lk from E1.symm];exact hE.cell 1
      have HE:=ae (hE.to (by ac_rfl:_=vA x b v T k*(ei u2 qs*(pt r.heap.size (Z (ints z.l) 65 (0,0))*(ei f0 ps*(aA pc p1*(aA qc p2*F)))))));have D7:=ae (((D6.out.trans d7).alloc (Z mR 65 (0,0))).setRow r.heap.size (ints z.l));have X0:=ae w1;have W0:=ae g1;have HX:=ae hX;have N1:=ae n1;have a2:=ae e0;have C:=ae o;clear c1 y hE hX w1 g1 n1 d7 u D1 Y1 E1 Z1 o HY c0 b0 e0 D6;unfold mR at *
      go_upto_region 3 with (refine wpList_store_row (by exact rfl) 65 (.tmp 7) (.tmp 18) (by exact rfl) r.heap.size (ints z.l) (by exact rfl) (by exact rfl) 65 _ (by with_reducible exact Hz.out) W0.out (by rw [HX.out];rfl) X0.out ?_)
      generalize W1:(r.alloc (Z #[V .i64 0,V .i64 0,V .i64 0,V .i64 0,V .i64 0,V .i64 0,V .i64 0,V .i64 0,V .i64 0,V .i64 0,V .i64 0,V .i64 0,V .i64 0,V .i64 0,V .i64 0,V .i64 0,V .i64 0,V .i64 0,V .i64 0,V .i64 0] 65 (0,0))).setRow r.heap.size (ints z.l)=w8 at *;generalize r.heap.size=nb at *;have d1:=ae (vB i.out H1.out (fun c2 P hW=>eE hW) gN HE.out);clear W1 Hz X0 W0 HX
      go_wp2_with fail
      refine d1.out.mono ?_;rintro e g ⟨he,d9,h9⟩;have n1:g.cell? ⟨nb,1,U⟩=W (V .i64 f.lk):=(h9.aw.cell 1).trans ((HE.out.aw.cell 1).symm.trans N1.out);have D9:=ae (D7.out.trans d9);clear d1 HE N1 D7 d9;rcases he with ⟨G0,rfl⟩|⟨l,rfl⟩
      .obtain ⟨r1,L,A,hp⟩:=xx i.out G0
       have l0:=FR K1.out r1;have b0:gX T k p1 p2=if 60000<=f.lk then 9 else kP k L (cG qs):=by rw [n0.out,if_neg (by rw [G0];simp),A];rfl
       have g0:=ae b0;have q0:=ae fun e5 e6=>p0.out id f L rfl C.out A hp e5 e6;have hE:=i.out.pC _ _ A;have H0:=L1.out _ _ C.out;have f2:=i.out.lt C.out;have z1:=fun hl=>i.out.link C.out A H0 hn l0 hp hl;have r0:=ae z1;obtain ⟨d,F0⟩:∃ d,dw T qs=d:=⟨_,rfl⟩
       obtain ⟨nm,L0⟩:∃ nm,cG qs=nm:=⟨_,rfl⟩
       rw [F0,L0] at q0 r0 ⊢;rw [L0] at g0 l0 hp;rw [F0] at A;have y:=h9.alloc (Z #[V .i64 (d:Int),Y (str nm)] 83 (0,0));have dB:=ae (D9.out.alloc (Z #[V .i64 (d:Int),Y (str nm)] 83 (0,0)));have A1:=bN g (Z #[V .i64 (d:Int),Y (str nm)] 83 (0,0)) _ _ n1;have hC:=y.to (by ac_rfl:_=vA x b v T k*(pt g.heap.size (Z #[V .i64 (d:Int),Y (str nm)] 83 (0,0))*(ei u2 qs*(pt nb (Z (ints z.l) 65 (0,0))*(ei f0 ps*(aA pc p1*(aA qc p2*F)))))));have s0:(g.alloc (Z #[V .i64 (d:Int),Y (str nm)] 83 (0,0))).cell? ⟨g.heap.size,0,U⟩=W (V .i64 (d:Int)):=y.cell 0;have s1:(g.alloc (Z #[V .i64 (d:Int),Y (str nm)] 83 (0,0))).cell? ⟨g.heap.size,1,U⟩=W (Y (str nm)):=y.cell 1;have ha:=ae (Bo (child:=id) H0 (by omega) A hE l0 hC);have HB:=ae hC;have HD:=ae A;have HP:=ae hp;have o1:=i.out.IE C.out;have d2:=ae fun w=>dR w 9 (by decide);have g2:nb<g.heap.size:=K2 g _ n1;clear y hC h9 A hE l0 hp b0 F0 L0 G0 r1 n0 p0 H0 z1 n1
       by_cases j0:60000<=f.lk
       .exact absurd ((by rw [g0.out,if_pos j0]:gX T k p1 p2=9).symm.trans E) (by decide)
       .have m1:f.lk<60000:=by omega
        have o0:=ae (show gX T k p1 p2=kP k L nm by rw [g0.out,if_neg j0]);clear g0;obtain ⟨lk,K0⟩:∃ lk,f.lk=lk:=⟨_,rfl⟩
        rw [K0] at A1 j0 m1 o1;have T0:=ae K0;clear K0
        go_wp2_with fail
        generalize g.alloc (Z #[V .i64 (d:Int),Y (str nm)] 83 (0,0))=i2 at *;generalize g.heap.size=sp at *;refine ha.out.mono ?_;rintro e B1 hq;rcases hq with ⟨j,rfl,u0,x0⟩|⟨j,rfl,u0,x0⟩
        .have l1:L.length<3840:=by
          unfold kP at j;rw [HP.out] at j;simp only [Option.isSome_none,Bool.false_eq_true,if_false] at j
          split at j
          .exact absurd j (by decide)
          .omega
         have f1:id≠d:=by rintro rfl;have h1:=C.out;have h2:=HD.out;rw [h1] at h2;cases h2
         have Z0:fR (gj T d (L++[⟨id,nm⟩])) id=W f:=ld (by unfold gj;rw [aK _ _ f1];exact C.out);have N0:wrap64 (f.lk+1)=f.lk+1:=by have:=T0.out;unfold wrap64;omega
         have i0:=x0.to (by unfold vA;ac_rfl:_=dS (x.more 5) b (fR (gj T d (L++[⟨id,nm⟩]))) (k+aY L.length-aY (L.length+1))*(pt v (bT b n)*(pt sp (Z #[V .i64 (d:Int),Y (str nm)] 83 (0,0))*(ei u2 qs*(pt nb (Z (ints z.l) 65 (0,0))*(ei f0 ps*(aA pc p1*(aA qc p2*F))))))));have v0:B1.cell? ⟨v,0,U⟩=W (az b):=i0.ah.cell 0;have v1:B1.cell? ⟨v,1,U⟩=W (V .i64 (n:Int)):=i0.ah.cell 1;have q1:=ae (FH i0 Z0 1 (by rw [N0];have:=T0.out;omega));have HW:=ae N0;have O1:=ae dm;have V0:=ae (q0.out (by rw [o0.out,j]) (r0.out l1));have R0:=ae (dB.out.trans u0);clear x0 i0 Z0 N0 f1 l1 j u0 dB ha HB A1 s0 s1 j0 m1 o1 q0 r0 o0
         go_wp2_with fail
         refine q1.out.mono ?_;rintro e X1 ⟨rfl,Y0,D0⟩;rw [HW.out,show dp (fR (gj T d (L++[⟨id,nm⟩]))) id (W { f with lk:=f.lk+1 })=fR (yy T d id nm f L) from sk (gj T d (L++[⟨id,nm⟩])) id (.file { f with lk:=f.lk+1 })] at D0;have S1:=ae (V0.out X1 (R0.out.trans Y0) (D0.to (by unfold vA;ac_rfl:_=(pt sp (Z #[V .i64 (d:Int),Y (str nm)] 83 (0,0))*(ei u2 qs*(pt nb (Z (ints z.l) 65 (0,0))*ei f0 ps)))*(vA (x.more 8) b v (yy T d id nm f L) (k+aY L.length-aY (L.length+1))*(aA pc p1*(aA qc p2*F))))).right);clear q1 D0 Y0 R0 V0 v0 v1
         go_wp2_with fail
         refine (O1.out _).mono ?_;rintro e j2 ⟨rfl,rfl⟩
         go_wp2_with fail
         go_end0
         exact S1.out
        .exact absurd (o0.out.symm.trans E) j
      .exact absurd ((by rw [n0.out,if_pos l]:gX T k p1 p2=_).symm.trans E) l
    .have b0:(8:Int)=gX T k p1 p2:=by
      rw [c0.out,if_neg (by decide),o]
      cases m0 with
      | dir L=>rfl
      | file f=>exact absurd (i.out.files _ _ o) e0
     exact absurd (b0.trans E) (by decide)
   .exact absurd ((by rw [c0.out,if_pos l]:gX T k p1 p2=_).symm.trans E) l
end
section
variable {t:Pl} {q:Dk t.n} {s s':Ds} {T:Tr} {k m:Nat} {O:mS} {w:M} {F:ai} {p1 p2:List UInt8}
theorem oI.pos (h:oI t q s T k):∀ id y,T id=W y->0<id:=fun id y g=>(h.at_.has.wf (f:=y.af) (by unfold fR;rw [g];rfl)).2.1
theorem My (g:oI t q s T k) (y:s.B<=1000000) (C:gX T k p1 p2=0) (h:ag w (fQ t s m O*F)) :
  Calls Q 15 #[az t.f,Y (str p1),Y (str p2)] w (RC t q m s O (AR T k p1 p2) F w):=by
 refine aJ fun d0 l=>?_;have i:=(h.alloc (Z #[Y (str p1)] 9 (0,0))).alloc (Z #[Y (str p2)] 9 (0,0));simp only [A2] at i;have r:=ae (((aj.refl w).alloc (Z #[Y (str p1)] 9 (0,0))).alloc (Z #[Y (str p2)] 9 (0,0)))
 have A:=ae fun (pc qc:Nat) (w':M) (h':ag w' (fQ t s m O*((aA pc p1*aA qc p2)*F)))=>
  rh g y 45 #[az pc,az qc] (aA pc p1*aA qc p2) (AR T k p1 p2) (enters func45 (by kernel_rfl) rfl)
   (fun x v b w1 b0 hw=>(KA (x:=x) (b:=b) (v:=v) (k:=k) (pc:=pc) (qc:=qc) (F:=eJ t m O*b0) (p1:=p1) (p2:=p2) g.hn g.ty g.pos C (hw.to (by ac_rfl))).mono fun e w' hq=>by simpa only [ay] using hq) h'
 have j:=ae i;clear C;clear h i g y
 go_enter func15,ntmps15
 go_wp2_with fail
 generalize (w.alloc (Z #[Y (str p1)] 9 (0,0))).alloc (Z #[Y (str p2)] 9 (0,0))=w1 at *;generalize w.heap.size=pc at *;refine (A.out pc (pc+1) _ (j.out.to (by unfold aA;ac_rfl))).mono ?_;rintro e w2 ⟨c,T',k',s',z,rfl,o,E,u⟩;have c0:=ae (l.out _ _ ⟨c,T',k',s',z,rfl,r.out.trans o,E,(u.to (by ac_rfl:_=(aA pc p1*aA (pc+1) p2)*(fQ t s' m O*F))).right⟩);clear A r j o E z u l
 go_wp2_with fail
 exact c0.out
end
end Go.Proofs.Cl
namespace Go.SL
def Jl (O:List (Int × (Nat × Nat))) (id:Nat):Bool:=O.any fun p=>p.2.1 == id
end Go.SL
namespace Go.Proofs.Cl
open RowKit SL Proofs.Nn Proofs.Ba Proofs.Su Proofs.Fs
attribute [local go_sem] Oper.semAt_some
section
variable {t:Pl} {m id:Nat} {O:mS} {w:M} {F:ai}
theorem Pr {a c:Nat × Nat} (h:CI a=CI c):a.1=c.1:=by
 unfold CI at h;injection h with h
 have g:=congrArg (fun x:Array G=>x[0]?) h;simp at g;omega
def Nq (m:Nat) (o:Obj) (O:mS) (id r:Nat) (i:ai) (w0:M) (k:Nat) (wr:M):Prop:=
 ∃ D g,O.length<=D.length+k/\Iter m o (mL O) D g/\(∀ x:Int × (Nat × Nat),(x.1,CI x.2) ∈ D->x.2.1≠id)/\ag wr (pt r g*(pt m o*i))/\aj w0 wr
theorem Ed (h:ag w (eJ t m O*F)):Calls Q 35 #[az t.f,V .i64 (id:Int)] w fun e w'=>e = K (.bool (Jl O id))/\aj w w'/\ag w' (eJ t m O*F):=by
 refine aJ fun N0 HQ=>?_;have c1:=yI h;have h1:ag w (mp m (mL O)*(pt t.f (im t (.map (W m)))*F)):=h.to (by unfold eJ;ac_rfl);obtain ⟨o,ho,hb,i⟩:=h1.mY;obtain ⟨it,F0,l0⟩:=kW (P:=Q) underlying89 hb ho;have r:=ae fun (b:Bool) (s0:b=Jl O id) (w':M) (d:aj w w') (hs:ag w' (pt m o*(pt t.f (im t (.map (W m)))*F)))=>HQ.out (K (.bool b)) w' ⟨by rw [s0],d,(hs.tD ho).to (by unfold eJ;ac_rfl)⟩;generalize hZ:pt t.f (im t (.map (W m)))*F=e0 at *;have h0:Nq m o O id w.heap.size e0 w O.length (w.alloc it):=⟨[],it,by simp,l0,fun x g=>(by cases g),i.alloc it,(aj.refl w).alloc it⟩
 have j0:=ae h0;clear h h1 i hb hZ l0 h0 ho HQ
 go_enter func35,ntmps35
 go_wp2_with fail
 go_loopg [] O.length (fun k wr=>Nq m o O id w.heap.size e0 w k wr)
 case atStart=>exact j0.out
 case round=>
  obtain ⟨D,S0,d0,b0,u,j,y⟩:=hrel;clear F0 j0 c1;have E:wr.heap[m]?=W o:=j.ah.heap;have HD:=ae u;have L0:=ae d0;rcases j.next (P:=Q) E b0 with ⟨q0,o0⟩|⟨p,H0,w2,i,p0,o0,g0,c0,i0,k0,u0⟩
  .have n0:false=Jl O id:=by
    symm;unfold Jl;rw [List.any_eq_false];intro x g;have:=u x (q0.mem_iff.2 (List.mem_map.2 ⟨x,g,rfl⟩));simpa using this
   have f0:=ae (r.out false n0 wr y j.right);clear q0 j y E b0 u d0 r n0
   go_wp2_with fail
   exact f0.out
  .obtain ⟨x,g,G0⟩:=List.mem_map.1 i
   obtain ⟨x1,z,x3⟩:=x;subst G0;dsimp only at o0 u0;have C:=g0.alloc (Z #[V .i64 (z:Int),V .i64 (x3:Int)] 93 (0,0));have A:=(y.trans i0).alloc (Z #[V .i64 (z:Int),V .i64 (x3:Int)] 93 (0,0))
   by_cases hq:z=id
   .have r0:true=Jl O id:=by
     symm;unfold Jl;rw [List.any_eq_true];exact ⟨_,g,by simpa using hq⟩
    have f0:=ae (r.out true r0 _ A C.right.right);clear E b0 u d0 r r0 C A j g0 y i0 i p0 c0 k0 g HD;subst hq
    go_wp2_with fail
    exact f0.out
   .have R0:¬ (z:Int)=(id:Int):=by omega
    have m0:=zJ c0;rw [O2,P2] at m0;have D0:(mL O).length=O.length:=B2 _
    have HN:=ae (show Nq m o O id w.heap.size e0 w (gk-1) (w2.alloc (Z #[V .i64 (z:Int),V .i64 (x3:Int)] 93 (0,0))) from ⟨_,H0,by rw [O2,P2];omega,c0,fun K0 l=>by
     rcases List.mem_append.1 l with l|l
     .exact HD.out K0 l
     .rw [List.mem_singleton] at l
      have:=Pr (congrArg Prod.snd l);dsimp only at this;rw [this];exact hq,C.right,A⟩)
    have x0:gk-1<gk:=by omega
    clear E b0 u d0 r C A j g0 y i0 i p0 c0 k0 g hq m0 D0
    go_wp2_with fail
    go_roundg (gk-1)
    case measure=>exact x0
    case rel=>exact HN.out
end
end Go.Proofs.Cl
namespace Go.SL
def fN (T:Tr) (O:List (Int × (Nat × Nat))) (p:List UInt8):Int:=match bA p with
 | none=>1
 | some ps=>if (aT T 1 ps).1≠0 then (aT T 1 ps).1 else match T (aT T 1 ps).2 with
  | some (.file f)=>if f.lk=1/\Jl O (aT T 1 ps).2=true then 10 else 0
  | _=>8
def qg (T:Tr) (k:Nat) (O:List (Int × (Nat × Nat))) (p:List UInt8) (c:Int) (T':Tr) (k':Nat):Prop:=
 c=fN T O p/\(c=0->∃ ps id f L i,bA p=W ps/\ps≠[]/\aT T 1 ps=(0,id)/\T id=W (.file f)/\T (dw T ps)=W (.dir L)/\iz L (cG ps)=W i /\
  ((1<f.lk/\T'=zX T (dw T ps) id L i f/\k'=k+aY L.length-aY (L.length-1))\/(f.lk=1/\T'=ET T (dw T ps) id L i/\k'=k+aY L.length-aY (L.length-1)+bK f.pr)))
end Go.SL
namespace Go.Proofs.Cl
open RowKit SL Proofs.Nn Proofs.Ba Proofs.Su Proofs.Fs
attribute [local go_sem] Oper.semAt_some
section
variable {t:Pl} {x:Fx t.n} {b v pc fc k m:Nat} {T:Tr} {O:mS} {w:M} {F:ai} {p:List UInt8}
theorem Ee (ht:Tidy t.n T) (y1:∀ id f,T id=W (.file f)->f.lk<=65535) (h:ag w (vA x b v T k*(aA pc p*(aZ t fc*(eJ t m O*F))))) :
  Calls Q 30 #[az v,az pc,az fc] w (To x b v (qg T k O p) (aA pc p*(aZ t fc*(eJ t m O*F))) w):=by
 refine aJ fun V1 HQ=>?_;have cp:w.cell? ⟨pc,0,U⟩=W (Y (str p)):=h.ah.cell 0;have S0:=ae h;have r:=ae ht;have i1:=ae y1
 have j0:Hid (∀ c,c≠0->c=fN T O p->∀ (w':M),aj w w'->ag w' (vA x b v T k*(aA pc p*(aZ t fc*(eJ t m O*F))))->V1 (.panicked (nt c)) w'):=fun c hc he w' d A=>
  HQ.out _ _ ⟨c,T,k,0,⟨he,fun h=>absurd h hc⟩,fun h=>absurd h hc,.inr ⟨hc,rfl⟩,d,by decide,zC (ag.xX (x:=x) 0 (A.to (by unfold vA;ac_rfl:_=dS x b (fR T) k*(pt v (bT b t.n)*(aA pc p*(aZ t fc*(eJ t m O*F))))))|>.to (by ac_rfl))⟩
 clear h ht y1
 cases A:bA p with
 | none=>
  have hk:=ae (sa (w:=w) A);have hc:(1:Int)=fN T O p:=by unfold fN;rw [A]
  have HC:=ae hc;clear A HQ hc
  go_enter func30,ntmps30
  go_wp2_with fail
  refine hk.out.mono ?_;rintro e w2 ⟨rfl,d2,h2⟩;exact ⟨rfl,j0.out 1 (by decide) HC.out _ d2 (h2.du S0.out)⟩
 | some ps=>
  obtain ⟨Y1,hl⟩:=dq A;have hk:=ae (dQ (w:=w) A)
  have g0:=ae (show fN T O p=if (aT T 1 ps).1≠0 then (aT T 1 ps).1 else match T (aT T 1 ps).2 with
   | some (.file f)=>if f.lk=1/\Jl O (aT T 1 ps).2=true then 10 else 0
   | _=>8 by unfold fN;rw [A])
  have g:=fun h0=>r.out.walk ps r.out.root.choose_spec h0;have w1:=fun Z0=>Gt (T:=T) (ps:=ps) Z0;have B1:ps=[]->(aT T 1 ps).2=1:=fun e=>by rw [e];rfl
  have HY:=ae g;have HL:=ae hl;have H0:=ae w1;have L0:=ae B1
  have T0:=ae fun (id:Nat) (f:AF) (L:List aH) (i:Nat) (Z0:ps≠[]) (e1:aT T 1 ps=(0,id)) (e2:T id=W (.file f)) (e3:T (dw T ps)=W (.dir L)) (e4:iz L (cG ps)=W i) (e5:fN T O p=0) (T':Tr) (k':Nat) (e6:Tidy t.n T') (e7:(1<f.lk/\T'=zX T (dw T ps) id L i f/\k'=k+aY L.length-aY (L.length-1))\/(f.lk=1/\T'=ET T (dw T ps) id L i/\k'=k+aY L.length-aY (L.length-1)+bK f.pr)) (c1:Nat) (hj:c1<=24) (w':M) (d:aj w w') (Z1:ag w' (vA (x.more c1) b v T' k'*(aA pc p*(aZ t fc*(eJ t m O*F)))))=>
   HQ.out (K (I #[])) w' ⟨0,_,_,c1,⟨e5.symm,fun _=>⟨ps,id,f,L,i,A,Z0,e1,e2,e3,e4,e7⟩⟩,fun _=>e6,.inl ⟨rfl,rfl⟩,d,hj,Z1⟩
  clear A HQ Y1 hl g w1 B1
  go_enter func30,ntmps30
  go_wp2_with fail
  refine hk.out.mono ?_;rintro e w2 ⟨d1,rfl,d2,h2⟩;have h3:=(h2.under S0.out).to (by ac_rfl:_=vA x b v T k*(ei d1 ps*(aA pc p*(aZ t fc*(eJ t m O*F)))));have hw:=ae (fB r.out HL.out gN h3);clear cp hk h2 h3 S0;obtain ⟨pw,A1⟩:∃ pw,aT T 1 ps=pw:=⟨_,rfl⟩
  rw [A1] at hw HY g0 T0 H0 L0;clear A1;obtain ⟨wc,id⟩:=pw;dsimp only at hw HY g0 H0 L0
  go_wp2_with fail
  refine hw.out.mono ?_;rintro e w3 ⟨he,d3,h3⟩;clear hw;have D3:=ae (d2.trans d3);clear d2 d3;rcases he with ⟨rfl,rfl⟩|⟨hc,rfl⟩
  .obtain ⟨E1,g⟩:=HY.out rfl
   have r1:=ae (la g h3);obtain ⟨u,y,rfl⟩:=eE (h3.to (by ac_rfl:_=ei d1 ps*(vA x b v T k*(aA pc p*(aZ t fc*(eJ t m O*F))))));clear h3
   go_wp2_with fail
   refine r1.out.mono ?_;rintro e E hq;rcases hq with ⟨R0,z,rfl,H1,c2,K1,f2,d7,h7⟩|⟨R0,rfl,d7,h7⟩
   .cases E1 with
    | dir L=>exact absurd R0 (by show ¬ (2:Int)=1;decide)
    | file f=>
     have hps:ps≠[]:=fun e=>by have h1:=L0.out e;rw [h1] at g;obtain ⟨L,hL⟩:=r.out.root;rw [hL] at g;cases g
     have i0:=ae (show fN T O p=if f.lk=1/\Jl O id=true then 10 else 0 by rw [g0.out,if_neg (by decide),g]);obtain ⟨D1,L,i,hi,hd,hp,N0⟩:=H0.out hps (by first|rfl|trivial)
     have Y0:1<=f.lk:=by
      have hp:=vI (r.out.lt hd) hd (List.getElem_mem hi);rw [N0] at hp;have:=r.out.ref id;rw [g] at this;simp only [CH] at this;omega
     have W0:=i1.out _ _ g;have p0:=ae (T0.out id f L i hps rfl g hd hp);have K0:=ae (r.out.less hd hi N0 g);have F0:=ae fun (e:f.lk=1)=>r.out.gone hd hi N0 g rfl e;have s1:id≠dw T ps:=by intro e;rw [e,hd] at g;cases g
     have q1:fR (gj T (dw T ps) (kZ L i)) id=W f:=ld (by unfold gj;rw [aK _ _ s1];exact g);have n0:=ae q1;obtain ⟨hX,z1,t1⟩:=nK H1;have hB:=h7.alloc (Z mR 65 (0,0));have Hz:=ae hB.heap;have hE:=hB.setRow (cs':=ints z.l);have n1:((E.alloc (Z mR 65 (0,0))).setRow E.heap.size (ints z.l)).cell? ⟨E.heap.size,1,U⟩=W (V .i64 f.lk):=by rw [show f.lk=z.lk from K1.symm];exact hE.cell 1
     have m1:=hE.to (by ac_rfl:_=vA x b v T k*(ei (N u ps.length y) ps*(pt E.heap.size (Z (ints z.l) 65 (0,0))*(aA pc p*(aZ t fc*(eJ t m O*F))))));have HE:=ae m1;have D0:=ae fun (w':M) (h':ag w' (vA x b v T k*(ei (N u ps.length y) ps*(pt E.heap.size (Z (ints z.l) 65 (0,0))*(aA pc p*(aZ t fc*(eJ t m O*F)))))))=>zZ r.out HL.out hps gN D1 hd hp h';have D7:=ae (((D3.out.trans d7).alloc (Z mR 65 (0,0))).setRow E.heap.size (ints z.l));have l1:=ae z1;have k1:=ae t1;have HX:=ae hX;have N1:=ae n1;have g2:¬ (ps.length:Int)=0:=by have:=List.length_pos_iff.2 hps;omega
     clear r1 hB hE m1 hX z1 t1 n1 d7 h7 H1 c2 K1 f2 g HY g0 D3 R0 hps D1 hd hp N0 q1 s1 T0 H0 L0 r hi i1;unfold mR at *
     go_upto_region 3 with (refine wpList_store_row (by exact rfl) 65 (.tmp 6) (.tmp 14) (by exact rfl) E.heap.size (ints z.l) (by exact rfl) (by exact rfl) 65 _ (by with_reducible exact Hz.out) k1.out (by rw [HX.out];rfl) l1.out ?_)
     generalize a2:(E.alloc (Z #[V .i64 0,V .i64 0,V .i64 0,V .i64 0,V .i64 0,V .i64 0,V .i64 0,V .i64 0,V .i64 0,V .i64 0,V .i64 0,V .i64 0,V .i64 0,V .i64 0,V .i64 0,V .i64 0,V .i64 0,V .i64 0,V .i64 0,V .i64 0] 65 (0,0))).setRow E.heap.size (ints z.l)=w8 at *;generalize E.heap.size=C at *;clear a2 Hz l1 k1 HX HL;have G0:=ae fun (w':M) (h':ag w' (eJ t m O*(vA x b v T k*((ei (N u ps.length y) ps*(pt C (Z (ints z.l) 65 (0,0))*(aA pc p*aZ t fc)))*F))))=>Ed (id:=id) h';have f0:w8.cell? ⟨fc,0,U⟩=W (az t.f):=HE.out.aM.cell 0;have n1:=N1.out;have j1:=ae dm;generalize hD:dw T ps=d at *;generalize ps.length=ln at *
     by_cases j:f.lk=1
     .rw [j] at N1 n1
      have hH:=HE.out.to (by ac_rfl:_=eJ t m O*(vA x b v T k*((ei (N u ln y) ps*(pt C (Z (ints z.l) 65 (0,0))*(aA pc p*aZ t fc)))*F)));have x0:=ae (G0.out w8 hH)
      cases hb:Jl O id with
      | true=>
       have o1:(10:Int)=fN T O p:=by rw [i0.out,if_pos ⟨j,hb⟩]
       have L1:=ae o1;rw [hb] at x0;have W1:=ae fun w=>dR w 10 (by decide);clear o1 hb j i0 p0 K0 F0 n0 G0 hH D0 Y0 W0
       go_wp2_with fail
       refine x0.out.mono ?_;rintro e w9 ⟨rfl,d9,l⟩
       go_wp2_with fail
       refine (W1.out _).mono ?_;rintro e c0 ⟨rfl,rfl⟩;exact ⟨rfl,j0.out 10 (by decide) L1.out _ (D7.out.trans d9) (l.to (by ac_rfl:_=(ei (N u ln y) ps*pt C (Z (ints z.l) 65 (0,0)))*(vA x b v T k*(aA pc p*(aZ t fc*(eJ t m O*F)))))).right⟩
      | false=>
       have o:fN T O p=0:=by rw [i0.out,if_neg];rintro ⟨-,h⟩;rw [hb] at h;cases h
       rw [hb] at x0;have d0:=ae o;have o0:=ae j;clear hb i0 G0 hH Y0 W0 j0 o j
       go_wp2_with fail
       refine x0.out.mono ?_;rintro e w9 ⟨rfl,d9,l⟩;have k0:=l.to (by ac_rfl:_=vA x b v T k*(ei (N u ln y) ps*(pt C (Z (ints z.l) 65 (0,0))*(aA pc p*(aZ t fc*(eJ t m O*F))))));have D9:=ae (D7.out.trans d9);have o:=d0.out;have j:=o0.out;clear l d9 x0 D7 n1 f0 d0 o0;have g1:=ae k0;have d0:=ae o;have o0:=ae j;clear k0 o j
       go_wp2_with fail
       have k0:=g1.out;have o:=d0.out;have j:=o0.out;clear g1 d0 o0;refine (D0.out _ k0).mono ?_;rintro e c0 ⟨he,r0,l⟩;obtain rfl:=he.elim (fun h=>h.2) (fun h=>absurd rfl h.1);have n1:c0.cell? ⟨C,1,U⟩=W (V .i64 1):=(l.aw.cell 1).trans ((HE.out.aw.cell 1).symm.trans N1.out);have b0:=l.to (by unfold vA;ac_rfl:_=dS (x.more 9) b (fR (gj T d (kZ L i))) (k+aY L.length-aY (L.length-1))*(pt v (bT b t.n)*(ei (N u ln y) ps*(pt C (Z (ints z.l) 65 (0,0))*(aA pc p*(aZ t fc*(eJ t m O*F)))))));have v0:c0.cell? ⟨v,0,U⟩=W (az b):=b0.ah.cell 0;have v1:c0.cell? ⟨v,1,U⟩=W (V .i64 (t.n:Int)):=b0.ah.cell 1;have u0:=ae (Sb b0 n0.out);have q0:=ae (p0.out o _ _ (F0.out j) (.inr ⟨j,rfl,rfl⟩) 10 (by decide));have m0:=ae (D9.out.trans r0);clear D0 l b0 r0 he HE N1 p0 K0 F0 n0 D9 j
       go_wp2_with fail
       refine u0.out.mono ?_;rintro e f1 ⟨rfl,s0,e0⟩;rw [MF] at e0;have V0:=ae (q0.out f1 (m0.out.trans s0) (e0.to (by unfold vA;ac_rfl:_=(ei (N u ln y) ps*pt C (Z (ints z.l) 65 (0,0)))*(vA (x.more 10) b v (ET T d id L i) (k+aY L.length-aY (L.length-1)+bK f.pr)*(aA pc p*(aZ t fc*(eJ t m O*F)))))).right);clear u0 e0 s0 m0 q0 v0 v1
       go_wp2_with fail
       refine (j1.out _).mono ?_;rintro e b2 ⟨rfl,rfl⟩
       go_wp2_with fail
       go_end0
       exact V0.out
     .have x1:1<f.lk:=by omega
      have o:fN T O p=0:=by rw [i0.out,if_neg fun h=>j h.1]
      have l0:wrap64 (f.lk+-1)=f.lk-1:=by unfold wrap64;omega
      have U1:=ae l0;have d0:=ae o;have R1:=ae (p0.out o _ _ K0.out (.inl ⟨x1,rfl,rfl⟩) 12 (by decide));have D9:=D7;obtain ⟨lk,X0⟩:∃ lk,f.lk=lk:=⟨_,rfl⟩
      have O1:=ae X0;rw [X0] at n1 j x1 Y0 W0 N1;clear X0 l0 o i0 G0 j0
      go_wp2_with fail
      have k0:=HE.out;have o:=d0.out;have l0:=U1.out;refine (D0.out _ k0).mono ?_;rintro e c0 ⟨he,r0,l⟩;obtain rfl:=he.elim (fun h=>h.2) (fun h=>absurd rfl h.1);have n1:c0.cell? ⟨C,1,U⟩=W (V .i64 lk):=(l.aw.cell 1).trans ((HE.out.aw.cell 1).symm.trans N1.out);have b0:=l.to (by unfold vA;ac_rfl:_=dS (x.more 9) b (fR (gj T d (kZ L i))) (k+aY L.length-aY (L.length-1))*(pt v (bT b t.n)*(ei (N u ln y) ps*(pt C (Z (ints z.l) 65 (0,0))*(aA pc p*(aZ t fc*(eJ t m O*F)))))));have v0:c0.cell? ⟨v,0,U⟩=W (az b):=b0.ah.cell 0;have v1:c0.cell? ⟨v,1,U⟩=W (V .i64 (t.n:Int)):=b0.ah.cell 1;have u0:=ae (FH b0 n0.out (-1) (by rw [l0];have:=O1.out;omega));have q0:=R1;have m0:=ae (D9.out.trans r0);have S1:=ae l0;clear D0 l b0 r0 he HE N1 p0 K0 F0 n0 D9 l0
      go_wp2_with fail
      refine u0.out.mono ?_;rintro e f1 ⟨rfl,s0,e0⟩;rw [S1.out,show dp (fR (gj T d (kZ L i))) id (W { f with lk:=f.lk-1 })=fR (zX T d id L i f) from sk (gj T d (kZ L i)) id (.file { f with lk:=f.lk-1 })] at e0;have V0:=ae (q0.out f1 (m0.out.trans s0) (e0.to (by unfold vA;ac_rfl:_=(ei (N u ln y) ps*pt C (Z (ints z.l) 65 (0,0)))*(vA (x.more 12) b v (zX T d id L i f) (k+aY L.length-aY (L.length-1))*(aA pc p*(aZ t fc*(eJ t m O*F)))))).right);clear u0 e0 s0 m0 q0 v0 v1
      go_wp2_with fail
      refine (j1.out _).mono ?_;rintro e b2 ⟨rfl,rfl⟩
      go_wp2_with fail
      go_end0
      exact V0.out
   .have X1:(8:Int)=fN T O p:=by
     rw [g0.out,if_neg (by decide),g]
     cases E1 with
     | dir L=>rfl
     | file f=>exact absurd (r.out.files _ _ g) R0
    exact ⟨rfl,j0.out 8 (by decide) X1 _ (D3.out.trans d7) (h7.to (by ac_rfl:_=ei (N u ps.length y) ps*(vA x b v T k*(aA pc p*(aZ t fc*(eJ t m O*F)))))).right⟩
  .exact ⟨rfl,j0.out _ hc (by rw [g0.out,if_pos hc]) _ D3.out (h3.to (by ac_rfl:_=ei d1 ps*(vA x b v T k*(aA pc p*(aZ t fc*(eJ t m O*F)))))).right⟩
end
section
variable {t:Pl} {q:Dk t.n} {s s':Ds} {T:Tr} {k m:Nat} {O:mS} {w:M} {F:ai} {p:List UInt8}
theorem EF (g:oI t q s T k) (y:s.B<=1000000) (h:ag w (fQ t s m O*F)) :
  Calls Q 10 #[az t.f,Y (str p)] w (RC t q m s O (qg T k O p) F w):=by
 refine aJ fun c0 l=>?_;have i:=(h.alloc (Z #[az t.f] 25 (0,0))).alloc (Z #[Y (str p)] 9 (0,0));simp only [A2] at i;have r:=ae (((aj.refl w).alloc (Z #[az t.f] 25 (0,0))).alloc (Z #[Y (str p)] 9 (0,0)))
 have A:=ae fun (pc fc:Nat) (w':M) (h':ag w' (fQ t s m O*((aA pc p*aZ t fc)*F)))=>
  rh g y 30 #[az pc,az fc] (aA pc p*aZ t fc) (qg T k O p) (enters func30 (by kernel_rfl) rfl)
   (fun x v b w1 E hw=>(Ee (x:=x) (b:=b) (v:=v) (k:=k) (m:=m) (O:=O) (pc:=pc) (fc:=fc) (F:=E) (p:=p) g.ty (fun id f hT=>(g.at_.has.wf (ld hT)).1.Jm) (hw.to (by ac_rfl))).mono fun e w' hq=>by simpa only [ay] using hq) h'
 have j:=ae i;clear h i g y
 go_enter func10,ntmps10
 go_wp2_with fail
 generalize (w.alloc (Z #[az t.f] 25 (0,0))).alloc (Z #[Y (str p)] 9 (0,0))=w1 at *;generalize w.heap.size=fc at *;refine (A.out (fc+1) fc _ (j.out.to (by unfold aA aZ;ac_rfl))).mono ?_;rintro e w2 ⟨c,T',k',s',z,rfl,o,C,u⟩;have b0:=ae (l.out _ _ ⟨c,T',k',s',z,rfl,r.out.trans o,C,(u.to (by ac_rfl:_=(aA (fc+1) p*aZ t fc)*(fQ t s' m O*F))).right⟩);clear A r j o C z u l
 go_wp2_with fail
 exact b0.out
end
end Go.Proofs.Cl
namespace Go.SL
def nv (ps qs:List (List UInt8)):Bool:=decide (ps.length<qs.length) && decide (ps=qs.take ps.length)
end Go.SL
namespace Go.Proofs.Cl
open RowKit SL Proofs.Nn Proofs.Ba Proofs.Su Proofs.Fs
attribute [local go_sem] Oper.semAt_some
section
variable {w:M} {F:ai} {ps qs:List (List UInt8)} {u1 u2:G}
theorem str_inj {a c:List UInt8} (h:str a=str c):a=c:=by
 have:=congrArg (fun x:ByteArray=>x.data.toList) h;simpa [str] using this
theorem tf:∀ {a c:List (List UInt8)},a.map str=c.map str->a=c
 | [],[],_=>rfl
 | [],_ :: _,h=>by simp at h
 | _ :: _,[],h=>by simp at h
 | x :: a,y :: c,h=>by
  simp only [S2,List.cons.injEq] at h;rw [str_inj h.1,tf h.2]
theorem nL {u:G} (A:ps≠[]) (h:ag w (ei u ps*F)):∃ g c,u = N (W ⟨g,0,U⟩) ps.length c/\ps.length<=c/\c<=9223372036854775807/\∀ j,j<(ps.map str).length->w.cell? ⟨g,0+j,U⟩=W (Y ((ps.map str).getD j ByteArray.empty)):=by
 have hp:=List.length_pos_iff.2 A;rcases ag.cW (show ag w (sl 9 1 u ps.length (strs ps)*F) from h) with ⟨_,E,_⟩|⟨g,l,C,rfl,o,r,h5,y,z⟩
 .omega
 .refine ⟨g,l,rfl,o,by unfold maxLen at r;omega,fun j i=>?_⟩
  rw [B2] at i
  have e:(strs ps)[j]?=W (Y ((ps.map str).getD j ByteArray.empty)):=by
   unfold strs;rw [List.getElem?_map,H2 i,List.getD,List.getElem?_map,H2 i]
   rfl
  rw [Nat.zero_add,z.cell,<- e,<- y,List.getElem?_take,if_pos (by omega),Array.getElem?_toList]
theorem IS (b0:ps≠[]) (e0:ps.length<=1000) (f0:qs.length<=1000) (h:ag w (ei u1 ps*(ei u2 qs*F))) :
  Calls Q 56 #[u1,u2] w fun e w'=>e = K (.bool (nv ps qs))/\aj w w'/\ag w' (ei u1 ps*(ei u2 qs*F)):=by
 refine aJ fun i0 g=>?_;have j:=ae h;have hp:=List.length_pos_iff.2 b0
 by_cases i:ps.length<qs.length
 .have g0:qs≠[]:=fun e=>by rw [e] at i;simp at i
  obtain ⟨g1,c1,rfl,k1,l1,z1⟩:=nL b0 h;obtain ⟨g2,o,rfl,k2,l2,z2⟩:=nL g0 h.ah;have r:=Tryz.slices_Equal_string g1 0 ps.length c1 g2 0 ps.length o (ps.map str) (qs.map str) w (by rw [B2];exact E2 _) (by rw [B2];omega) (by omega) (by omega) z1 z2
  have E:decide ((ps.map str).take ps.length=(qs.map str).take ps.length)=nv ps qs:=by
   unfold nv;rw [decide_eq_true i,Bool.true_and];refine decide_eq_decide.2 ⟨fun e=>?_,fun e=>?_⟩
   .rw [R2 (by rw [B2];exact E2 _),<- List.map_take] at e
    exact tf e
   .rw [R2 (by rw [B2];exact E2 _),<- List.map_take,<- e]
  rw [E] at r;have l:=ae r;have y:(ps.length:Int)<(qs.length:Int):=by omega
  have hc:(ps.length:Int)<=(o:Int):=by omega
  have j0:(o:Int)<=9223372036854775807:=by omega
  have h0:(0:Int)<=(ps.length:Int):=by omega
  clear h r E z1 z2 i hp l1 l2 k1 k2;generalize nv ps qs=bb at *;obtain ⟨z,c0⟩:∃ z,ps.length=z:=⟨_,rfl⟩
  obtain ⟨A,d0⟩:∃ A,qs.length=A:=⟨_,rfl⟩
  rw [c0] at l j y hc h0 g ⊢;rw [d0] at j y g ⊢;clear c0 d0 e0 f0
  go_enter func56,ntmps56
  go_wp2_with fail
  refine l.out.mono ?_;rintro e w2 ⟨rfl,nq,rfl⟩;have u:=ae (g.out _ (w.drewN nq) ⟨rfl,(aj.refl w).trans ⟨rfl,rfl,rfl,E2 _⟩,j.out⟩);clear l j g
  go_wp2_with fail
  exact u.out
 .have C:nv ps qs=false:=by unfold nv;rw [decide_eq_false i];rfl
  rw [C] at g;have u:=ae (g.out _ _ ⟨rfl,aj.refl w,h⟩);obtain ⟨a1,n1,rfl⟩:=eE h;obtain ⟨a2,n2,rfl⟩:=eE h.ah;have y:¬ (ps.length:Int)<(qs.length:Int):=by omega
  clear h g j i C hp;generalize ps.length=z at *;generalize qs.length=A at *
  go_enter func56,ntmps56
  go_wp2_with fail
  exact u.out
end
section
variable {t:Pl} {S:Hp} {J:Jr} {D D':aC} {fc m:Nat}
theorem LR (A:J.flush D=(0,J,D')) (hJ:J.Ok) (d0:D'.Ok) :
  RN t S (.map (W m)) J D 126 #[az fc] (aZ t fc) (fun c c0 E=>c=0/\c0=⟨0,[],[],(J,D')⟩/\E=aZ t fc):=by
 intro v b i l g;refine aJ fun h0 o=>?_;have u:ag i (Oc t.s t.j t.d t.n t.P S (J,D)*(aB 176 5 wQ b (zM t S).rd 0 [] []*(pt t.f (im t (.map (W m)))*(pt v (bT b t.n)*(aq wQ*(aZ t fc*l)))))):=g.to (by unfold cH;show _=(zM t S).RI (J,D)*_;ac_rfl);obtain ⟨g0,y⟩:=nF u;have f0:i.cell? ⟨fc,0,U⟩=W (az t.f):=(g.to (by unfold aZ;ac_rfl:_=pt fc (Z #[az t.f] 25 (0,0))*(pt t.f (im t (.map (W m)))*(pt v (bT b t.n)*(cH (zM t S) wQ b ⟨0,[],[],(J,D)⟩*(aq wQ*l)))))).cell 0;have s0:i.cell? ⟨t.f,0,U⟩=W (az t.s):=g.cell 0;have C:=ae (MI i S t.s t.j t.d t.n t.P J D _ y g0.2);have b0:=ae dm;have HF:=ae A;clear g u y A
 go_enter func126,ntmps126
 go_wp2_with fail
 refine C.out.mono ?_;rintro e w2 ⟨rfl,j,r⟩;rw [HF.out] at j ⊢;have z:=Ck (x:=(J,D')) hJ d0 j;have e0:=ae (o.out (K (I #[])) w2 ⟨0,wQ,⟨0,[],[],(J,D')⟩,aZ t fc,⟨rfl,rfl,rfl⟩,.inl ⟨rfl,rfl⟩,r,z.to (by unfold cH;show (zM t S).RI (J,D')*_=_;ac_rfl)⟩);clear j z o C r
 go_wp2_with fail
 refine (b0.out _).mono ?_;rintro e w3 ⟨rfl,rfl⟩
 go_wp2_with fail
 go_end0
 exact e0.out
end
section
variable {t:Pl} {q:Dk t.n} {s:Ds} {T:Tr} {k m:Nat} {O:mS} {w:M} {F:ai}
def T8 (t:Pl) (q:Dk t.n) (m:Nat) (s:Ds) (T:Tr) (k:Nat) (O:mS) (F:ai) (w:M) (e:Ending) (w':M):Prop:=
 e = K (V .i64 0)/\aj w w'/\oI t q ⟨s.J,s.D.aI,s.has,s.B+1⟩ T k/\ag w' (fQ t ⟨s.J,s.D.aI,s.has,s.B+1⟩ m O*F)
theorem Og (g:oI t q s T k) (C:s.B<=1000000) (h:ag w (fQ t s m O*F)) :
  Calls Q 68 #[az t.f] w (T8 t q m s T k O F w):=by
 refine aJ fun e0 u=>?_;obtain ⟨J,D,has,B⟩:=s;have o:q.Q B J D has:=g.at_.q;have i:=q.inv o;have E:oI t q ⟨J,D.aI,has,B+1⟩ T k:=⟨⟨q.flush o C,g.at_.has⟩,g.ty,g.h4,g.hn⟩
 have A:=h.alloc (Z #[az t.f] 25 (0,0));have z:=ae ((aj.refl w).alloc (Z #[az t.f] 25 (0,0)));obtain ⟨S,hS⟩:=yY (A.to (by unfold fQ;ac_rfl:_=rC t ⟨J,D,has,B⟩*(pt t.f (im t (.map (W m)))*(pt w.heap.size (Z #[az t.f] 25 (0,0))*(mp m (mL O)*F)))))
 have hd:=ae (Db t _ S J D (.map (W m)) 126 #[az w.heap.size] (aZ t w.heap.size) (mp m (mL O)*F) (fun c l j=>c=0/\l=⟨0,[],[],(J,D.aI)⟩/\j=aZ t w.heap.size) i.ok i.Jg (enters func126 (by kernel_rfl) rfl) (LR i.flush i.ok i.aI.Jg)
  (by rintro c l j ⟨-,rfl,-⟩ - - d0;exact absurd rfl d0) (hS.to (by unfold aZ;ac_rfl)))
 have r:=ae E;clear h A hS g o i C E
 go_enter func68,ntmps68
 go_wp2_with fail
 refine hd.out.mono ?_;rintro e w2 ⟨c,l,j,S',J',D',⟨rfl,rfl,rfl⟩,-,rfl,y,hs,-,b0⟩;have e:=b0 (.inr rfl);simp only [Prod.mk.injEq] at e;obtain ⟨rfl,rfl⟩:=e;have c0:=ae (u.out _ _ ⟨rfl,z.out.trans y,r.out,((mx (s:=⟨J,D.aI,has,B+1⟩) (hs.to (by ac_rfl))).to (by unfold fQ;ac_rfl:rC t ⟨J,D.aI,has,B+1⟩*(pt t.f (im t (.map (W m)))*(aZ t w.heap.size*(mp m (mL O)*F)))=aZ t w.heap.size*(fQ t ⟨J,D.aI,has,B+1⟩ m O*F))).right⟩);clear hd y hs b0 u r z
 go_wp2_with fail
 exact c0.out
end
theorem Oi (w:M) (o l:Addr) :
    CallsD Q 113 #[H (W o),H (W l)] .returning w fun e u w'=>e = K (I #[])/\u = .returning/\w=w':=by
  have i:=uJ w;refine callsD_of_wpS func113 rfl fun g r j=>?_;apply wpS_seq;apply wpS_region
  simp only [ntmps113,List.size_toArray,List.length_cons,List.length_nil,Nat.reduceAdd,Nat.reduceSub,Array.replicate_succ,
     Array.replicate_zero,List.push_toArray,List.append_toArray,List.nil_append,List.cons_append]
  simp [wpOpsS,go_sem,recoverD,j,Exit.thenS];refine i.mono ?_;rintro e y ⟨rfl,rfl⟩;refine wpS_of_wp ?_
  go_wp2
  cases g
  simp_all [bodyPostS,results,Tryz.results113]
theorem En {w:M} {g:Array G} {a b:Nat} {v e:G} (i:g[6]?=W (az a)) (j:g[7]?=W (az b)) (l:w.cell? ⟨a,0,U⟩=W v) (o:w.cell? ⟨b,0,U⟩=W e) :
  (results Tryz.f62 g).run Q w = .ok (I #[v,e]) w:=by
 have r:g.getD 6 undef=az a:=by simp [i]
 have u:g.getD 7 undef=az b:=by simp [j]
 simp [results,Tryz.results62,i,j,go_sem,l,o]
theorem GX {w:M} {g:Array G} {a b:Nat} {v e:G} {R:Ending->M->Prop} (i:g[6]?=W (az a)) (j:g[7]?=W (az b)) (o:w.cell? ⟨a,0,U⟩=W v) (r:w.cell? ⟨b,0,U⟩=W e) (l:R (K (I #[v,e])) w) :
  bodyPostD Q Tryz.f62 R Exit.ret { tmps:=g,defers:=[{ target:=.fn (.func 113) #[H (W ⟨a,0,U⟩),H (W ⟨b,0,U⟩)],args:=#[] }] } w:=by
 refine leaves_cons (f:=113) (args:=#[H (W ⟨a,0,U⟩),H (W ⟨b,0,U⟩)]) (by simp) (by simp [go_sem]) ?_;refine (Oi w ⟨a,0,U⟩ ⟨b,0,U⟩).mono ?_;rintro e u y ⟨rfl,rfl,rfl⟩;exact ⟨_,En i j o r,l⟩
section
variable {t:Pl} {S:Hp} {J:Jr} {D:aC} {mv:G} {M1:ik (Jr × aC)}
theorem DY (h4:4<=t.n) (hn:t.n<=3840) (u:dZ (jd (zM t S).ask) ⟨0,[],[],(J,D)⟩=(.ok (),M1)) :
  RN t S mv J D 66 #[] emp (fun c C y=>c=0/\C=M1/\y=emp):=by
 intro v b j z g;refine aJ fun c0 l=>?_;have v0:j.cell? ⟨v,0,U⟩=W (az b):=g.ah.cell 0;have v1:j.cell? ⟨v,1,U⟩=W (V .i64 (t.n:Int)):=g.ah.cell 1;have i:=ae (IM (zM t S) (Kz t S) t.n h4 hn b ⟨0,[],[],(J,D)⟩ j wQ _ (g.to (by ac_rfl:_=cH (zM t S) wQ b ⟨0,[],[],(J,D)⟩*(aq wQ*(pt t.f (im t mv)*(pt v (bT b t.n)*(emp*z)))))));rw [u] at i;have A:=ae dm;clear g u
 go_enter func66,ntmps66
 go_wp2_with fail
 refine i.out.mono ?_;rintro e w2 ⟨E,-,o,rfl,r⟩;have b0:=ae (l.out (K (I #[])) w2 ⟨0,E,M1,emp,⟨rfl,rfl,rfl⟩,.inl ⟨rfl,rfl⟩,o,r.to (by ac_rfl)⟩);have hc:Rs.code (.ok ():Rs Unit)=0:=rfl;rw [hc];clear r l i o v0 v1
 go_wp2_with fail
 refine (A.out _).mono ?_;rintro e w3 ⟨rfl,rfl⟩
 go_wp2_with fail
 go_end0
 exact b0.out
end
structure Lq (n P B:Nat) (J:Jr) (D:aC) (has:Has):Prop where
 inv:fK J D has
 jn:J.n=(n:Int)
 bound:sy J
 jP:J.P=P
 sq:J.sq<=(B:Int)
theorem Lq.zo {n P B:Nat} {J:Jr} {D:aC} {has:Has} {L:Bl} (y:5*n+240<=2*P) (h:Lq n P B J D has) (u:B<=1000000) (o:Batch (n:Int) L):∃ i D',eM J D true L=(0,i,D')/\Lq n P (B+1) i D' (mP has L):=by
 have g:Batch J.n L:=by rw [h.jn];exact o
 have r:J.sq<281474976710655:=by have:=h.sq;omega
 have l:=Dn h.inv h.bound (by rw [h.jn,h.jP];omega) g;obtain ⟨D',j⟩:=Am h.inv g r l;refine ⟨_,D',j.run,j.inv,?_,C7 h.inv h.bound g l,h.jP,?_⟩
 .show J.n=_;exact h.jn
 .show J.sq+1<=_;have:=h.sq;omega
def Uy (n P:Nat) (i:5*n+240<=2*P):Dk n:=
 ⟨Lq n P,fun h=>h.inv,fun h=>h.jn,fun h r=>⟨h.inv.cr r,h.jn,h.bound,h.jP,h.sq⟩,fun h g _ j=>h.zo i g j,fun h g=>⟨h.inv.aI,h.jn,h.bound,h.jP,by have:=h.sq;omega⟩⟩
def rP:Has:=fun _=>U
theorem xd {n:Nat} (j:2<=n):Tidy n fV:=by
 have g:∀ id L,fV id=W (.dir L)->L=[]:=by
  intro id L h;unfold fV at h
  split at h
  .injection h with h;injection h with h;exact h.symm
  .cases h
 refine ⟨⟨[],rfl⟩,fun id L h=>?_,fun id f h=>?_,fun id=>?_,fun id h=>?_⟩
 .rw [g _ _ h];exact oJ.nil
 .unfold fV at h
  split at h
  .injection h with h;cases h
  .cases h
 .have e:refs n fV id=0:=by
   unfold refs
   have:∀ l:List Nat,(l.map fun d=>(eP (fV d)).countP fun e=>e.nd == id).sum=0:=by
    intro l
    induction l with
    | nil=>rfl
    | cons a l i=>
     rw [S2,List.sum_cons,i];have:eP (fV a)=[]:=by unfold fV;split <;> rfl
     rw [this];rfl
   exact this _
  rw [e];unfold fV
  split
  .rename_i h;subst h;rfl
  .rfl
 .unfold fV;rw [if_neg (by omega)]
theorem JP:fR fV=fun id=>if id=1 then W (jx 2) else U:=by
 funext id;unfold fR fV
 split
 .show W (tQ.dir []).af=_
  have:=FW (kd:=2) (.inr rfl);rw [show mN 2 = .dir [] from rfl] at this;rw [this]
 .rfl
section
variable {t:Pl} {q:Dk t.n} {w:M} {F:ai} {J:Jr} {D:aC} {m:Nat}
def Re (t:Pl) (q:Dk t.n) (m:Nat) (F:ai) (w:M) (e:Ending) (w':M):Prop:=
 ∃ s,e = K (I #[])/\aj w w'/\s.B<=3/\oI t q s fV (t.n-2)/\ag w' (fQ t s m []*F)
theorem Of (E:4<=t.n) (hn:t.n<=3840) (C:q.Q 1 J D rP) (h:ag w (pt t.f (im t (.map (W m)))*(mp m (mL [])*(rC t ⟨J,D,rP,1⟩*F)))) :
  Calls Q 29 #[az t.f,.func (.func 66) #[] #[]] w fun e w'=>∃ s,e = K (V .i64 0)/\aj w w'/\s.B<=2/\oI t q s fV (t.n-2)/\ag w' (fQ t s m []*F):=by
 have hG:Go.SL.Good t.n (jw rP) (IJ J D) ⟨0,[],[],(J,D)⟩:=⟨rfl,IJ.start J D,fun f0 l _ h=>absurd h (by simp [aP]),fun f0 l _ h=>absurd h (by simp [aP]),fun p hp=>absurd hp (by simp)⟩
 obtain ⟨M1,he,z⟩:=CJ (xE C) (by omega) E hn hG
 have e0:M1.W.length<=24:=by
  have:=(Cq (ask:=Qm)).run he;simp at this;omega
 rw [<- JP] at z;obtain ⟨S,hS⟩:=yY (h.to (by ac_rfl:_=rC t ⟨J,D,rP,1⟩*(pt t.f (im t (.map (W m)))*(mp m (mL [])*F))));have hi:=q.inv C
 have b0:(M1.W.map Prod.fst).Nodup->M1.W≠[]->∃ r i D',M1.s=(J,{ D with cr:=r })/\q.Q 1 J { D with cr:=r } rP/\Batch (t.n:Int) (iq M1.W)/\eM J { D with cr:=r } true (iq M1.W)=(0,i,D')/\q.Q 2 i D' (mP rP (iq M1.W)):=by
  intro A u;obtain ⟨o,r,y⟩:=z.gz.inv;have hb:=xU z A e0 (List.length_pos_iff.2 u);obtain ⟨i,D',e3,e4⟩:=q.zo (q.cr C r) (by decide) hb;exact ⟨r,i,D',Prod.ext o y,q.cr C r,hb,e3,e4⟩
 refine (Db t w S J D (.map (W m)) 66 #[] emp (mp m (mL [])*F) (fun c j G'=>c=0/\j=M1/\G'=emp) hi.ok hi.Jg (enters func66 (by kernel_rfl) rfl) (DY E hn he) ?_ (hS.to (by rw [di];ac_rfl))).mono ?_
 .rintro c j G' ⟨rfl,rfl,rfl⟩-A u
  obtain ⟨r,i,D',o,y,e3,e4,-⟩:=b0 A u;refine ⟨rP,i,D',?_,?_,e3,?_⟩
  .rw [o];exact q.inv y
  .rw [o];exact q.jn y
  .rw [o];exact e4
 .rintro e w' ⟨c,j,G',S',i,D',⟨rfl,rfl,rfl⟩,A,rfl,d,hs,c0,d0⟩
  by_cases u:j.W=[]
  .obtain ⟨o,r,y⟩:=z.gz.inv
   have e:=d0 (.inr u);rw [e] at o y;have hr:Ds.Rd ⟨J,D,rP,1⟩ ⟨i,D',rP,1⟩:=⟨o,⟨r,y⟩,rfl,rfl⟩
   refine ⟨⟨i,D',rP,1⟩,rfl,d,Nat.le_succ 1,⟨PH.rd (s:=⟨J,D,rP,1⟩) ⟨C,tx z u⟩ hr,xd (by omega),E,hn⟩,?_⟩;exact (mx (s:=⟨i,D',rP,1⟩) (hs.to (by rw [di];ac_rfl))).to (by unfold fQ;ac_rfl:rC t ⟨i,D',rP,1⟩*(pt t.f (im t (.map (W m)))*(mp m (mL [])*F))=_)
  obtain ⟨r',J2,D2,f1,f2,f3,f4,f5⟩:=b0 A u;have g:=c0 rfl u;rw [f1] at g;have g:eM J { D with cr:=r' } true (iq j.W)=(0,i,D'):=g;rw [g] at f4;simp only [Prod.mk.injEq,true_and] at f4;obtain ⟨rfl,rfl⟩:=f4;refine ⟨⟨i,D',mP rP (iq j.W),2⟩,rfl,d,E2 2,⟨⟨f5,uh z A⟩,xd (by omega),E,hn⟩,?_⟩;exact (mx (s:=⟨i,D',mP rP (iq j.W),2⟩) (hs.to (by rw [di];ac_rfl))).to (by unfold fQ;ac_rfl:rC t ⟨i,D',mP rP (iq j.W),2⟩*(pt t.f (im t (.map (W m)))*(mp m (mL [])*F))=_)
theorem IL (g:4<=t.n) (E:t.n<=3840) (hq:q.Q 1 J D rP) (h:ag w (pt t.f (im t (.map (W m)))*(mp m (mL [])*(rC t ⟨J,D,rP,1⟩*F)))) :
  Calls Q 65 #[az t.f] w (Re t q m F w):=by
 refine aJ fun d0 o=>?_;have e0:=nr Q;have C:=ae (Of g E hq h);have r:=ae dm;clear h hq g E
 go_enter func65,ntmps65
 go_wp2_with fail
 refine C.out.mono ?_;rintro e w2 ⟨s,rfl,u,A,i,z⟩;have b0:=ae (Og i (by omega) z);have j:=ae u;have l:=ae A;clear C u i z A
 go_wp2_with fail
 refine (r.out _).mono ?_;rintro e w3 ⟨rfl,rfl⟩
 go_wp2_with fail
 refine b0.out.mono ?_;rintro e w4 ⟨rfl,y,i,g⟩;have c0:=ae (o.out (K (I #[])) _ ⟨_,rfl,j.out.trans y,(show s.B+1<=3 by have:=l.out;omega),i,g⟩);clear b0 y i g o j l
 go_wp2_with fail
 refine (r.out _).mono ?_;rintro e w5 ⟨rfl,rfl⟩
 go_wp2_with fail
 go_end0
 exact c0.out
def P4 (j:FuncId) (fc:Array G) (i:ai) (X:Nat->ai):Prop:=
 ∀ (w:M) (g:ai),ag w (i*g)->Calls Q j fc w fun e w'=>∃ s,e = K (I #[az s,V .i64 0])/\aj w w'/\ag w' (X s*g)
def Pz (l:FuncId) (j:Array G) (X:Nat->ai) (i:Nat->Nat->Nat->ai):Prop:=
 ∀ (s f m:Nat) (w:M) (g:ai),ag w (pt f (Z #[az s,.map (W m)] 91 (0,0))*(mp m []*(X s*g)))->Calls Q l (#[az f]++j) w fun e w'=>e = K (I #[])/\aj w w'/\ag w' (i s f m*g)
def Qx (g:Nat->Nat->Nat->ai) (F:ai) (w:M) (e:Ending) (w':M):Prop:=
 ∃ s f m,e = K (I #[az f,V .i64 0])/\aj w w'/\ag w' (g s f m*F)
theorem II (w:M):(Instr.makeMap 89 U).run Q w = .ok (.map (W w.heap.size)) (w.alloc (.map #[] 0)):=by
 simp [Instr.makeMap,run_underlying underlying89]
theorem GS {dv:Nat} {u y:FuncId} {fc gc:Array G} {c0:ai} {X:Nat->ai} {d0:Nat->Nat->Nat->ai} (p0:∀ (r:Array G) (w:M),(callFunc u r).run Q w = .ok (.enter u r) w) (q0:∀ (r:Array G) (w:M),(callFunc y r).run Q w = .ok (.enter y r) w)
  (hF:P4 u fc c0 X) (hT:Pz y gc X d0) (h:ag w (c0*F)):Calls Q 62 #[az dv,.func (.func u) #[] fc,.func (.func y) #[] gc] w (Qx d0 F w):=by
 refine aJ fun o0 HQ=>?_;have s0:=nr Q;have H0:=(h.alloc (Z #[H U] 25 (0,0))).alloc (Z #[V .i64 0] 28 (0,0));have D0:=((aj.refl w).alloc (Z #[H U] 25 (0,0))).alloc (Z #[V .i64 0] 28 (0,0));rw [A2] at H0;have HF:=ae hF;have HT:=ae hT;clear h hF hT
 go_enter_defers func62,ntmps62
 go_wp2_with fail
 generalize (w.alloc (Z #[H U] 25 (0,0))).alloc (Z #[V .i64 0] 28 (0,0))=w1 at *;generalize w.heap.size+1=i at *;generalize w.heap.size=fb at *;have h0:=ae (HF.out w1 _ (H0.to (by ac_rfl:_=c0*(pt i (Z #[V .i64 0] 28 (0,0))*(pt fb (Z #[H U] 25 (0,0))*F)))));have D1:=ae D0;clear H0 D0 HF
 go_wp2_with fail
 refine h0.out.mono ?_;rintro e w2 ⟨s,rfl,d2,h2⟩;have z:=h2.to (by ac_rfl:_=pt i (Z #[V .i64 0] 28 (0,0))*(pt fb (Z #[H U] 25 (0,0))*(X s*F)));have e0:w2.cell? ⟨i,0,U⟩=W (V .i64 0):=z.cell 0;have ef:w2.frozen? ⟨i,0,U⟩=false:=z.frozen 0;have h4:=z.setCell 0 (V .i64 0);have D4:=ae ((D1.out.trans d2).setCell ⟨i,0,U⟩ (V .i64 0));have o:=ae (h4.to (by ac_rfl:_=pt fb (Z #[H U] 25 (0,0))*(pt i (Z #[V .i64 0] 28 (0,0))*(X s*F))));have k0:=ae dm;have g0:=ae II;clear h0 D1 d2 h2 z h4
 go_wp2_with fail
 refine (k0.out _).mono ?_;rintro e w3 ⟨rfl,rfl⟩;generalize w2.setCell ⟨i,0,U⟩ (V .i64 0)=g at *;have f0:g.cell? ⟨fb,0,U⟩=W (H U):=o.out.cell 0;have m0:g.frozen? ⟨fb,0,U⟩=false:=o.out.frozen 0;have r0:fb<g.heap.size:=o.out.lt;have n0:=g0.out;have H5:=((((o.out.setCell 0 (az (g.heap.size+1))).alloc (.map #[] 0)).tD isMap_empty).alloc (Z #[az s,.map (W g.heap.size)] 91 (0,0)))
 have D5:=(((D4.out.setCell ⟨fb,0,U⟩ (az (g.heap.size+1))).alloc (.map #[] 0)).alloc (Z #[az s,.map (W g.heap.size)] 91 (0,0)))
 have j0:(g.setCell ⟨fb,0,U⟩ (az (g.heap.size+1))).heap.size=g.heap.size:=World.size_setCell ..;rw [A2,j0] at H5;have E:=ae D5;have ht:=ae (HT.out s (g.heap.size+1) g.heap.size _ _ (H5.to (by show _=pt (g.heap.size+1) (Z #[az s,.map (W g.heap.size)] 91 (0,0))*(mp g.heap.size []*(X s*(pt fb (Z #[az (g.heap.size+1)] 25 (0,0))*(pt i (Z #[V .i64 0] 28 (0,0))*F))));simp only [L2,M2];ac_rfl)));generalize i0:g.heap.size+1=j at ht E;have l0:=ae i0;clear H5 D5 o D4 g0 e0 ef i0 j0
 go_wp2_with fail
 rw [l0.out];refine ht.out.mono ?_;rintro e C ⟨rfl,d6,h6⟩;have l:=h6.to (by ac_rfl:_=pt fb (Z #[az j] 25 (0,0))*(pt i (Z #[V .i64 0] 28 (0,0))*(d0 s j g.heap.size*F)));have a0:C.cell? ⟨fb,0,U⟩=W (az j):=l.cell 0;have a1:C.frozen? ⟨fb,0,U⟩=false:=l.frozen 0;have b0:(C.setCell ⟨fb,0,U⟩ (az j)).cell? ⟨i,0,U⟩=W (V .i64 0):=(l.setCell 0 (az j)).ah.cell 0;have b1:(C.setCell ⟨fb,0,U⟩ (az j)).frozen? ⟨i,0,U⟩=false:=(l.setCell 0 (az j)).ah.frozen 0;have h8:=(l.setCell 0 (az j)).ah.setCell 0 (V .i64 0);have H8:=ae h8;have D8:=ae (((E.out.trans d6).setCell ⟨fb,0,U⟩ (az j)).setCell ⟨i,0,U⟩ (V .i64 0));clear ht h6 l h8 E d6 f0 m0 n0 HT
 go_wp2_with fail
 have A:=H8.out;simp only [L2,M2] at A;exact GX rfl rfl (A.ah.cell 0) (A.cell 0) (HQ.out _ _ ⟨s,j,g.heap.size,rfl,D8.out,A.right.right⟩)
end
end Go.Proofs.Cl
namespace Go.Proofs.Cl
open RowKit SL Proofs.Nn Proofs.Ba Proofs.Su Proofs.Fs
def jz (t:Pl) (q:Dk t.n) (m:Nat) (T:Tr) (k B:Nat) (O:mS):ai:=ex fun s:Ds=>fact (oI t q s T k/\s.B<=B)*fQ t s m O
section
variable {t:Pl} {q:Dk t.n} {s:Ds} {T:Tr} {k m B:Nat} {O:mS} {w:M} {F:ai} {p p1 p2:List UInt8} {R:Int->Tr->Nat->Prop} {e:Ending} {w':M}
theorem gL (h:ag w (jz t q m T k B O*F)):∃ s,oI t q s T k/\s.B<=B/\ag w (fQ t s m O*F):=by
 obtain ⟨s,g⟩:=ag.ax.1 h;obtain ⟨⟨i,j⟩,l⟩:=ag.au.1 (g.to (ay _ _ _));exact ⟨s,i,j,l⟩
theorem gp (i:oI t q s T k) (g:s.B<=B) (h:ag w (fQ t s m O*F)):ag w (jz t q m T k B O*F):=
 ag.ax.2 ⟨s,(ag.au.2 ⟨⟨i,g⟩,h⟩:ag w (fact _*_)).to (ay _ _ _).symm⟩
theorem oI.go {s':Ds} {wr:Bool} (g:s.Go t.n wr s'):s'.B<=s.B+1:=by
 rcases g with h|⟨_,r,L,_,_,_,h⟩
 .rw [h.B];omega
 .omega
def R9 (t:Pl) (q:Dk t.n) (m:Nat) (T:Tr) (k B:Nat) (O:mS) (R:Int->Tr->Nat->Prop) (F:ai) (w:M) (e:Ending) (w':M):Prop:=
 aj w w'/\∃ c,e = K (V .i64 c)/\((c≠0/\(∃ T' k',R c T' k')/\ag w' (jz t q m T k B O*F))\/(c=0/\∃ T' k',R 0 T' k'/\ag w' (jz t q m T' k' (B+1) O*F)))
theorem Pt (u:oI t q s T k) (l:s.B<=B) (h:RC t q m s O R F w e w'):R9 t q m T k B O R F w e w':=by
 obtain ⟨c,T',k',s',i,r,d,A,g⟩:=h;refine ⟨d,c,r,?_⟩;rcases A with ⟨o,j⟩|⟨rfl,y,z⟩
 .exact .inl ⟨o,⟨T',k',i⟩,gp (u.rd j) (by rw [j.B];exact l) g⟩
 .exact .inr ⟨rfl,T',k',i,gp y (by have:=oI.go z;omega) g⟩
theorem R9.ok (h:R9 t q m T k B O R F w e w') (j:∀ c T' k',R c T' k'->c=0):∃ T' k',R 0 T' k'/\e = K (V .i64 0)/\aj w w'/\ag w' (jz t q m T' k' (B+1) O*F):=by
 obtain ⟨d,c,rfl,⟨l,⟨T',k',g⟩,_⟩|⟨rfl,T',k',g,i⟩⟩:=h
 .exact absurd (j _ _ _ g) l
 .exact ⟨T',k',g,rfl,d,i⟩
theorem CE (r:B<=1000000) (l:fZ T k p=0) (h:ag w (jz t q m T k B O*F)):Calls Q 11 #[az t.f,Y (str p)] w (R9 t q m T k B O (mH t.n T k 1 p) F w):=by
 obtain ⟨s,g,i,j⟩:=gL h;exact (DO g (by omega) l j).mono fun e w' o=>Pt g i o
theorem Fg (r:B<=1000000) (l:fZ T k p=0) (h:ag w (jz t q m T k B O*F)):Calls Q 9 #[az t.f,Y (str p)] w (R9 t q m T k B O (mH t.n T k 2 p) F w):=by
 obtain ⟨s,g,i,j⟩:=gL h;exact (GP g (by omega) l j).mono fun e w' o=>Pt g i o
theorem QY (r:B<=1000000) (l:gX T k p1 p2=0) (h:ag w (jz t q m T k B O*F)):Calls Q 15 #[az t.f,Y (str p1),Y (str p2)] w (R9 t q m T k B O (AR T k p1 p2) F w):=by
 obtain ⟨s,g,i,j⟩:=gL h;exact (My g (by omega) l j).mono fun e w' o=>Pt g i o
theorem MN (o:B<=1000000) (h:ag w (jz t q m T k B O*F)):Calls Q 10 #[az t.f,Y (str p)] w (R9 t q m T k B O (qg T k O p) F w):=by
 obtain ⟨s,g,i,j⟩:=gL h;exact (EF g (by omega) j).mono fun e w' l=>Pt g i l
def Dj (X:ai) (v:G) (F:ai) (w:M) (e:Ending) (w':M):Prop:=e = K v/\aj w w'/\ag w' (X*F)
theorem KI (y:B<=1000000) (h:ag w (jz t q m T k B O*F)):Calls Q 13 #[az t.f,Y (str p)] w (Dj (jz t q m T k B O) (I #[Tv (if (bV T p).1=0 then tp (T (bV T p).2) else (0,0,0)),V .i64 (bV T p).1]) F w):=by
 obtain ⟨s,g,i,j⟩:=gL h;refine (Lp g (by omega) j).mono ?_;rintro e w' ⟨s',rfl,d,r,o,l⟩;have u:s.Rd s':=by rcases r with h|⟨h,_⟩;exact h;cases h
 exact ⟨rfl,d,gp o (by rw [u.B];exact i) l⟩
def PG (t:Pl) (q:Dk t.n) (m:Nat) (T:Tr) (k B:Nat) (O:mS) (p:List UInt8) (F:ai) (w:M) (e:Ending) (w':M):Prop:=
 aj w w'/\((iE T O p≠0/\e = K (I #[V .i64 0,V .i64 (iE T O p)])/\ag w' (jz t q m T k B O*F)) \/
  (iE T O p=0/\∃ g:Nat,(∀ j:Nat,j<g->(aP O (j:Int)).isSome=true)/\aP O (g:Int)=U/\e = K (I #[V .i64 (g:Int),V .i64 0])/\ag w' (jz t q m T k B (mG O g ((bV T p).2,0))*F)))
theorem Q6 (A:B<=1000000) (z:O.length<=1000) (h:ag w (jz t q m T k B O*F)):Calls Q 16 #[az t.f,Y (str p)] w (PG t q m T k B O p F w):=by
 obtain ⟨s,i,o,y⟩:=gL h;refine (nH i (by omega) z y).mono ?_;rintro e w' ⟨s',d,g,⟨l,rfl,j⟩|⟨l,u,a1,r,rfl,j⟩⟩
 .exact ⟨d,.inl ⟨l,rfl,gp (i.rd g) (by rw [g.B];exact o) j⟩⟩
 .exact ⟨d,.inr ⟨l,u,a1,r,rfl,gp (i.rd g) (by rw [g.B];exact o) j⟩⟩
def Ub (c:Int) (l:List UInt8) (X g:ai) (F:ai) (w:M) (e:Ending) (w':M):Prop:=
 aj w w'/\((c≠0/\e = K (I #[N U 0 0,V .i64 c])/\ag w' (X*F))\/(c=0/\∃ u,e = K (I #[u,V .i64 0])/\ag w' (bs 5 u l*(g*F))))
theorem Rn {a c:Int} (z:B<=1000000) (y:il T p a c=0) (h:ag w (jz t q m T k B O*F)):Calls Q 19 #[az t.f,Y (str p),V .i64 a,V .i64 c] w (Ub (il T p a c) (nM T p a c) (jz t q m T k B O) (jz t q m T k B O) F w):=by
 obtain ⟨s,i,o,r⟩:=gL h;refine (Ka i (by omega) y r).mono ?_;rintro e w' ⟨s',d,g,⟨l,rfl,j⟩|⟨l,u,rfl,j⟩⟩
 .exact ⟨d,.inl ⟨l,rfl,gp (i.rd g) (by rw [g.B];exact o) j⟩⟩
 .exact ⟨d,.inr ⟨l,u,rfl,(gp (i.rd g) (by rw [g.B];exact o) (j.to (by ac_rfl:_=fQ t s' m O*(bs 5 u (nM T p a c)*F)))).to (by ac_rfl)⟩⟩
def UO (c:Int) (L:List aH) (X:ai) (F:ai) (w:M) (e:Ending) (w':M):Prop:=
 aj w w'/\((c≠0/\e = K (I #[N U 0 0,V .i64 c])/\ag w' (X*F))\/(c=0/\∃ u g,g.Perm L/\eG jB g/\e = K (I #[u,V .i64 0])/\ag w' (ei u (g.map aH.nm)*(X*F))))
theorem ya (E:B<=1000000) (A:lE T p=0) (C:(eP (T (bV T p).2)).length<=BA) (h:ag w (jz t q m T k B O*F)):Calls Q 12 #[az t.f,Y (str p)] w (UO (lE T p) (eP (T (bV T p).2)) (jz t q m T k B O) F w):=by
 obtain ⟨s,i,r,z⟩:=gL h;refine (Ap i (by omega) A C z).mono ?_;rintro e w' ⟨s',d,g,⟨l,rfl,j⟩|⟨l,u,o,a1,y,rfl,j⟩⟩
 .exact ⟨d,.inl ⟨l,rfl,gp (i.rd g) (by rw [g.B];exact r) j⟩⟩
 .exact ⟨d,.inr ⟨l,u,o,a1,y,rfl,(gp (i.rd g) (by rw [g.B];exact r) (j.to (by ac_rfl:_=fQ t s' m O*(ei u (o.map aH.nm)*F)))).to (by ac_rfl)⟩⟩
def DR (t:Pl) (q:Dk t.n) (m:Nat) (T:Tr) (k B:Nat) (O:mS) (g:Int) (o:Nat × Nat) (R:Int->Tr->Nat->Prop) (F:ai) (w:M) (e:Ending) (w':M):Prop:=
 aj w w'/\∃ c,e = K (V .i64 c)/\((c≠0/\(∃ T' k',R c T' k')/\ag w' (jz t q m T k B O*F))\/(c=0/\∃ T' k',R 0 T' k'/\ag w' (jz t q m T' k' (B+1) (mG O g o)*F)))
theorem OC {f:AF} {fd:Int} {id at' vc:Nat} {va:Option Addr} {l:List UInt8} {D:ai} (hB:B<=1000000) (d0:kr k at' f l=0) (hy:aP O fd=W (id,at')) (A:T id=W (.file f)) (C:at'<=122880) (e0:l.length<=1000000000) (b0:l.length<=vc) (z:∀ i P,ag i (D*P)->Rd i (N va l.length vc) l) (h:ag w (jz t q m T k B O*(D*F))) :
  Calls Q 17 #[az t.f,V .i64 fd,N va l.length vc] w (DR t q m T k B O fd (id,at'+l.length) (gU T k id at' f l) (D*F) w):=by
 obtain ⟨s,j,u,y⟩:=gL h;refine (Iz j (by omega) d0 hy A C e0 b0 z y).mono ?_;rintro e w' ⟨c,T',k',s',o,rfl,d,hr⟩;refine ⟨d,c,rfl,?_⟩;rcases hr with ⟨E,r,g⟩|⟨rfl,c0,hg,g⟩
 .exact .inl ⟨E,⟨T',k',o⟩,gp (j.rd r) (by rw [r.B];exact u) g⟩
 .exact .inr ⟨rfl,T',k',o,gp c0 (by have:=oI.go hg;omega) g⟩
end
end Go.Proofs.Cl
namespace Go.SL
open RowKit Proofs.Cl
theorem Pc (a b:List UInt8):str a++str b=str (a++b):=by
 unfold str;apply ByteArray.ext;simp
section
variable {T T':Tr} {d id x k:Nat} {nm:List UInt8} {kd:Int} {L R X:List aH} {f:AF} {p:List UInt8} {ps qs:List (List UInt8)}
theorem OF:NB T d id nm kd d=W (.dir (eP (T d)++[⟨id,nm⟩])):=bC _ _ _
theorem N6 (h:id≠d):NB T d id nm kd id=W (mN kd):=(aK _ _ h).trans (bC _ _ _)
theorem OV (h:x≠d) (g:x≠id):NB T d id nm kd x=T x:=(aK _ _ h).trans (aK _ _ g)
theorem lr {i:Nat} (h:T x=W (.dir R)) (g:iz R nm=W i):aT T x [nm]=(0,(R.getD i aH.no).nd):=by
 have e:ee (T x) nm=(0,(R.getD i aH.no).nd):=by rw [h,jS g]
 rw [iP (by rw [e]),e,FY]
theorem vr {i j:Nat} {g:List UInt8} (h:T x=W (.dir R)) (o:iz R nm=W i) (l:T (R.getD i aH.no).nd=W (.dir X)) (r:iz X g=W j):aT T x [nm,g]=(0,(X.getD j aH.no).nd):=by
 have e:ee (T x) nm=(0,(R.getD i aH.no).nd):=by rw [h,jS o]
 rw [iP (by rw [e]),e];exact lr l r
theorem xQ (i:ps≠[]) (l:aT T 1 ps.dropLast=(0,d)) (g:T d=W (.dir L)) (j:iz L (cG ps)=U):fI T ps=0:=by
 unfold fI;rw [if_neg i,l,if_neg (by simp),g,mu j];rfl
theorem oz (g:aT T 1 ps.dropLast=(0,d)):dw T ps=d:=by unfold dw;rw [g]
theorem tT (g:iz L nm=U) (j:L.length<3840) (i:aY (L.length+1)<=k+aY L.length):kP k L nm=0:=by
 unfold kP;rw [g,if_neg (by decide),if_neg (by omega),if_neg (by omega)]
theorem qt (r:bA p=W ps) (o:ps≠[]) (j:aT T 1 ps.dropLast=(0,d)) (g:T d=W (.dir L)) (i:iz L (cG ps)=U) (l:L.length<3840) (u:1+aY (L.length+1)<=k+aY L.length) (y:0<k):fZ T k p=0:=by
 have e:eP (T d)=L:=by rw [g];rfl
 unfold fZ;rw [r];simp only;rw [xQ o j g i,if_neg (by simp),oz j,e,qk,if_neg (show ¬ 122880<=32*L.length by omega),if_neg (by simp),if_neg (show ¬ k=0 by omega)];exact tT i l (by omega)
structure Made (n:Nat) (T T':Tr) (d id:Nat) (nm:List UInt8) (kd:Int) (L:List aH):Prop where
 no:T id=none
 pos:0<id
 lt:id<n
 dir:T' d=some (.dir (L++[⟨id,nm⟩]))
 new:T' id=some (mN kd)
 pQ:∀ x,x≠d->x≠id->T' x=T x
theorem tY {n k':Nat} {c:Int} (E:bA p=W ps) (hw:aT T 1 ps.dropLast=(0,d)) (l:T d=W (.dir L)) (h:mH n T k kd p c T' k') (A:c=0):(∃ id,Made n T T' d id (cG ps) kd L)/\k'=Tj k L:=by
 obtain ⟨-,j⟩:=h;obtain ⟨qs,r,id,o,g,e3,i,u,y,rfl,rfl⟩:=j A;obtain rfl:ps=qs:=by rw [E] at o;exact Option.some.inj o
 rw [oz hw] at g ⊢;obtain rfl:L=r:=by rw [l] at g;injection g with g;injection g
 have C:id≠d:=by rintro rfl;rw [l] at i;cases i
 refine ⟨⟨id,i,u,y,?_,N6 C,fun x z j=>OV z j⟩,rfl⟩;rw [OF,l];rfl
end
section
variable {T T1 T2 T4 T5:Tr} {a b k k':Nat} {c:Int}
abbrev pD:List UInt8:=[47,100]
abbrev M6:List UInt8:=[47,100,47,97]
abbrev pB:List UInt8:=[47,98]
abbrev VB:List UInt8:=[47,100,47,101]
abbrev ry:List UInt8:=[104,101,108,108,111]
theorem jg:bA pD=W [[100]]:=by decide
theorem mV:bA M6=W [[100],[97]]:=by decide
theorem zt:bA pB=W [[98]]:=by decide
theorem LQ:bA VB=W [[100],[101]]:=by decide
theorem EK:bA [47]=W []:=by decide
theorem vm (a:Nat) (nm:List UInt8):iz [⟨a,nm⟩] nm=W 0:=by simp [iz]
structure Ux (n:Nat) (T:Tr) (a:Nat):Prop where
 ne:a≠1
 root:T 1=some (.dir [⟨a,[100]⟩])
 da:T a=some (.dir [])
 pQ:∀ x,x≠1->x≠a->T x=none
theorem PI:fZ fV 18 pD=0:=qt jg (by simp) (d:=1) (L:=[]) rfl rfl rfl (by simp) (by decide) (by decide)
theorem Sc {n:Nat} (h:mH n fV 18 2 pD c T1 k') (j:c=0):(∃ a,Ux n T1 a)/\k'=16:=by
 obtain ⟨⟨a,m⟩,l⟩:=tY (d:=1) (L:=[]) jg rfl rfl h j;have ne:a≠1:=by intro e;have:=m.no;rw [e] at this;cases this
 refine ⟨⟨a,ne,m.dir,m.new,fun x g i=>(m.pQ x g i).trans (if_neg g)⟩,by rw [l];decide⟩
structure NC (n:Nat) (T:Tr) (a b:Nat) (R:List aH) (f:AF):Prop where
 a1:a≠1
 b1:b≠1
 ba:b≠a
 root:T 1=some (.dir R)
 da:T a=some (.dir [⟨b,[97]⟩])
 fb:T b=some (.file f)
theorem Qa {n:Nat} (h:Ux n T1 a):fZ T1 16 M6=0:=qt mV (by simp) (lr h.root (vm a _)) h.da rfl (by simp) (by decide) (by decide)
theorem Q9 {n:Nat} (g:Ux n T1 a) (h:mH n T1 16 1 M6 c T2 k') (i:c=0):(∃ b,NC n T2 a b [⟨a,[100]⟩] (jx 1))/\k'=14:=by
 obtain ⟨⟨b,m⟩,j⟩:=tY (d:=a) (L:=[]) mV (lr g.root (vm a _)) g.da h i;have ne:b≠1:=by intro e;have:=m.no;rw [e,g.root] at this;cases this
 have l:b≠a:=by intro e;have:=m.no;rw [e,g.da] at this;cases this
 exact ⟨⟨b,g.ne,ne,l,by rw [m.pQ 1 (Ne.symm g.ne) (Ne.symm ne)];exact g.root,m.dir,m.new⟩,by rw [j];decide⟩
theorem wC {n:Nat} {f:AF} (h:NC n T a b [⟨a,[100]⟩] f):aT T 1 [[100],[97]]=(0,b):=vr h.root (vm a _) h.da (vm b _)
theorem xA {n:Nat} {f:AF} (h:NC n T a b [⟨a,[100]⟩] f):bV T M6=(0,b):=(fD mV).trans (wC h)
theorem AL {n:Nat} {f:AF} (h:NC n T a b [⟨a,[100]⟩] f):(bV T M6).1=0/\T (bV T M6).2=W (.file f):=by rw [xA h];exact ⟨rfl,h.fb⟩
def vu:AF:=(jx 1).wr 0 ry
theorem Qc:kr 14 0 (jx 1) ry=0:=by decide +kernel
theorem QG {n:Nat} (g:NC n T a b [⟨a,[100]⟩] (jx 1)) (h:gU T 14 b 0 (jx 1) ry c T4 k') (o:c=0):NC n T4 a b [⟨a,[100]⟩] vu/\k'=13:=by
 obtain ⟨-,l⟩:=h;rcases l o with ⟨e,_⟩|⟨_,i,j⟩
 .cases e
 .rw [i,j]
  refine ⟨⟨g.a1,g.b1,g.ba,(aK _ _ (Ne.symm g.b1)).trans g.root,(aK _ _ (Ne.symm g.ba)).trans g.da,bC _ _ _⟩,by decide +kernel⟩
theorem P0 {n:Nat} (h:NC n T a b [⟨a,[100]⟩] vu):gX T 13 M6 pB=0:=by
 have g:fI T [[98]]=0:=xQ (d:=1) (by simp) rfl h.root (by simp [iz,cG]);unfold gX;rw [mV,zt];simp only;rw [wC h,if_neg (by simp),h.fb];simp only;rw [g,if_neg (by simp),if_neg (by decide),oz (d:=1) rfl,h.root];exact tT (by simp [iz,cG,eP]) (by simp [eP]) (by simp [eP];decide)
def Fv:AF:={ vu with lk:=2 }
theorem Rx {n:Nat} (g:NC n T4 a b [⟨a,[100]⟩] vu) (h:AR T4 13 M6 pB c T5 k') (y:c=0):NC n T5 a b [⟨a,[100]⟩,⟨b,[98]⟩] Fv/\k'=13:=by
 obtain ⟨-,u⟩:=h;obtain ⟨ps,qs,id,f,L,o,r,l,i,j,z,rfl,rfl⟩:=u y;obtain rfl:=Option.some.inj (mV.symm.trans o);obtain rfl:=Option.some.inj (zt.symm.trans r);rw [wC g] at l;obtain rfl:b=id:=(Prod.mk.inj l).2;rw [oz (d:=1) rfl,g.root] at j;obtain rfl:[⟨a,[100]⟩]=L:=by injection j with j;injection j
 obtain rfl:vu=f:=by rw [g.fb] at i;injection i with i;injection i
 rw [oz (d:=1) rfl];refine ⟨⟨g.a1,g.b1,g.ba,(aK _ _ (Ne.symm g.b1)).trans (bC _ _ _),?_,bC _ _ _⟩,(show 13+aY 1-aY 2=13 by decide)⟩;exact (aK _ _ (Ne.symm g.ba)).trans ((aK _ _ g.a1).trans g.da)
section
variable {n:Nat} (h:NC n T a b [⟨a,[100]⟩,⟨b,[98]⟩] Fv)
include h
theorem JC:bV T pB=(0,b):=(fD zt).trans (lr (i:=1) h.root (by simp [iz,List.findIdx?_cons]))
theorem TF:bV T pD=(0,a):=(fD jg).trans (lr (i:=0) h.root (by simp [iz,List.findIdx?_cons]))
theorem vS:(bV T pB).1=0/\tp (T (bV T pB).2)=(1,2,5):=by
 rw [JC h];dsimp only;rw [h.fb];exact ⟨rfl,rfl⟩
theorem xg:il T pB 1 3=0:=by
 unfold il;rw [if_pos (by decide),JC h,if_neg (by simp),h.fb]
theorem MJ:nM T pB 1 3=[101,108,108]:=by
 unfold nM;rw [JC h];dsimp only;rw [h.fb];decide
theorem tO:lE T [47]=0/\eP (T (bV T [47]).2)=[⟨a,[100]⟩,⟨b,[98]⟩]:=by
 have e:bV T [47]=(0,1):=fD EK;unfold lE;rw [e];dsimp only;rw [if_neg (by simp),h.root];exact ⟨rfl,rfl⟩
omit h in
theorem GD {j:List aH} (r:j.Perm [⟨a,[100]⟩,⟨b,[98]⟩]) (z:eG jB j):j.map aH.nm=[[98],[100]]:=by
 have u:=r.length_eq
 match j,u with
 | [x,y],_=>
  have l:=r.map aH.nm;simp only [S2,List.map_nil] at l ⊢
  have o:x.nm≠y.nm:=by
   have:=l.nodup_iff.2 (by decide:[([100]:List UInt8),[98]].Nodup);simpa using this
  have A:x.nm=[100]\/x.nm=[98]:=by simpa using l.mem_iff.1 (List.mem_cons_self (a:=x.nm) (l:=[y.nm]))
  have C:y.nm=[100]\/y.nm=[98]:=by simpa using l.mem_iff.1 (show y.nm ∈ [x.nm,y.nm] by simp)
  rcases A with g|g <;> rcases C with i|i
  .exact absurd (g.trans i.symm) o
  .have:=(List.pairwise_cons.1 z).1 y (by simp)
   unfold jB at this;rw [g,i] at this;exact absurd this (by decide)
  .rw [g,i]
  .exact absurd (g.trans i.symm) o
end
end
end Go.SL
namespace Go.Proofs.Cl
open RowKit SL Proofs.Nn Proofs.Ba Proofs.Su Proofs.Fs
attribute [local go_sem] Oper.semAt_some
section
variable {n:Nat} {x:Fx n} {b v pc qc fc k id:Nat} {T:Tr} {w:M} {F:ai} {p p1 p2:List UInt8} {ps qs:List (List UInt8)} {L:List aH} {c:Int}
theorem Eh {X g:ai} {e:Ending} {w':M} (i:c≠0) (j:e = .panicked (nt c)) (d:aj w w') (h:ag w' g):Nx c X g w e w':=⟨d,.inr ⟨i,j,h⟩⟩
theorem Bp {X:ai} (A:Tidy n T) (j:bA p=W ps) (i:aT T 1 ps=(0,id)) (C:T id=W (.dir L)) (h:ag w (vA x b v T k*(aA pc p*F))) :
  Calls Q 30 #[az v,az pc,az fc] w (Nx 8 X (vA x b v T k*(aA pc p*F)) w):=by
 refine aJ fun e0 HQ=>?_;have cp:w.cell? ⟨pc,0,U⟩=W (Y (str p)):=h.ah.cell 0;have l:=ae h;obtain ⟨d0,z⟩:=dq j;have y:=ae (dQ (w:=w) j);have HT:=ae A;have E:=ae z;have HW:=ae i;have HY:=ae C;clear h A j d0 z i C
 go_enter func30,ntmps30
 go_wp2_with fail
 refine y.out.mono ?_;rintro e w2 ⟨u,rfl,d2,r⟩;have g:=(r.under l.out).to (by ac_rfl:_=vA x b v T k*(ei u ps*(aA pc p*F)));have i:=fB HT.out E.out gN g;rw [HW.out] at i;have o:=ae i;clear cp y r g l i
 go_wp2_with fail
 refine o.out.mono ?_;rintro e w3 ⟨⟨-,rfl⟩|⟨hc,-⟩,d3,g⟩
 .have b0:=ae (la HY.out g)
  obtain ⟨ua,uc,rfl⟩:=eE (g.to (by ac_rfl:_=ei u ps*(vA x b v T k*(aA pc p*F))));clear g o
  go_wp2_with fail
  refine b0.out.mono ?_;rintro e w7 (⟨c0,_⟩|⟨-,rfl,d7,h7⟩)
  .exact absurd c0 (by show ¬ (2:Int)=1;decide)
  .exact ⟨rfl,HQ.out _ _ (Eh (by decide) rfl ((d2.trans d3).trans d7) (h7.to (aG _ _ _)).right)⟩
 .exact absurd rfl hc
theorem AD {X:ai} (ht:Tidy n T) (y:bA p=W ps) (i0:ps≠[]) (j:aT T 1 ps=(0,id)) (hy:T id=W (.dir L)) (hL:L≠[]) (h:ag w (vA x b v T k*(aA pc p*F))) :
  Calls Q 61 #[az v,az pc] w (Nx 11 X (vA x b v T k*(aA pc p*F)) w):=by
 refine aJ fun s0 HQ=>?_;have cp:w.cell? ⟨pc,0,U⟩=W (Y (str p)):=h.ah.cell 0;have b0:=ae h;obtain ⟨q0,hl⟩:=dq y;have hk:=ae (dQ (w:=w) y);have r:¬ (ps.length:Int)=0:=by have:=List.length_pos_iff.2 i0;omega
 have u:(0:Int)<((eK 1 L).sz:Int):=by have:=List.length_pos_iff.2 hL;show (0:Int)<((32*L.length:Nat):Int);omega
 have HT:=ae ht;have HL:=ae hl;have HW:=ae j;have HY:=ae hy;have c0:=ae r;have d0:=ae u;clear h ht y q0 hl j hy i0 hL r u
 go_enter func61,ntmps61
 go_wp2_with fail
 refine hk.out.mono ?_;rintro e w2 ⟨k0,rfl,d2,h2⟩;have i:=(h2.under b0.out).to (by ac_rfl:_=vA x b v T k*(ei k0 ps*(aA pc p*F)));have j:=fB HT.out HL.out gN i;rw [HW.out] at j;have Hw:=ae j;clear cp hk h2 i b0 j
 go_wp2_with fail
 refine Hw.out.mono ?_;rintro e w3 ⟨⟨-,rfl⟩|⟨hc,-⟩,d3,i⟩
 .have h0:=ae (lK HY.out i)
  obtain ⟨ua,uc,rfl⟩:=eE (i.to (by ac_rfl:_=ei k0 ps*(vA x b v T k*(aA pc p*F))));clear i Hw
  go_wp2_with fail
  refine h0.out.mono ?_;rintro e g ⟨z,rfl,l0,m0,r0,n0,d7,h7⟩;obtain ⟨hX,j0,g0⟩:=nK l0;have o:=h7.alloc (Z mR 65 (0,0));have Hz:=ae o.heap;have l:=o.setRow (cs':=ints z.l);have A:((g.alloc (Z mR 65 (0,0))).setRow g.heap.size (ints z.l)).cell? ⟨g.heap.size,0,U⟩=W (V .i64 2):=by rw [show (2:Int)=z.kd from m0.symm];exact l.cell 0
  have C:((g.alloc (Z mR 65 (0,0))).setRow g.heap.size (ints z.l)).cell? ⟨g.heap.size,2,U⟩=W (V .i64 ((eK 1 L).sz:Int)):=by rw [show ((eK 1 L).sz:Int)=z.sz from n0.symm];exact l.cell 2
  have HE:=ae (l.to (by ac_rfl:_=(ei (N ua ps.length uc) ps*pt g.heap.size (Z (ints z.l) 65 (0,0)))*(vA x b v T k*(aA pc p*F)))).right;have E:=ae ((((d2.trans d3).trans d7).alloc (Z mR 65 (0,0))).setRow g.heap.size (ints z.l));have f0:=ae j0;have e0:=ae g0;have HX:=ae hX;have N0:=ae A;have N2:=ae C;clear h0 o l hX j0 g0 A C d7 h7 l0 m0 r0 n0;unfold mR at *
  go_upto_region 3 with (refine wpList_store_row (by exact rfl) 65 (.tmp 5) (.tmp 13) (by exact rfl) g.heap.size (ints z.l) (by exact rfl) (by exact rfl) 65 _ (by with_reducible exact Hz.out) e0.out (by rw [HX.out];rfl) f0.out ?_)
  have A:=N0.out;have C:=N2.out;have r:=c0.out;have u:=d0.out;have o0:=ae fun w=>dR w 11 (by decide);have p0:=ae (HQ.out _ _ (Eh (X:=X) (c:=11) (by decide) rfl E.out HE.out));clear Hz f0 e0 HX N0 N2 c0 d0 E HE;generalize ((eK 1 L).sz:Int)=sz at *;generalize ps.length=ln at *
  go_wp2_with fail
  refine (o0.out _).mono ?_;rintro e w9 ⟨rfl,rfl⟩;exact ⟨rfl,p0.out⟩
 .exact absurd rfl hc
theorem yZ {X:ai} (ht:Tidy n T) (z:bA p1=W ps) (A:bA p2=W qs) (y:ps≠[]) (j:aT T 1 ps=(0,id)) (hy:T id=W (.dir L)) (hb:nv ps qs=true) (h:ag w (vA x b v T k*(aA pc p1*(aA qc p2*F)))) :
  Calls Q 55 #[az v,az pc,az qc] w (Nx 11 X (vA x b v T k*(aA pc p1*(aA qc p2*F))) w):=by
 refine aJ fun D0 HQ=>?_;have k0:w.cell? ⟨pc,0,U⟩=W (Y (str p1))/\w.cell? ⟨qc,0,U⟩=W (Y (str p2)):=⟨h.ah.cell 0,h.aw.cell 0⟩
 have b0:=ae h;obtain ⟨q0,hl⟩:=dq z;obtain ⟨r0,f0⟩:=dq A;have hk:=ae (dQ (w:=w.drew) z);have e0:=ae fun w'=>dQ (w:=w') A;have r:¬ (ps.length:Int)=0:=by have:=List.length_pos_iff.2 y;omega
 have HT:=ae ht;have HL:=ae hl;have j0:=ae f0;have HW:=ae j;have HY:=ae hy;have c0:=ae r;have l0:=ae y;have HB:=ae hb;clear h ht z A q0 r0 hl f0 j hy y r hb
 go_enter func55,ntmps55
 go_wp2_with fail
 go_region_held3 (fun w'=>w'.cell? ⟨pc,0,U⟩=W (Y (str p1))/\w'.cell? ⟨qc,0,U⟩=W (Y (str p2)))
  (first|exact k0|exact k1|exact k2|go_keep)
  (first
   | (go_at_call 31;(with_reducible refine (e0.out _).mono ?_);rintro e w5 ⟨u2,rfl,d5,l⟩;have g:=l.under o;have k2:w5.cell? ⟨pc,0,U⟩=W (Y (str p1))/\w5.cell? ⟨qc,0,U⟩=W (Y (str p2)):=⟨g.aD.cell 0,g.aM.cell 0⟩)
   | (go_at_call 31;(with_reducible refine hk.out.mono ?_);rintro e w4 ⟨s0,rfl,d4,h4⟩;have o:=h4.under b0.out.drew;have k1:w4.cell? ⟨pc,0,U⟩=W (Y (str p1))/\w4.cell? ⟨qc,0,U⟩=W (Y (str p2)):=⟨o.aw.cell 0,o.aD.cell 0⟩))
 rename_i m0;have i:=g.to (by ac_rfl:_=vA x b v T k*(ei s0 ps*(ei u2 qs*(aA pc p1*(aA qc p2*F)))));obtain ⟨C,E,rfl⟩:=eE i.ah;obtain ⟨va,vc,rfl⟩:=eE i.aw;have j:=fB HT.out HL.out gN i;rw [HW.out] at j;have Hw:=ae j;have D5:=ae (((aj.refl w).drew.trans d4).trans d5);have r:=c0.out;clear m0 k0 k1 k2 h4 o l g i d4 d5 hk e0 b0 j c0
 go_wp2_with fail
 refine Hw.out.mono ?_;rintro e w6 ⟨⟨-,rfl⟩|⟨hc,-⟩,d6,l⟩
 .have g:=l.to (by ac_rfl:_=ei (N C ps.length E) ps*(ei (N va qs.length vc) qs*(vA x b v T k*(aA pc p1*(aA qc p2*F)))))
  have u:=IS l0.out HL.out j0.out g;rw [HB.out] at u;have d0:=ae u;have ND:=ae fun (w':M) (h':ag w' (vA x b v T k*(ei (N C ps.length E) ps*(ei (N va qs.length vc) qs*(aA pc p1*(aA qc p2*F))))))=>lK HY.out h';have D6:=ae (D5.out.trans d6);clear l g u Hw d6 D5 r
  go_wp2_with fail
  refine d0.out.mono ?_;rintro e w8 ⟨rfl,d8,i⟩;have hn:=ae (ND.out w8 (i.to (by ac_rfl)));have D8:=ae (D6.out.trans d8);clear d0 i d8 ND D6
  go_wp2_with fail
  refine hn.out.mono ?_;rintro e w9 ⟨i0,rfl,g0,h0,u0,x0,d9,h9⟩;obtain ⟨p0,-,-⟩:=BK g0 w9;rw [show i0.kd=2 from h0] at p0;have n0:=ae (HQ.out _ _ (Eh (X:=X) (c:=11) (by decide) rfl (D8.out.trans d9) (h9.to (by ac_rfl:_=(ei (N C ps.length E) ps*ei (N va qs.length vc) qs)*(vA x b v T k*(aA pc p1*(aA qc p2*F))))).right));have o0:=ae fun w=>dR w 11 (by decide);generalize ints i0.l=yl at *;clear hn g0 h0 u0 x0 d9 h9 D8
  go_wp2_with fail
  refine (o0.out _).mono ?_;rintro e F0 ⟨rfl,rfl⟩;exact ⟨rfl,n0.out⟩
 .exact absurd rfl hc
end
section
variable {t:Pl} {q:Dk t.n} {s:Ds} {T:Tr} {k m B id:Nat} {O:mS} {w:M} {F:ai} {p p1 p2:List UInt8} {ps qs:List (List UInt8)} {L:List aH}
theorem refused {c:Int} {fs:ai} {g:M} {i:ai} {v:G} {f:FuncId} (r:c≠0) (u:oI t q s T k) (o:s.B<=B)
  (h:Calls Q f #[az t.f,v] g fun e w'=>∃ s',e = K (V .i64 c)/\aj g w'/\s.Rd s'/\ag w' (fQ t s' m O*((if c=0 then emp else i)*F))) :
  Calls Q f #[az t.f,v] g fun e w'=>e = K (V .i64 c)/\aj g w'/\ag w' (i*(jz t q m T k B O*F)):=by
 refine h.mono ?_;rintro e w' ⟨s',rfl,d,l,j⟩;rw [if_neg r] at j;exact ⟨rfl,d,(gp (u.rd l) (by rw [l.B];exact o) j).to (aG _ _ _)⟩
theorem G6 (E:B<=1000000) (z:bA p=W ps) (A:aT T 1 ps=(0,id)) (C:T id=W (.dir L)) (h:ag w (jz t q m T k B O*F)) :
  Calls Q 10 #[az t.f,Y (str p)] w (Dj (jz t q m T k B O) (V .i64 8) F w):=by
 refine aJ fun e0 l=>?_;obtain ⟨s,i,g,u⟩:=gL h;have j:=(u.alloc (Z #[az t.f] 25 (0,0))).alloc (Z #[Y (str p)] 9 (0,0));simp only [A2] at j;have r:=ae (((aj.refl w).alloc (Z #[az t.f] 25 (0,0))).alloc (Z #[Y (str p)] 9 (0,0)))
 have y:=ae (refused (c:=8) (B:=B) (fs:=emp) (by decide) i g (lP i (by omega) 30 #[az (w.heap.size+1),az w.heap.size] (aA (w.heap.size+1) p) 8 emp (aA (w.heap.size+1) p) (enters func30 (by kernel_rfl) rfl)
  (fun x v b w1 d0 c0=>Bp i.ty z A C c0) ((j.to (by unfold aA;ac_rfl:_=pt w.heap.size (Z #[az t.f] 25 (0,0))*(fQ t s m O*(aA (w.heap.size+1) p*F)))).right)))
 clear h j i g u z A C E
 go_enter func10,ntmps10
 go_wp2_with fail
 refine y.out.mono ?_;rintro e w2 ⟨rfl,o,g⟩;have b0:=ae (l.out _ _ ⟨rfl,r.out.trans o,g.right⟩);clear y r o g l
 go_wp2_with fail
 exact b0.out
theorem IT (hB:B<=1000000) (C:bA p=W ps) (A:ps≠[]) (E:aT T 1 ps=(0,id)) (hy:T id=W (.dir L)) (y:L≠[]) (h:ag w (jz t q m T k B O*F)) :
  Calls Q 24 #[az t.f,Y (str p)] w (Dj (jz t q m T k B O) (V .i64 11) F w):=by
 refine aJ fun e0 j=>?_;obtain ⟨s,i,g,r⟩:=gL h;have u:=r.alloc (Z #[Y (str p)] 9 (0,0));have o:=ae ((aj.refl w).alloc (Z #[Y (str p)] 9 (0,0)))
 have z:=ae (refused (c:=11) (B:=B) (fs:=emp) (by decide) i g (lP i (by omega) 61 #[az w.heap.size] (aA w.heap.size p) 11 emp (aA w.heap.size p) (enters func61 (by kernel_rfl) rfl)
  (fun x v b w1 d0 c0=>AD i.ty C A E hy y c0) (u.to (aG _ _ _))))
 clear h u i g r C E hy hB A y
 go_enter func24,ntmps24
 go_wp2_with fail
 refine z.out.mono ?_;rintro e w2 ⟨rfl,l,g⟩;have b0:=ae (j.out _ _ ⟨rfl,o.out.trans l,g.right⟩);clear z o l g j
 go_wp2_with fail
 exact b0.out
theorem EG (hB:B<=1000000) (C:bA p1=W ps) (E:bA p2=W qs) (A:ps≠[]) (hw:aT T 1 ps=(0,id)) (hy:T id=W (.dir L)) (y:nv ps qs=true) (h:ag w (jz t q m T k B O*F)) :
  Calls Q 20 #[az t.f,Y (str p1),Y (str p2)] w (Dj (jz t q m T k B O) (V .i64 11) F w):=by
 refine aJ fun e0 l=>?_;obtain ⟨s,i,g,u⟩:=gL h;have j:=(u.alloc (Z #[Y (str p1)] 9 (0,0))).alloc (Z #[Y (str p2)] 9 (0,0));simp only [A2] at j;have r:=ae (((aj.refl w).alloc (Z #[Y (str p1)] 9 (0,0))).alloc (Z #[Y (str p2)] 9 (0,0)))
 have z:=ae (refused (c:=11) (B:=B) (fs:=emp) (by decide) i g (lP (O:=O) (m:=m) i (by omega) 55 #[az w.heap.size,az (w.heap.size+1)] (aA w.heap.size p1*aA (w.heap.size+1) p2) 11 emp (aA w.heap.size p1*aA (w.heap.size+1) p2) (enters func55 (by kernel_rfl) rfl)
  (fun x v b w1 b0 d0=>(yZ (x:=x) (b:=b) (v:=v) (k:=k) (F:=eJ t m O*b0) i.ty C E A hw hy y (d0.to (by ac_rfl))).mono fun e w' hq=>by simpa only [ay] using hq) (j.to (by unfold aA;ac_rfl))))
 clear h j i g u C hw hy hB A y E
 go_enter func20,ntmps20
 go_wp2_with fail
 refine z.out.mono ?_;rintro e w2 ⟨rfl,o,g⟩;have c0:=ae (l.out _ _ ⟨rfl,r.out.trans o,g.right⟩);clear z r o g l
 go_wp2_with fail
 exact c0.out
end
end Go.Proofs.Cl

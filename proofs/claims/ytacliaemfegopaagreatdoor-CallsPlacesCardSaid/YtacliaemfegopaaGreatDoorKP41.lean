/- Steps. -/
import Derived.Test.YtacliaemfegopaaGreatDoorKP40
import Derived.Test.YtacliaemfegopaaGreatDoorKP31
set_option linter.all false
set_option maxRecDepth 99999
set_option maxHeartbeats 0
open Go.SL
open Go.Value renaming int->W,slice->N,pointer->H,string->Z,tuple->I
open Go.Obj renaming cells->V
open Go.Ending renaming returned->M
open Go renaming World->K,Value->G
open Go.Proofs.Tryz renaming prog->Q
open Option renaming some->Y,none->U
open Go.Proofs.Tryz
open Go.World renaming size_alloc->E2,block_lt_of_cell?->M2
open List renaming length_map->H2,getElem?_eq_getElem->L2,setIfInBounds_toArray->O2,set_cons_zero->P2,take_of_length_le->R2,map_cons->S2
open Nat renaming le_refl->K2
namespace Go.SL
def lQ (T:Tr) (p:List UInt8):Int:=if (bX T p).1≠0 then (bX T p).1 else match T (bX T p).2 with
 | some (.dir _)=>0
 | _=>8
end Go.SL
namespace Go.Proofs.Cl
open Go.RowKit Go.SL Go.Proofs.Nn Go.Proofs.Ba Go.Proofs.Su Go.Proofs.Fs
attribute [local go_sem] Oper.semAt_some
def fR (a:Nat) (v:G):ai:=pt a (V #[v] 52 (0,0))
def xX (a:Nat) (l:List (List UInt8)):ai:=ex fun u=>eJ u l*fR a u
theorem oM {w:K} {a:Nat} {l:List (List UInt8)} {F:ai}:ag w (xX a l*F)↔∃ u,ag w (eJ u l*(fR a u*F)):=by
 unfold xX;rw [ag.aw];exact exists_congr fun u=>by rw [ax]
def uq (a:Nat) (L:List aN):ai:=ex fun g:List aN=>fact (g.Perm L/\jI zV g)*xX a (g.map aN.nm)
section
variable {n:Nat} {x:Fx n} {b v pc rc k:Nat} {T:Tr} {w:K} {F:ai} {p:List UInt8}
def Ng (rc:Nat) (v:G) (g:List aN) (j:ai) (w0:K) (u:G) (wr:K):Prop:=
 ∃ i:Nat,i<=g.length/\u = W .i64 (i:Int)/\aj w0 wr/\ag wr (xX rc ((g.take i).map aN.nm)*(gr v g*j))
theorem MX (ht:Tidy n T) (p0:lQ T p=0) (X0:(eP (T (bX T p).2)).length<=yq) (h:ag w (vA x b v T k*(aB pc p*(fR rc (N U 0 0)*F)))) :
  Calls Q 55 #[ay v,ay pc,ay rc] w (Gd (lQ T p) (vA x b v T k*(aB pc p*(uq rc (eP (T (bX T p).2))*F))) (vA x b v T k*(aB pc p*(fR rc (N U 0 0)*F))) w):=by
 refine aJ fun f1 HQ=>?_;have y:=h.to (by unfold vA;ac_rfl:_=eA x b (gJ T) k*(pt v (cl b n)*(aB pc p*(fR rc (N U 0 0)*F))));have k0:w.cell? ⟨v,0,U⟩=Y (ay b)/\w.cell? ⟨v,1,U⟩=Y (W .i64 (n:Int))/\w.cell? ⟨pc,0,U⟩=Y (Z (str p)):=⟨y.ah.cell 0,y.ah.cell 1,y.aq.cell 0⟩
 have x0:=ae X0;clear X0;have r0:=ae h;have HT:=ae ht
 have d1:Hid (∀ e,e≠0->e=lQ T p->∀ (w':K),aj w w'->ag w' (vA x b v T k*(aB pc p*(fR rc (N U 0 0)*F)))->f1 (.panicked (me e)) w'):=fun e hc he w' d C=>
  HQ.out _ _ ⟨d,.inr ⟨by rw [<- he];exact hc,by rw [he],C⟩⟩
 clear h y
 cases C:aX p with
 | none=>
  exact absurd ((by unfold lQ;rw [oU C];rfl:(1:Int)=lQ T p).trans p0) (by decide)
 | some ps=>
  obtain ⟨n1,hl⟩:=dq C;have h0:=e7 (T:=T) C;have u0:(eP (T (aT T 1 ps).2)).length<=yq:=by have:=x0.out;rw [h0] at this;exact this
  have s0:=ae u0;clear u0 x0;have hk:=ae (dP (w:=w.drew) C);have o:=fun y=>ht.walk ps ht.root.choose_spec y;have hw:=ae fun (u:G) (w':K) (h':ag w' (vA x b v T k*(eJ u ps*(aB pc p*(fR rc (N U 0 0)*F)))))=>fL HT.out hl iD h';have e0:=ae (show lQ T p=if (aT T 1 ps).1≠0 then (aT T 1 ps).1 else match T (aT T 1 ps).2 with|some (.dir _)=>0|_=>8 by unfold lQ;rw [h0]);rw [h0] at HQ;have HY:=ae o;clear ht C hl n1 h0 o;generalize aT T 1 ps=pw at *;obtain ⟨wc,id⟩:=pw;dsimp only at hw HY e0 HQ s0
  by_cases hc:wc=0
  .subst hc
   obtain ⟨r1,o⟩:=HY.out rfl
   cases r1 with
   | file f=>
    have b0:(8:Int)=lQ T p:=by rw [e0.out,if_neg (by decide),o]
    exact absurd (b0.trans p0) (by decide)
   | dir L=>
    have b0:lQ T p=0:=by rw [e0.out,if_neg (by decide),o]
    have hE:=HT.out.rf _ _ o;have o1:L.length<=yq:=by have:=s0.out;rw [o] at this;exact this
    have S0:=ae fun (u:G) (w':K) (h':ag w' (eA x b (gJ T) k*(pt v (cl b n)*(aB pc p*(eJ u ps*(fR rc (N U 0 0)*F))))))=>Ga h' (lu o) hE.ok o1 hE.nd;have L0:=ae dx;have HL:=ae hE.len;rw [b0,o] at HQ;clear o HY e0 d1 hE b0
    go_enter func55,ntmps55
    go_wp2_with fail
    go_region_held3 (fun w'=>w'.cell? ⟨v,0,U⟩=Y (ay b)/\w'.cell? ⟨v,1,U⟩=Y (W .i64 (n:Int))/\w'.cell? ⟨pc,0,U⟩=Y (Z (str p)))
     (first|exact k0|exact k1|exact k2|exact k3|go_keep)
     (first
     | (go_at_call 32;refine hk.out.mono ?_;rintro e w4 ⟨u,rfl,d4,h4⟩;have h5:=(h4.under r0.out.drew).to (by ac_rfl:_=vA x b v T k*(eJ u ps*(aB pc p*(fR rc (N U 0 0)*F))));have h6:=h5.to (by unfold vA;ac_rfl:_=pt v (cl b n)*(aB pc p*(eA x b (gJ T) k*(eJ u ps*(fR rc (N U 0 0)*F)))));have k1:w4.cell? ⟨v,0,U⟩=Y (ay b)/\w4.cell? ⟨v,1,U⟩=Y (W .i64 (n:Int))/\w4.cell? ⟨pc,0,U⟩=Y (Z (str p)):=⟨h6.cell 0,h6.cell 1,h6.ah.cell 0⟩;have c1:=ae (hw.out u w4 h5))
     | (go_at_call 31;refine c1.out.mono ?_;rintro e w5 ⟨he,d5,h7⟩;obtain rfl:=he.elim (fun h=>h.2) (fun h=>absurd rfl h.1);have h8:=h7.to (by unfold vA;ac_rfl:_=eA x b (gJ T) k*(pt v (cl b n)*(aB pc p*(eJ u ps*(fR rc (N U 0 0)*F)))));have k2:w5.cell? ⟨v,0,U⟩=Y (ay b)/\w5.cell? ⟨v,1,U⟩=Y (W .i64 (n:Int))/\w5.cell? ⟨pc,0,U⟩=Y (Z (str p)):=⟨h8.ah.cell 0,h8.ah.cell 1,h8.aq.cell 0⟩;have T0:=ae (S0.out u w5 h8))
     | (go_at_call 56;refine T0.out.mono ?_;rintro e w6 ⟨u2,g,rfl,pW,sW,d6,h9⟩;have k3:w6.cell? ⟨v,0,U⟩=Y (ay b)/\w6.cell? ⟨v,1,U⟩=Y (W .i64 (n:Int))/\w6.cell? ⟨pc,0,U⟩=Y (Z (str p)):=⟨h9.aq.cell 0,h9.aq.cell 1,h9.aD.cell 0⟩;obtain ⟨E,j,rfl⟩:=aC h9))
    rename_i h1;have D6:=ae ((((aj.refl w).drew.trans d4).trans d5).trans d6);have H9:=ae (h9.to (by unfold vA;ac_rfl:_=gr (N E g.length j) g*(fR rc (N U 0 0)*(vA x b v T k*(aB pc p*(eJ u ps*F))))));have i1:g.length<=3840:=by rw [pW.length_eq];exact HL.out
    have PW:=ae pW;have SW:=ae sW;clear h1 k0 k1 k2 k3 h4 h5 h6 h7 h8 h9 d4 d5 d6 c1 T0 S0 hw hk he r0 HL pW sW
    go_wp2_with fail
    refine (L0.out _).mono ?_;rintro e w7 ⟨rfl,rfl⟩;clear L0
    go_wp2_with fail
    have hZ:=H9.out.to (by ac_rfl:_=fR rc (N U 0 0)*(gr (N E g.length j) g*(vA x b v T k*(aB pc p*(eJ u ps*F)))));obtain ⟨r,hz⟩:∃ r,vA x b v T k*(aB pc p*(eJ u ps*F))=r:=⟨_,rfl⟩
    rw [hz] at hZ;have y:Ng rc (N E g.length j) g r w (W .i64 0) w6:=⟨0,Nat.zero_le _,rfl,D6.out,oM.2 ⟨N U 0 0,hZ.eC 9 1⟩⟩
    have o0:=ae y;have HZ:=ae hz.symm;obtain ⟨z,hN⟩:∃ z,g.length=z:=⟨_,rfl⟩
    have HN:=ae hN;have t1:(z:Int)<=3840:=by omega
    clear hZ y hz i1 H9 D6;rw [hN];clear hN
    go_loopw [24] (fun u wr=>Ng rc (N E g.length j) g r w u wr) (fun u _=>z-(intOf u).toNat)
    case atStart=>exact o0.out
    case round=>
     obtain ⟨i,hi,rfl,m0,d0⟩:=hrel;rw [HN.out] at hi
     by_cases v1:i<z
     .have w1:(i:Int)<(z:Int):=by omega
      have q0:i<g.length:=by have:=HN.out;omega
      obtain ⟨v',A⟩:=oM.1 d0;obtain ⟨pa,n0,rfl⟩:=aC A;have h2:ag wr (sl 99 2 (N E g.length j) g.length (bu g)*(xX rc ((g.take i).map aN.nm)*r)):=d0.to (by unfold gr;ac_rfl);obtain ⟨g0,c,e,e1,e2,l1,l2⟩:=sw h2 q0;simp only [Value.slice.injEq] at e;obtain ⟨rfl,-,rfl⟩:=e;have Z0:(g.take (i+1)).map aN.nm=(g.take i).map aN.nm++[(g[i]).nm]:=by rw [List.take_add_one,List.map_append,L2 q0];rfl
      have m1:((g.take i).map aN.nm).length=i:=by rw [H2,List.length_take];omega
      generalize g[i]=x at *;have z1:(z:Int)<=(j:Int):=by have:=HN.out;omega
      have hA:=(A.alloc (V #[W .i64 (x.nd:Int),Z (str x.nm)] 99 (0,0))).alloc (V #[Z (str x.nm)] 9 (0,0));simp only [E2] at hA;generalize hl:(g.take i).map aN.nm=l at *;have c0:wr.cell? ⟨rc,0,U⟩=Y (N pa l.length n0):=A.ah.cell 0;have x1:rc<wr.heap.size:=M2 wr _ c0;have y1:g0<wr.heap.size:=M2 wr _ e1
      have hR:nG ((wr.alloc (V #[W .i64 (x.nd:Int),Z (str x.nm)] 99 (0,0))).alloc (V #[Z (str x.nm)] 9 (0,0))) 1 (N (Y ⟨wr.heap.size+1,0,U⟩) 1 1) 1 [Z (str x.nm)]:=
       ⟨rfl,.inr ⟨_,_,rfl,fun q1 u hu=>by
        rw [Addr.add_lit,Nat.zero_add];exact (hA.cell q1).trans (by simpa using hu)⟩⟩
      obtain ⟨i0,N0,hz,W0,K0⟩:=info_parts pZ;have H0:=hA.to (by unfold eJ;ac_rfl:_=sl 9 1 (N pa l.length n0) l.length (strs l)*(fR rc (N pa l.length n0)*(gr (N (Y ⟨g0,0,U⟩) g.length j) g*(pt (wr.heap.size+1) (V #[Z (str x.nm)] 9 (0,0))*(pt wr.heap.size (V #[W .i64 (x.nd:Int),Z (str x.nm)] 99 (0,0))*r)))));obtain ⟨v2,w',V0,f0,Y0⟩:=ag.append (P:=Q) (ty:=52) underlying52 N0 hz W0 K0 rfl H0 hR (by intro u hu;rw [List.mem_singleton.1 hu];rfl) (by unfold maxLen;omega) (by omega);obtain ⟨aa,ac,rfl⟩:=aC f0;have g1:w'.cell? ⟨rc,0,U⟩=Y (N pa l.length n0):=f0.ah.cell 0;have s1:w'.frozen? ⟨rc,0,U⟩=false:=f0.ah.frozen 0;have l0:=f0.ah.setCell 0 (N aa (l.length+1) ac);simp only [O2,P2] at l0;have e:strs l++[Z (str x.nm)]=strs (l++[x.nm]):=by unfold strs;rw [List.map_append];rfl
      rw [e] at l0
      have U0:ag (w'.setCell ⟨rc,0,U⟩ (N aa (l.length+1) ac)) (xX rc ((g.take (i+1)).map aN.nm)*(gr (N (Y ⟨g0,0,U⟩) g.length j) g*r)):=by
       rw [Z0];refine oM.2 ⟨N aa (l.length+1) ac,?_⟩;unfold eJ;rw [List.length_append,List.length_singleton];exact (l0.to (by unfold fR;ac_rfl:_=(pt (wr.heap.size+1) (V #[Z (str x.nm)] 9 (0,0))*pt wr.heap.size (V #[W .i64 (x.nd:Int),Z (str x.nm)] 99 (0,0)))*(sl 9 1 (N aa (l.length+1) ac) (l.length+1) (strs (l++[x.nm]))*(fR rc (N aa (l.length+1) ac)*(gr (N (Y ⟨g0,0,U⟩) g.length j) g*r))))).right
      have D0:=ae U0;have G0:=ae ((((m0.alloc (V #[W .i64 (x.nd:Int),Z (str x.nm)] 99 (0,0))).alloc (V #[Z (str x.nm)] 9 (0,0))).trans Y0).setCell ⟨rc,0,U⟩ (N aa (l.length+1) ac));have F0:=ae V0;have Hi:=ae hi;clear d0 A h2 hA hR N0 hz W0 K0 H0 V0 f0 Y0 l0 U0 e Z0 hl m0 o0 hi q0 l1 m1;obtain ⟨ll,R0⟩:∃ ll,l.length=ll:=⟨_,rfl⟩
      rw [R0] at F0 D0 G0 c0 g1;clear R0;have A1:(j:Int)<=9223372036854775807:=by omega
      clear l2
      go_wp2_with (at_builtin;refine wpList_append_run F0.out _ _ rfl rfl rfl rfl rfl ?_)
      refine ⟨⟨i+1,by have:=HN.out;omega,by go_num,G0.out,D0.out⟩,by simp [intOf];omega⟩
     .obtain rfl:i=z:=by omega
      have A:ag wr (xX rc (g.map aN.nm)*(gr (N E g.length j) g*r)):=by rw [R2 (by rw [HN.out];exact K2 _)] at d0;exact d0
      rw [HZ.out] at A
      have h2:ag wr (uq rc L*(vA x b v T k*(aB pc p*F))):=by
       unfold uq;rw [ag.aw];refine ⟨g,?_⟩;rw [ax];exact ag.au.2 ⟨⟨PW.out,SW.out⟩,(A.to (by ac_rfl:_=(gr (N E g.length j) g*eJ u ps)*(xX rc (g.map aN.nm)*(vA x b v T k*(aB pc p*F))))).right⟩
      have j1:=ae (HQ.out (M (I #[])) wr ⟨m0,.inl ⟨rfl,rfl,h2.to (by ac_rfl)⟩⟩);clear A h2 HQ d0 m0 o0
      go_wp2_with fail
      go_end0
      exact j1.out
  .have b0:wc=lQ T p:=by rw [e0.out,if_pos hc]
   exact absurd (b0.trans p0) hc
end
section
variable {t:Pl} {q:Dk t.n} {s s':Ds} {T:Tr} {k m:Nat} {O:kg} {w:K} {F:ai} {p:List UInt8}
def R9 (t:Pl) (m:Nat) (s:Ds) (O:kg) (c:Int) (L:List aN) (F:ai) (w:K) (e:Ending) (w':K):Prop:=
 ∃ s',aj w w'/\s.Rd s'/\((c≠0/\e = M (I #[N U 0 0,W .i64 c])/\ag w' (dH t s' m O*F)) \/
  (c=0/\∃ u g,g.Perm L/\jI zV g/\e = M (I #[u,W .i64 0])/\ag w' (eJ u (g.map aN.nm)*(dH t s' m O*F))))
theorem y6 (A:mF t q s T k) (hB:s.B<=1000000) (b0:lQ T p=0) (d0:(eP (T (bX T p).2)).length<=yq) (h:ag w (dH t s m O*F)) :
  Calls Q 22 #[ay t.f,Z (str p)] w (R9 t m s O (lQ T p) (eP (T (bX T p).2)) F w):=by
 refine aJ fun e0 j=>?_;have y:=((h.alloc (V #[Z (str p)] 9 (0,0))).alloc (V #[N U 0 0] 52 (0,0)))
 simp only [E2] at y;have dA:=ae (((aj.refl w).alloc (V #[Z (str p)] 9 (0,0))).alloc (V #[N U 0 0] 52 (0,0)))
 have hd:=ae fun (pc rc:Nat) (w':K) (h':ag w' (dH t s m O*((aB pc p*fR rc (N U 0 0))*F)))=>
  iW A hB 55 #[ay pc,ay rc] (aB pc p*fR rc (N U 0 0)) (lQ T p) (aB pc p*uq rc (eP (T (bX T p).2))) (aB pc p*fR rc (N U 0 0)) (enters func55 (by kernel_rfl) rfl)
   (fun x v b w1 c0 hw=>(MX (x:=x) (b:=b) (v:=v) (k:=k) (pc:=pc) (rc:=rc) (F:=ew t m O*c0) (p:=p) A.ty b0 d0 (hw.to (by ac_rfl))).mono fun e w' hq=>by simpa only [ax] using hq) h'
 have HA:=ae y;clear b0;unfold R9 at j;clear h y hB A;generalize lQ T p=cc at *;generalize eP (T (bX T p).2)=L at *
 go_enter func22,ntmps22
 go_wp2_with fail
 generalize (w.alloc (V #[Z (str p)] 9 (0,0))).alloc (V #[N U 0 0] 52 (0,0))=w1 at *;generalize w.heap.size=pc at *;refine (hd.out pc (pc+1) _ (HA.out.to (by unfold aB fR;ac_rfl))).mono ?_;rintro e w2 ⟨s',rfl,d2,r,i⟩;have l:=ae (dA.out.trans d2);clear hd dA HA d2
 by_cases z:cc=0
 .subst z
  rw [if_pos rfl] at i;have h3:=i.to (by unfold uq;ac_rfl:_=(ex fun g:List aN=>fact (g.Perm L/\jI zV g)*xX (pc+1) (g.map aN.nm))*(dH t s' m O*(aB pc p*F)));obtain ⟨g,u⟩:=ag.aw.1 h3;rw [ax] at u;obtain ⟨⟨pW,sW⟩,h5⟩:=ag.au.1 u;obtain ⟨f0,o⟩:=oM.1 h5;obtain ⟨E,uc,rfl⟩:=aC o;have t0:w2.cell? ⟨pc+1,0,U⟩=Y (N E (g.map aN.nm).length uc):=o.ah.cell 0;have C:=ae (j.out _ _ ⟨s',l.out,r,.inr ⟨rfl,_,g,pW,sW,rfl,(o.to (by ac_rfl:_=(fR (pc+1) (N E (g.map aN.nm).length uc)*aB pc p)*(eJ (N E (g.map aN.nm).length uc) (g.map aN.nm)*(dH t s' m O*F)))).right⟩⟩);clear i h3 u h5 o j r l pW sW;generalize (g.map aN.nm).length=ln at *
  go_wp2_with fail
  exact C.out
 .rw [if_neg z] at i
  have C:=ae (j.out _ _ ⟨s',l.out,r,.inl ⟨z,rfl,(i.to (by ac_rfl:_=(aB pc p*fR (pc+1) (N U 0 0))*(dH t s' m O*F))).right⟩⟩);clear i j r l
  go_wp2_with fail
  exact C.out
end
end Go.Proofs.Cl
namespace Go.SL
open Go.RowKit
def vx (T:Tr) (d id:Nat) (nm:List UInt8) (f:AF) (L:List aN):Tr:=Go.SL.eU (lf T d (L++[⟨id,nm⟩])) id (Y (.file { f with lk:=f.lk+1 }))
theorem Tidy.Lv {n id:Nat} {T:Tr} {f:AF} (h:Tidy n T) (g:T id=Y (.file f)):0<=f.lk:=by
 have:=h.ref id;rw [g] at this;simp only [J9] at this;omega
theorem Tidy.Lp {n id:Nat} {T:Tr} {f:AF} (h:Tidy n T) (g:T id=Y (.file f)):id≠1:=by
 rintro rfl;obtain ⟨L,i⟩:=h.root;rw [i] at g;cases g
theorem Tidy.link {n d id:Nat} {T:Tr} {L:List aN} {nm:List UInt8} {f:AF} (h:Tidy n T) (i:T id=Y (.file f)) (j:T d=Y (.dir L)) (C:0<id) (b0:n<=3840) (u:cE nm=true) (z:jW L nm=U) (r:L.length<3840):Tidy n (vx T d id nm f L):=by
 have y:id≠d:=by rintro rfl;rw [i] at j;cases j
 have E:=h.lt i;have l:=h.w.add j ((h.rf _ _ j).snoc (id:=id) (by omega) (by omega) u z r);have A:lf T d (L++[⟨id,nm⟩]) id=Y (.file f):=by unfold lf;rw [aS _ _ y];exact i
 have o:=l.leaf (y':=Y (.file { f with lk:=f.lk+1 })) A rfl rfl (h.Lp i) (fun L e=>by cases e) (fun g e=>by cases e;exact (h.files _ _ i:f.kd=1));refine o.tidy fun x=>?_
 by_cases e:x=id
 .subst e;simp [J9];omega
 .simp [e]
def gB (T:Tr) (k:Nat) (p1 p2:List UInt8):Int:=match aX p1,aX p2 with
 | some ps,Y qs=>if (aT T 1 ps).1≠0 then (aT T 1 ps).1 else match T (aT T 1 ps).2 with
  | some (.file f)=>if ft T qs≠0 then ft T qs else if 60000<=f.lk then 9 else km k (eP (T (fK T qs))) (cT qs)
  | _=>8
 | _,_=>1
def yv (T:Tr) (k:Nat) (p1 p2:List UInt8) (c:Int) (T':Tr) (k':Nat):Prop:=
 c=gB T k p1 p2/\(c=0->∃ ps qs id f L,aX p1=Y ps/\aX p2=Y qs/\aT T 1 ps=(0,id)/\T id=Y (.file f)/\T (fK T qs)=Y (.dir L)/\jW L (cT qs)=U /\
  T'=vx T (fK T qs) id (cT qs) f L/\k'=k+cD L.length-cD (L.length+1))
end Go.SL
namespace Go.Proofs.Cl
open Go.RowKit Go.SL Go.Proofs.Nn Go.Proofs.Ba Go.Proofs.Su Go.Proofs.Fs
attribute [local go_sem] Oper.semAt_some
section
variable {n:Nat} {x:Fx n} {b v pc qc k:Nat} {T:Tr} {w:K} {F:ai} {p1 p2:List UInt8}
theorem GG (hn:n<=3840) (ht:Tidy n T) (x1:∀ id n0,T id=Y n0->0<id) (E:gB T k p1 p2=0) (h:ag w (vA x b v T k*(aB pc p1*(aB qc p2*F)))) :
  Calls Q 50 #[ay v,ay pc,ay qc] w (Rk x b v (yv T k p1 p2) (aB pc p1*(aB qc p2*F)) w):=by
 refine aJ fun c2 HQ=>?_;have k0:w.cell? ⟨pc,0,U⟩=Y (Z (str p1))/\w.cell? ⟨qc,0,U⟩=Y (Z (str p2)):=⟨h.ah.cell 0,h.aq.cell 0⟩
 have T0:=ae h;have i:=ae ht;clear h ht
 cases hs:aX p1 with
 | none=>
  have l:(1:Int)=gB T k p1 p2:=by unfold gB;rw [hs]
  exact absurd (l.trans E) (by decide)
 | some ps=>
  cases d0:aX p2 with
  | none=>
   have l:(1:Int)=gB T k p1 p2:=by unfold gB;rw [hs,d0]
   exact absurd (l.trans E) (by decide)
  | some qs=>
   obtain ⟨V1,hl⟩:=dq hs;obtain ⟨t1,j1⟩:=dq d0;have hk:=ae (dP (w:=w.drew) hs);have i1:=ae fun w'=>dP (w:=w') d0
   have c0:=ae (show gB T k p1 p2=if (aT T 1 ps).1≠0 then (aT T 1 ps).1 else match T (aT T 1 ps).2 with
    | some (.file f)=>if ft T qs≠0 then ft T qs else if 60000<=f.lk then 9 else km k (eP (T (fK T qs))) (cT qs)
    | _=>8 by unfold gB;rw [hs,d0])
   have o:=fun h0=>i.out.walk ps i.out.root.choose_spec h0;have HY:=ae o;have HL:=ae hl;have K1:=ae j1;have L1:=ae t1;have O1:=ae x1
   have q0:=ae fun (id:Nat) (f:AF) (L:List aN) (e1:aT T 1 ps=(0,id)) (e2:T id=Y (.file f)) (e3:T (fK T qs)=Y (.dir L)) (e4:jW L (cT qs)=U) (e5:gB T k p1 p2=0) (e6:Tidy n (vx T (fK T qs) id (cT qs) f L)) (w':K) (d:aj w w') (W1:ag w' (vA (x.more 8) b v (vx T (fK T qs) id (cT qs) f L) (k+cD L.length-cD (L.length+1))*(aB pc p1*(aB qc p2*F))))=>
    HQ.out (M (I #[])) w' ⟨0,_,_,8,⟨e5.symm,fun _=>⟨ps,qs,id,f,L,hs,d0,e1,e2,e3,e4,rfl,rfl⟩⟩,fun _=>e6,.inl ⟨rfl,rfl⟩,d,by decide,W1⟩
   clear hs d0 HQ V1 hl t1 j1 o x1
   go_enter func50,ntmps50
   go_wp2_with fail
   go_region_held3 (fun w'=>w'.cell? ⟨pc,0,U⟩=Y (Z (str p1))/\w'.cell? ⟨qc,0,U⟩=Y (Z (str p2)))
    (first|exact k0|exact k1|exact k2|go_keep)
    (first
     | (go_at_call 32;(with_reducible refine (i1.out _).mono ?_);rintro e w5 ⟨u2,rfl,d5,h6⟩;have u:=h6.under h5;have k2:w5.cell? ⟨pc,0,U⟩=Y (Z (str p1))/\w5.cell? ⟨qc,0,U⟩=Y (Z (str p2)):=⟨u.aD.cell 0,u.aI.cell 0⟩)
     | (go_at_call 32;(with_reducible refine hk.out.mono ?_);rintro e w4 ⟨f0,rfl,d4,h4⟩;have h5:=h4.under T0.out.drew;have k1:w4.cell? ⟨pc,0,U⟩=Y (Z (str p1))/\w4.cell? ⟨qc,0,U⟩=Y (Z (str p2)):=⟨h5.aq.cell 0,h5.aD.cell 0⟩))
   rename_i S1;have h8:=u.to (by ac_rfl:_=vA x b v T k*(eJ f0 ps*(eJ u2 qs*(aB pc p1*(aB qc p2*F)))));have hw:=ae (fL i.out HL.out iD h8);have D5:=ae (((aj.refl w).drew.trans d4).trans d5);clear S1 k0 k1 k2 h4 h5 h6 u h8 d4 d5 hk i1 T0 HL;obtain ⟨pw,y1⟩:∃ pw,aT T 1 ps=pw:=⟨_,rfl⟩
   rw [y1] at hw HY c0 q0;clear y1;obtain ⟨wc,id⟩:=pw;dsimp only at hw HY c0
   go_wp2_with fail
   refine hw.out.mono ?_;rintro e w6 ⟨he,d6,h6⟩;clear hw;have D6:=ae (D5.out.trans d6);clear D5 d6;rcases he with ⟨rfl,rfl⟩|⟨l,rfl⟩
   .obtain ⟨n0,o⟩:=HY.out rfl
    have c1:=ae (mM o h6);clear h6
    go_wp2_with fail
    refine c1.out.mono ?_;rintro e r hq;rcases hq with ⟨e0,z,rfl,E1,Z1,H1,a2,d7,u⟩|⟨e0,rfl,d7,u⟩
    .cases n0 with
     | dir L=>exact absurd e0 (by show ¬ (2:Int)=1;decide)
     | file f=>
      have b0:gB T k p1 p2=if ft T qs≠0 then ft T qs else if 60000<=f.lk then 9 else km k (eP (T (fK T qs))) (cT qs):=by rw [c0.out,if_neg (by decide),o]
      have o0:=ae b0;obtain ⟨hX,w1,g1⟩:=mz E1;have y:=u.alloc (V nE 73 (0,0));have Hz:=ae y.heap;have hE:=y.setRow (cs':=ints z.l);have n1:((r.alloc (V nE 73 (0,0))).setRow r.heap.size (ints z.l)).cell? ⟨r.heap.size,1,U⟩=Y (W .i64 f.lk):=by rw [show f.lk=z.lk from H1.symm];exact hE.cell 1
      have HE:=ae (hE.to (by ac_rfl:_=vA x b v T k*(eJ u2 qs*(pt r.heap.size (V (ints z.l) 73 (0,0))*(eJ f0 ps*(aB pc p1*(aB qc p2*F)))))));have D7:=ae (((D6.out.trans d7).alloc (V nE 73 (0,0))).setRow r.heap.size (ints z.l));have X0:=ae w1;have W0:=ae g1;have HX:=ae hX;have N1:=ae n1;have b2:=ae e0;have C:=ae o;clear c1 y hE hX w1 g1 n1 d7 u E1 Z1 H1 a2 o HY c0 b0 e0 D6;unfold nE at *
      go_upto_region 3 with (refine wpList_store_row (by exact rfl) 73 (.tmp 7) (.tmp 18) (by exact rfl) r.heap.size (ints z.l) (by exact rfl) (by exact rfl) 73 _ (by with_reducible exact Hz.out) W0.out (by rw [HX.out];rfl) X0.out ?_)
      generalize X1:(r.alloc (V #[W .i64 0,W .i64 0,W .i64 0,W .i64 0,W .i64 0,W .i64 0,W .i64 0,W .i64 0,W .i64 0,W .i64 0,W .i64 0,W .i64 0,W .i64 0,W .i64 0,W .i64 0,W .i64 0,W .i64 0,W .i64 0,W .i64 0,W .i64 0] 73 (0,0))).setRow r.heap.size (ints z.l)=w8 at *;generalize r.heap.size=nb at *;have d1:=ae (sH i.out K1.out (fun d2 P hW=>eH hW) iD HE.out);clear X1 Hz X0 W0 HX
      go_wp2_with fail
      refine d1.out.mono ?_;rintro e g ⟨he,d9,h9⟩;have n1:g.cell? ⟨nb,1,U⟩=Y (W .i64 f.lk):=(h9.aq.cell 1).trans ((HE.out.aq.cell 1).symm.trans N1.out);have D9:=ae (D7.out.trans d9);clear d1 HE N1 D7 d9;rcases he with ⟨H0,rfl⟩|⟨l,rfl⟩
      .obtain ⟨r1,L,A,hp⟩:=wz i.out H0
       have m0:=CL L1.out r1;have b0:gB T k p1 p2=if 60000<=f.lk then 9 else km k L (cT qs):=by rw [o0.out,if_neg (by rw [H0];simp),A];rfl
       have g0:=ae b0;have r0:=ae fun e5 e6=>q0.out id f L rfl C.out A hp e5 e6;have hE:=i.out.rf _ _ A;have K0:=O1.out _ _ C.out;have g2:=i.out.lt C.out;have z1:=fun hl=>i.out.link C.out A K0 hn m0 hp hl;have u0:=ae z1;obtain ⟨d,G0⟩:∃ d,fK T qs=d:=⟨_,rfl⟩
       obtain ⟨nm,N0⟩:∃ nm,cT qs=nm:=⟨_,rfl⟩
       rw [G0,N0] at r0 u0 ⊢;rw [N0] at g0 m0 hp;rw [G0] at A;have y:=h9.alloc (V #[W .i64 (d:Int),Z (str nm)] 92 (0,0));have dB:=ae (D9.out.alloc (V #[W .i64 (d:Int),Z (str nm)] 92 (0,0)));have A1:=bH g (V #[W .i64 (d:Int),Z (str nm)] 92 (0,0)) _ _ n1;have hC:=y.to (by ac_rfl:_=vA x b v T k*(pt g.heap.size (V #[W .i64 (d:Int),Z (str nm)] 92 (0,0))*(eJ u2 qs*(pt nb (V (ints z.l) 73 (0,0))*(eJ f0 ps*(aB pc p1*(aB qc p2*F)))))));have s0:(g.alloc (V #[W .i64 (d:Int),Z (str nm)] 92 (0,0))).cell? ⟨g.heap.size,0,U⟩=Y (W .i64 (d:Int)):=y.cell 0;have s1:(g.alloc (V #[W .i64 (d:Int),Z (str nm)] 92 (0,0))).cell? ⟨g.heap.size,1,U⟩=Y (Z (str nm)):=y.cell 1;have ha:=ae (AG (child:=id) K0 (by omega) A hE m0 hC);have HB:=ae hC;have HD:=ae A;have HP:=ae hp;have o1:=i.out.Lv C.out;have f2:=ae fun w=>dF w 9 (by decide);have i2:nb<g.heap.size:=M2 g _ n1;clear y hC h9 A hE m0 hp b0 G0 N0 H0 r1 o0 q0 K0 z1 n1
       by_cases l0:60000<=f.lk
       .exact absurd ((by rw [g0.out,if_pos l0]:gB T k p1 p2=9).symm.trans E) (by decide)
       .have m1:f.lk<60000:=by omega
        have p0:=ae (show gB T k p1 p2=km k L nm by rw [g0.out,if_neg l0]);clear g0;obtain ⟨lk,L0⟩:∃ lk,f.lk=lk:=⟨_,rfl⟩
        rw [L0] at A1 l0 m1 o1;have U0:=ae L0;clear L0
        go_wp2_with fail
        generalize g.alloc (V #[W .i64 (d:Int),Z (str nm)] 92 (0,0))=j2 at *;generalize g.heap.size=sp at *;refine ha.out.mono ?_;rintro e D1 hq;rcases hq with ⟨j,rfl,x0,D0⟩|⟨j,rfl,x0,D0⟩
        .have l1:L.length<3840:=by
          unfold km at j;rw [HP.out] at j;simp only [Option.isSome_none,Bool.false_eq_true,if_false] at j
          split at j
          .exact absurd j (by decide)
          .omega
         have f1:id≠d:=by rintro rfl;have h1:=C.out;have h2:=HD.out;rw [h1] at h2;cases h2
         have Z0:gJ (lf T d (L++[⟨id,nm⟩])) id=Y f:=mC (by unfold lf;rw [aS _ _ f1];exact C.out);have R0:wrap64 (f.lk+1)=f.lk+1:=by have:=U0.out;unfold wrap64;omega
         have i0:=D0.to (by unfold vA;ac_rfl:_=eA (x.more 5) b (gJ (lf T d (L++[⟨id,nm⟩]))) (k+cD L.length-cD (L.length+1))*(pt v (cl b n)*(pt sp (V #[W .i64 (d:Int),Z (str nm)] 92 (0,0))*(eJ u2 qs*(pt nb (V (ints z.l) 73 (0,0))*(eJ f0 ps*(aB pc p1*(aB qc p2*F))))))));have v0:D1.cell? ⟨v,0,U⟩=Y (ay b):=i0.ah.cell 0;have v1:D1.cell? ⟨v,1,U⟩=Y (W .i64 (n:Int)):=i0.ah.cell 1;have q1:=ae (LL i0 Z0 1 (by rw [R0];have:=U0.out;omega));have HW:=ae R0;have R1:=ae dx;have V0:=ae (r0.out (by rw [p0.out,j]) (u0.out l1));have S0:=ae (dB.out.trans x0);clear D0 i0 Z0 R0 f1 l1 j x0 dB ha HB A1 s0 s1 l0 m1 o1 r0 u0 p0
         go_wp2_with fail
         refine q1.out.mono ?_;rintro e Y1 ⟨rfl,Y0,F0⟩;rw [HW.out,show eU (gJ (lf T d (L++[⟨id,nm⟩]))) id (Y { f with lk:=f.lk+1 })=gJ (vx T d id nm f L) from wS (lf T d (L++[⟨id,nm⟩])) id (.file { f with lk:=f.lk+1 })] at F0;have U1:=ae (V0.out Y1 (S0.out.trans Y0) (F0.to (by unfold vA;ac_rfl:_=(pt sp (V #[W .i64 (d:Int),Z (str nm)] 92 (0,0))*(eJ u2 qs*(pt nb (V (ints z.l) 73 (0,0))*eJ f0 ps)))*(vA (x.more 8) b v (vx T d id nm f L) (k+cD L.length-cD (L.length+1))*(aB pc p1*(aB qc p2*F))))).right);clear q1 F0 Y0 S0 V0 v0 v1
         go_wp2_with fail
         refine (R1.out _).mono ?_;rintro e l2 ⟨rfl,rfl⟩
         go_wp2_with fail
         go_end0
         exact U1.out
        .exact absurd (p0.out.symm.trans E) j
      .exact absurd ((by rw [o0.out,if_pos l]:gB T k p1 p2=_).symm.trans E) l
    .have b0:(8:Int)=gB T k p1 p2:=by
      rw [c0.out,if_neg (by decide),o]
      cases n0 with
      | dir L=>rfl
      | file f=>exact absurd (i.out.files _ _ o) e0
     exact absurd (b0.trans E) (by decide)
   .exact absurd ((by rw [c0.out,if_pos l]:gB T k p1 p2=_).symm.trans E) l
end
section
variable {t:Pl} {q:Dk t.n} {s s':Ds} {T:Tr} {k m:Nat} {O:kg} {w:K} {F:ai} {p1 p2:List UInt8}
theorem mF.pos (h:mF t q s T k):∀ id y,T id=Y y->0<id:=fun id y g=>(h.at_.has.wf (f:=y.af) (by unfold gJ;rw [g];rfl)).2.1
theorem GL (g:mF t q s T k) (y:s.B<=1000000) (C:gB T k p1 p2=0) (h:ag w (dH t s m O*F)) :
  Calls Q 19 #[ay t.f,Z (str p1),Z (str p2)] w (PO t q m s O (yv T k p1 p2) F w):=by
 refine aJ fun d0 l=>?_;have i:=(h.alloc (V #[Z (str p1)] 9 (0,0))).alloc (V #[Z (str p2)] 9 (0,0));simp only [E2] at i;have r:=ae (((aj.refl w).alloc (V #[Z (str p1)] 9 (0,0))).alloc (V #[Z (str p2)] 9 (0,0)))
 have A:=ae fun (pc qc:Nat) (w':K) (h':ag w' (dH t s m O*((aB pc p1*aB qc p2)*F)))=>
  tB g y 50 #[ay pc,ay qc] (aB pc p1*aB qc p2) (yv T k p1 p2) (enters func50 (by kernel_rfl) rfl)
   (fun x v b w1 b0 hw=>(GG (x:=x) (b:=b) (v:=v) (k:=k) (pc:=pc) (qc:=qc) (F:=ew t m O*b0) (p1:=p1) (p2:=p2) g.hn g.ty g.pos C (hw.to (by ac_rfl))).mono fun e w' hq=>by simpa only [ax] using hq) h'
 have j:=ae i;clear C;clear h i g y
 go_enter func19,ntmps19
 go_wp2_with fail
 generalize (w.alloc (V #[Z (str p1)] 9 (0,0))).alloc (V #[Z (str p2)] 9 (0,0))=w1 at *;generalize w.heap.size=pc at *;refine (A.out pc (pc+1) _ (j.out.to (by unfold aB;ac_rfl))).mono ?_;rintro e w2 ⟨c,T',k',s',z,rfl,o,E,u⟩;have c0:=ae (l.out _ _ ⟨c,T',k',s',z,rfl,r.out.trans o,E,(u.to (by ac_rfl:_=(aB pc p1*aB (pc+1) p2)*(dH t s' m O*F))).right⟩);clear A r j o E z u l
 go_wp2_with fail
 exact c0.out
end
end Go.Proofs.Cl
namespace Go.SL
def mj (ps qs:List (List UInt8)):Bool:=decide (ps.length<qs.length) && decide (ps=qs.take ps.length)
end Go.SL
namespace Go.Proofs.Cl
open Go.RowKit Go.SL Go.Proofs.Nn Go.Proofs.Ba Go.Proofs.Su Go.Proofs.Fs
attribute [local go_sem] Oper.semAt_some
section
variable {w:K} {F:ai} {ps qs:List (List UInt8)} {u1 u2:G}
theorem str_inj {a c:List UInt8} (h:str a=str c):a=c:=by
 have:=congrArg (fun x:ByteArray=>x.data.toList) h;simpa [str] using this
theorem rH:∀ {a c:List (List UInt8)},a.map str=c.map str->a=c
 | [],[],_=>rfl
 | [],_ :: _,h=>by simp at h
 | _ :: _,[],h=>by simp at h
 | x :: a,y :: c,h=>by
  simp only [S2,List.cons.injEq] at h;rw [str_inj h.1,rH h.2]
theorem pO {u:G} (A:ps≠[]) (h:ag w (eJ u ps*F)):∃ g c,u = N (Y ⟨g,0,U⟩) ps.length c/\ps.length<=c/\c<=9223372036854775807/\∀ j,j<(ps.map str).length->w.cell? ⟨g,0+j,U⟩=Y (Z ((ps.map str).getD j ByteArray.empty)):=by
 have hp:=List.length_pos_iff.2 A;rcases ag.de (show ag w (sl 9 1 u ps.length (strs ps)*F) from h) with ⟨_,E,_⟩|⟨g,l,C,rfl,o,r,h5,y,z⟩
 .omega
 .refine ⟨g,l,rfl,o,by unfold maxLen at r;omega,fun j i=>?_⟩
  rw [H2] at i
  have e:(strs ps)[j]?=Y (Z ((ps.map str).getD j ByteArray.empty)):=by
   unfold strs;rw [List.getElem?_map,L2 i,List.getD,List.getElem?_map,L2 i]
   rfl
  rw [Nat.zero_add,z.cell,<- e,<- y,List.getElem?_take,if_pos (by omega),Array.getElem?_toList]
theorem Ed (b0:ps≠[]) (e0:ps.length<=1000) (f0:qs.length<=1000) (h:ag w (eJ u1 ps*(eJ u2 qs*F))) :
  Calls Q 58 #[u1,u2] w fun e w'=>e = M (.bool (mj ps qs))/\aj w w'/\ag w' (eJ u1 ps*(eJ u2 qs*F)):=by
 refine aJ fun i0 g=>?_;have j:=ae h;have hp:=List.length_pos_iff.2 b0
 by_cases i:ps.length<qs.length
 .have g0:qs≠[]:=fun e=>by rw [e] at i;simp at i
  obtain ⟨g1,c1,rfl,k1,l1,z1⟩:=pO b0 h;obtain ⟨g2,o,rfl,k2,l2,z2⟩:=pO g0 h.ah;have r:=Tryz.slices_Equal_string g1 0 ps.length c1 g2 0 ps.length o (ps.map str) (qs.map str) w (by rw [H2];exact K2 _) (by rw [H2];omega) (by omega) (by omega) z1 z2
  have E:decide ((ps.map str).take ps.length=(qs.map str).take ps.length)=mj ps qs:=by
   unfold mj;rw [decide_eq_true i,Bool.true_and];refine decide_eq_decide.2 ⟨fun e=>?_,fun e=>?_⟩
   .rw [R2 (by rw [H2];exact K2 _),<- List.map_take] at e
    exact rH e
   .rw [R2 (by rw [H2];exact K2 _),<- List.map_take,<- e]
  rw [E] at r;have l:=ae r;have y:(ps.length:Int)<(qs.length:Int):=by omega
  have hc:(ps.length:Int)<=(o:Int):=by omega
  have k0:(o:Int)<=9223372036854775807:=by omega
  have h0:(0:Int)<=(ps.length:Int):=by omega
  clear h r E z1 z2 i hp l1 l2 k1 k2;generalize mj ps qs=bb at *;obtain ⟨z,c0⟩:∃ z,ps.length=z:=⟨_,rfl⟩
  obtain ⟨A,d0⟩:∃ A,qs.length=A:=⟨_,rfl⟩
  rw [c0] at l j y hc h0 g ⊢;rw [d0] at j y g ⊢;clear c0 d0 e0 f0
  go_enter func58,ntmps58
  go_wp2_with fail
  refine l.out.mono ?_;rintro e w2 ⟨rfl,nq,rfl⟩;have u:=ae (g.out _ (w.drewN nq) ⟨rfl,(aj.refl w).trans ⟨rfl,rfl,rfl,K2 _⟩,j.out⟩);clear l j g
  go_wp2_with fail
  exact u.out
 .have C:mj ps qs=false:=by unfold mj;rw [decide_eq_false i];rfl
  rw [C] at g;have u:=ae (g.out _ _ ⟨rfl,aj.refl w,h⟩);obtain ⟨a1,n1,rfl⟩:=eH h;obtain ⟨a2,n2,rfl⟩:=eH h.ah;have y:¬ (ps.length:Int)<(qs.length:Int):=by omega
  clear h g j i C hp;generalize ps.length=z at *;generalize qs.length=A at *
  go_enter func58,ntmps58
  go_wp2_with fail
  exact u.out
end
section
variable {t:Pl} {S:Hp} {J:Jr} {D D':az} {fc m:Nat}
theorem Kz (A:J.flush D=(0,J,D')) (hJ:J.Ok) (d0:D'.Ok) :
  PG t S (.map (Y m)) J D 119 #[ay fc] (cq t fc) (fun c c0 E=>c=0/\c0=⟨0,[],[],(J,D')⟩/\E=cq t fc):=by
 intro v b i l g;refine aJ fun h0 o=>?_;have u:ag i (L7 t.s t.j t.d t.n t.P S (J,D)*(aA 176 5 uX b (xG t S).rd 0 [] []*(pt t.f (gO t (.map (Y m)))*(pt v (cl b t.n)*(ak uX*(cq t fc*l)))))):=g.to (by unfold cG;show _=(xG t S).RI (J,D)*_;ac_rfl);obtain ⟨g0,y⟩:=mh u;have f0:i.cell? ⟨fc,0,U⟩=Y (ay t.f):=(g.to (by unfold cq;ac_rfl:_=pt fc (V #[ay t.f] 25 (0,0))*(pt t.f (gO t (.map (Y m)))*(pt v (cl b t.n)*(cG (xG t S) uX b ⟨0,[],[],(J,D)⟩*(ak uX*l)))))).cell 0;have s0:i.cell? ⟨t.f,0,U⟩=Y (ay t.s):=g.cell 0;have C:=ae (GH i S t.s t.j t.d t.n t.P J D _ y g0.2);have b0:=ae dx;have HF:=ae A;clear g u y A
 go_enter func119,ntmps119
 go_wp2_with fail
 refine C.out.mono ?_;rintro e w2 ⟨rfl,j,r⟩;rw [HF.out] at j ⊢;have z:=yO (x:=(J,D')) hJ d0 j;have e0:=ae (o.out (M (I #[])) w2 ⟨0,uX,⟨0,[],[],(J,D')⟩,cq t fc,⟨rfl,rfl,rfl⟩,.inl ⟨rfl,rfl⟩,r,z.to (by unfold cG;show (xG t S).RI (J,D')*_=_;ac_rfl)⟩);clear j z o C r
 go_wp2_with fail
 refine (b0.out _).mono ?_;rintro e w3 ⟨rfl,rfl⟩
 go_wp2_with fail
 go_end0
 exact e0.out
end
section
variable {t:Pl} {q:Dk t.n} {s:Ds} {T:Tr} {k m:Nat} {O:kg} {w:K} {F:ai}
def QP (t:Pl) (q:Dk t.n) (m:Nat) (s:Ds) (T:Tr) (k:Nat) (O:kg) (F:ai) (w:K) (e:Ending) (w':K):Prop:=
 e = M (W .i64 0)/\aj w w'/\mF t q ⟨s.J,s.D.aF,s.has,s.B+1⟩ T k/\ag w' (dH t ⟨s.J,s.D.aF,s.has,s.B+1⟩ m O*F)
theorem MK (g:mF t q s T k) (C:s.B<=1000000) (h:ag w (dH t s m O*F)) :
  Calls Q 65 #[ay t.f] w (QP t q m s T k O F w):=by
 refine aJ fun e0 u=>?_;obtain ⟨J,D,has,B⟩:=s;have o:q.Q B J D has:=g.at_.q;have i:=q.inv o;have E:mF t q ⟨J,D.aF,has,B+1⟩ T k:=⟨⟨q.flush o C,g.at_.has⟩,g.ty,g.h4,g.hn⟩
 have A:=h.alloc (V #[ay t.f] 25 (0,0));have z:=ae ((aj.refl w).alloc (V #[ay t.f] 25 (0,0)));obtain ⟨S,hS⟩:=xm (A.to (by unfold dH;ac_rfl:_=kP t ⟨J,D,has,B⟩*(pt t.f (gO t (.map (Y m)))*(pt w.heap.size (V #[ay t.f] 25 (0,0))*(mp m (lK O)*F)))))
 have hd:=ae (Cs t _ S J D (.map (Y m)) 119 #[ay w.heap.size] (cq t w.heap.size) (mp m (lK O)*F) (fun c l j=>c=0/\l=⟨0,[],[],(J,D.aF)⟩/\j=cq t w.heap.size) i.ok i.Gi (enters func119 (by kernel_rfl) rfl) (Kz i.flush i.ok i.aF.Gi)
  (by rintro c l j ⟨-,rfl,-⟩ - - d0;exact absurd rfl d0) (hS.to (by unfold cq;ac_rfl)))
 have r:=ae E;clear h A hS g o i C E
 go_enter func65,ntmps65
 go_wp2_with fail
 refine hd.out.mono ?_;rintro e w2 ⟨c,l,j,S',J',D',⟨rfl,rfl,rfl⟩,-,rfl,y,hs,-,b0⟩;have e:=b0 (.inr rfl);simp only [Prod.mk.injEq] at e;obtain ⟨rfl,rfl⟩:=e;have c0:=ae (u.out _ _ ⟨rfl,z.out.trans y,r.out,((lx (s:=⟨J,D.aF,has,B+1⟩) (hs.to (by ac_rfl))).to (by unfold dH;ac_rfl:kP t ⟨J,D.aF,has,B+1⟩*(pt t.f (gO t (.map (Y m)))*(cq t w.heap.size*(mp m (lK O)*F)))=cq t w.heap.size*(dH t ⟨J,D.aF,has,B+1⟩ m O*F))).right⟩);clear hd y hs b0 u r z
 go_wp2_with fail
 exact c0.out
end
theorem MB (w:K) (o l:Addr) :
    CallsD Q 106 #[H (Y o),H (Y l)] .returning w fun e u w'=>e = M (I #[])/\u = .returning/\w=w':=by
  have i:=uH w;refine callsD_of_wpS func106 rfl fun g r j=>?_;apply wpS_seq;apply wpS_region
  simp only [ntmps106,List.size_toArray,List.length_cons,List.length_nil,Nat.reduceAdd,Nat.reduceSub,Array.replicate_succ,
     Array.replicate_zero,List.push_toArray,List.append_toArray,List.nil_append,List.cons_append]
  simp [wpOpsS,go_sem,recoverD,j,Exit.thenS];refine i.mono ?_;rintro e y ⟨rfl,rfl⟩;refine wpS_of_wp ?_
  go_wp2
  cases g
  simp_all [bodyPostS,results,Tryz.results106]
theorem Cr {w:K} {g:Array G} {a b:Nat} {v e:G} (i:g[6]?=Y (ay a)) (j:g[7]?=Y (ay b)) (l:w.cell? ⟨a,0,U⟩=Y v) (o:w.cell? ⟨b,0,U⟩=Y e) :
  (results Tryz.f59 g).run Q w = .ok (I #[v,e]) w:=by
 have r:g.getD 6 undef=ay a:=by simp [i]
 have u:g.getD 7 undef=ay b:=by simp [j]
 simp [results,Tryz.results59,i,j,go_sem,l,o]
theorem ET {w:K} {g:Array G} {a b:Nat} {v e:G} {R:Ending->K->Prop} (i:g[6]?=Y (ay a)) (j:g[7]?=Y (ay b)) (o:w.cell? ⟨a,0,U⟩=Y v) (r:w.cell? ⟨b,0,U⟩=Y e) (l:R (M (I #[v,e])) w) :
  bodyPostD Q Tryz.f59 R Exit.ret { tmps:=g,defers:=[{ target:=.fn (.func 106) #[H (Y ⟨a,0,U⟩),H (Y ⟨b,0,U⟩)],args:=#[] }] } w:=by
 refine leaves_cons (f:=106) (args:=#[H (Y ⟨a,0,U⟩),H (Y ⟨b,0,U⟩)]) (by simp) (by simp [go_sem]) ?_;refine (MB w ⟨a,0,U⟩ ⟨b,0,U⟩).mono ?_;rintro e u y ⟨rfl,rfl,rfl⟩;exact ⟨_,Cr i j o r,l⟩
section
variable {t:Pl} {S:Hp} {J:Jr} {D:az} {mv:G} {M1:ia (Jr × az)}
theorem BT (h4:4<=t.n) (hn:t.n<=3840) (u:eu (iC (xG t S).ask) ⟨0,[],[],(J,D)⟩=(.ok (),M1)) :
  PG t S mv J D 63 #[] emp (fun c C y=>c=0/\C=M1/\y=emp):=by
 intro v b j z g;refine aJ fun c0 l=>?_;have v0:j.cell? ⟨v,0,U⟩=Y (ay b):=g.ah.cell 0;have v1:j.cell? ⟨v,1,U⟩=Y (W .i64 (t.n:Int)):=g.ah.cell 1;have i:=ae (DP (xG t S) (Ib t S) t.n h4 hn b ⟨0,[],[],(J,D)⟩ j uX _ (g.to (by ac_rfl:_=cG (xG t S) uX b ⟨0,[],[],(J,D)⟩*(ak uX*(pt t.f (gO t mv)*(pt v (cl b t.n)*(emp*z)))))));rw [u] at i;have A:=ae dx;clear g u
 go_enter func63,ntmps63
 go_wp2_with fail
 refine i.out.mono ?_;rintro e w2 ⟨E,-,o,rfl,r⟩;have b0:=ae (l.out (M (I #[])) w2 ⟨0,E,M1,emp,⟨rfl,rfl,rfl⟩,.inl ⟨rfl,rfl⟩,o,r.to (by ac_rfl)⟩);have hc:Rs.code (.ok ():Rs Unit)=0:=rfl;rw [hc];clear r l i o v0 v1
 go_wp2_with fail
 refine (A.out _).mono ?_;rintro e w3 ⟨rfl,rfl⟩
 go_wp2_with fail
 go_end0
 exact b0.out
end
structure Lq (n P B:Nat) (J:Jr) (D:az) (has:Has):Prop where
 inv:fq J D has
 jn:J.n=(n:Int)
 bound:qQ J
 jP:J.P=P
 sq:J.sq<=(B:Int)
theorem Lq.xH {n P B:Nat} {J:Jr} {D:az} {has:Has} {L:Bl} (y:5*n+240<=2*P) (h:Lq n P B J D has) (u:B<=1000000) (o:Batch (n:Int) L):∃ i D',eB J D true L=(0,i,D')/\Lq n P (B+1) i D' (lS has L):=by
 have g:Batch J.n L:=by rw [h.jn];exact o
 have r:J.sq<281474976710655:=by have:=h.sq;omega
 have l:=A6 h.inv h.bound (by rw [h.jn,h.jP];omega) g;obtain ⟨D',j⟩:=zB h.inv g r l;refine ⟨_,D',j.run,j.inv,?_,Cz h.inv h.bound g l,h.jP,?_⟩
 .show J.n=_;exact h.jn
 .show J.sq+1<=_;have:=h.sq;omega
def Ru (n P:Nat) (i:5*n+240<=2*P):Dk n:=
 ⟨Lq n P,fun h=>h.inv,fun h=>h.jn,fun h r=>⟨h.inv.cr r,h.jn,h.bound,h.jP,h.sq⟩,fun h g _ j=>h.xH i g j,fun h g=>⟨h.inv.aF,h.jn,h.bound,h.jP,by have:=h.sq;omega⟩⟩
def qY:Has:=fun _=>U
theorem vX {n:Nat} (j:2<=n):Tidy n fG:=by
 have g:∀ id L,fG id=Y (.dir L)->L=[]:=by
  intro id L h;unfold fG at h
  split at h
  .injection h with h;injection h with h;exact h.symm
  .cases h
 refine ⟨⟨[],rfl⟩,fun id L h=>?_,fun id f h=>?_,fun id=>?_,fun id h=>?_⟩
 .rw [g _ _ h];exact qz.nil
 .unfold fG at h
  split at h
  .injection h with h;cases h
  .cases h
 .have e:refs n fG id=0:=by
   unfold refs
   have:∀ l:List Nat,(l.map fun d=>(eP (fG d)).countP fun e=>e.nd == id).sum=0:=by
    intro l
    induction l with
    | nil=>rfl
    | cons a l i=>
     rw [S2,List.sum_cons,i];have:eP (fG a)=[]:=by unfold fG;split <;> rfl
     rw [this];rfl
   exact this _
  rw [e];unfold fG
  split
  .rename_i h;subst h;rfl
  .rfl
 .unfold fG;rw [if_neg (by omega)]
theorem KI:gJ fG=fun id=>if id=1 then Y (iM 2) else U:=by
 funext id;unfold gJ fG
 split
 .show Y (uO.dir []).af=_
  have:=DE (kd:=2) (.inr rfl);rw [show lO 2 = .dir [] from rfl] at this;rw [this]
 .rfl
section
variable {t:Pl} {q:Dk t.n} {w:K} {F:ai} {J:Jr} {D:az} {m:Nat}
def Py (t:Pl) (q:Dk t.n) (m:Nat) (F:ai) (w:K) (e:Ending) (w':K):Prop:=
 ∃ s,e = M (I #[])/\aj w w'/\s.B<=3/\mF t q s fG (t.n-2)/\ag w' (dH t s m []*F)
theorem Mu (E:4<=t.n) (hn:t.n<=3840) (C:q.Q 1 J D qY) (h:ag w (pt t.f (gO t (.map (Y m)))*(mp m (lK [])*(kP t ⟨J,D,qY,1⟩*F)))) :
  Calls Q 29 #[ay t.f,.func (.func 63) #[] #[]] w fun e w'=>∃ s,e = M (W .i64 0)/\aj w w'/\s.B<=2/\mF t q s fG (t.n-2)/\ag w' (dH t s m []*F):=by
 have hG:Go.SL.Good t.n (iO qY) (IJ J D) ⟨0,[],[],(J,D)⟩:=⟨rfl,IJ.start J D,fun f0 l _ h=>absurd h (by simp [aG]),fun f0 l _ h=>absurd h (by simp [aG]),fun p hp=>absurd hp (by simp)⟩
 obtain ⟨M1,he,z⟩:=A0 (wo C) (by omega) E hn hG
 have e0:M1.W.length<=24:=by
  have:=(zd (ask:=Od)).run he;simp at this;omega
 rw [<- KI] at z;obtain ⟨S,hS⟩:=xm (h.to (by ac_rfl:_=kP t ⟨J,D,qY,1⟩*(pt t.f (gO t (.map (Y m)))*(mp m (lK [])*F))));have hi:=q.inv C
 have b0:(M1.W.map Prod.fst).Nodup->M1.W≠[]->∃ r i D',M1.s=(J,{ D with cr:=r })/\q.Q 1 J { D with cr:=r } qY/\Batch (t.n:Int) (gL M1.W)/\eB J { D with cr:=r } true (gL M1.W)=(0,i,D')/\q.Q 2 i D' (lS qY (gL M1.W)):=by
  intro A u;obtain ⟨o,r,y⟩:=z.fW.inv;have hb:=vP z A e0 (List.length_pos_iff.2 u);obtain ⟨i,D',e3,e4⟩:=q.xH (q.cr C r) (by decide) hb;exact ⟨r,i,D',Prod.ext o y,q.cr C r,hb,e3,e4⟩
 refine (Cs t w S J D (.map (Y m)) 63 #[] emp (mp m (lK [])*F) (fun c j G'=>c=0/\j=M1/\G'=emp) hi.ok hi.Gi (enters func63 (by kernel_rfl) rfl) (BT E hn he) ?_ (hS.to (by rw [cV];ac_rfl))).mono ?_
 .rintro c j G' ⟨rfl,rfl,rfl⟩-A u
  obtain ⟨r,i,D',o,y,e3,e4,-⟩:=b0 A u;refine ⟨qY,i,D',?_,?_,e3,?_⟩
  .rw [o];exact q.inv y
  .rw [o];exact q.jn y
  .rw [o];exact e4
 .rintro e w' ⟨c,j,G',S',i,D',⟨rfl,rfl,rfl⟩,A,rfl,d,hs,c0,d0⟩
  by_cases u:j.W=[]
  .obtain ⟨o,r,y⟩:=z.fW.inv
   have e:=d0 (.inr u);rw [e] at o y;have hr:Ds.Rd ⟨J,D,qY,1⟩ ⟨i,D',qY,1⟩:=⟨o,⟨r,y⟩,rfl,rfl⟩
   refine ⟨⟨i,D',qY,1⟩,rfl,d,Nat.le_succ 1,⟨NO.rd (s:=⟨J,D,qY,1⟩) ⟨C,rP z u⟩ hr,vX (by omega),E,hn⟩,?_⟩;exact (lx (s:=⟨i,D',qY,1⟩) (hs.to (by rw [cV];ac_rfl))).to (by unfold dH;ac_rfl:kP t ⟨i,D',qY,1⟩*(pt t.f (gO t (.map (Y m)))*(mp m (lK [])*F))=_)
  obtain ⟨r',J2,D2,f1,f2,f3,f4,f5⟩:=b0 A u;have g:=c0 rfl u;rw [f1] at g;have g:eB J { D with cr:=r' } true (gL j.W)=(0,i,D'):=g;rw [g] at f4;simp only [Prod.mk.injEq,true_and] at f4;obtain ⟨rfl,rfl⟩:=f4;refine ⟨⟨i,D',lS qY (gL j.W),2⟩,rfl,d,K2 2,⟨⟨f5,tF z A⟩,vX (by omega),E,hn⟩,?_⟩;exact (lx (s:=⟨i,D',lS qY (gL j.W),2⟩) (hs.to (by rw [cV];ac_rfl))).to (by unfold dH;ac_rfl:kP t ⟨i,D',lS qY (gL j.W),2⟩*(pt t.f (gO t (.map (Y m)))*(mp m (lK [])*F))=_)
theorem Gc (g:4<=t.n) (E:t.n<=3840) (hq:q.Q 1 J D qY) (h:ag w (pt t.f (gO t (.map (Y m)))*(mp m (lK [])*(kP t ⟨J,D,qY,1⟩*F)))) :
  Calls Q 62 #[ay t.f] w (Py t q m F w):=by
 refine aJ fun d0 o=>?_;have e0:=ot Q;have C:=ae (Mu g E hq h);have r:=ae dx;clear h hq g E
 go_enter func62,ntmps62
 go_wp2_with fail
 refine C.out.mono ?_;rintro e w2 ⟨s,rfl,u,A,i,z⟩;have b0:=ae (MK i (by omega) z);have j:=ae u;have l:=ae A;clear C u i z A
 go_wp2_with fail
 refine (r.out _).mono ?_;rintro e w3 ⟨rfl,rfl⟩
 go_wp2_with fail
 refine b0.out.mono ?_;rintro e w4 ⟨rfl,y,i,g⟩;have c0:=ae (o.out (M (I #[])) _ ⟨_,rfl,j.out.trans y,(show s.B+1<=3 by have:=l.out;omega),i,g⟩);clear b0 y i g o j l
 go_wp2_with fail
 refine (r.out _).mono ?_;rintro e w5 ⟨rfl,rfl⟩
 go_wp2_with fail
 go_end0
 exact c0.out
def Nr (j:FuncId) (fc:Array G) (i:ai) (X:Nat->ai):Prop:=
 ∀ (w:K) (g:ai),ag w (i*g)->Calls Q j fc w fun e w'=>∃ s,e = M (I #[ay s,W .i64 0])/\aj w w'/\ag w' (X s*g)
def NQ (l:FuncId) (j:Array G) (X:Nat->ai) (i:Nat->Nat->Nat->ai):Prop:=
 ∀ (s f m:Nat) (w:K) (g:ai),ag w (pt f (V #[ay s,.map (Y m)] 66 (0,0))*(mp m []*(X s*g)))->Calls Q l (#[ay f]++j) w fun e w'=>e = M (I #[])/\aj w w'/\ag w' (i s f m*g)
def Ps (g:Nat->Nat->Nat->ai) (F:ai) (w:K) (e:Ending) (w':K):Prop:=
 ∃ s f m,e = M (I #[ay f,W .i64 0])/\aj w w'/\ag w' (g s f m*F)
theorem FB (w:K):(Instr.makeMap 64 U).run Q w = .ok (.map (Y w.heap.size)) (w.alloc (.map #[] 0)):=by
 simp [Instr.makeMap,run_underlying underlying64]
theorem EA {dv:Nat} {u y:FuncId} {fc gc:Array G} {c0:ai} {X:Nat->ai} {d0:Nat->Nat->Nat->ai} (q0:∀ (r:Array G) (w:K),(callFunc u r).run Q w = .ok (.enter u r) w) (r0:∀ (r:Array G) (w:K),(callFunc y r).run Q w = .ok (.enter y r) w)
  (hF:Nr u fc c0 X) (hT:NQ y gc X d0) (h:ag w (c0*F)):Calls Q 59 #[ay dv,.func (.func u) #[] fc,.func (.func y) #[] gc] w (Ps d0 F w):=by
 refine aJ fun p0 HQ=>?_;have u0:=ot Q;have H0:=(h.alloc (V #[H U] 25 (0,0))).alloc (V #[W .i64 0] 28 (0,0));have D0:=((aj.refl w).alloc (V #[H U] 25 (0,0))).alloc (V #[W .i64 0] 28 (0,0));rw [E2] at H0;have HF:=ae hF;have HT:=ae hT;clear h hF hT
 go_enter_defers func59,ntmps59
 go_wp2_with fail
 generalize (w.alloc (V #[H U] 25 (0,0))).alloc (V #[W .i64 0] 28 (0,0))=w1 at *;generalize w.heap.size+1=i at *;generalize w.heap.size=fb at *;have h0:=ae (HF.out w1 _ (H0.to (by ac_rfl:_=c0*(pt i (V #[W .i64 0] 28 (0,0))*(pt fb (V #[H U] 25 (0,0))*F)))));have D1:=ae D0;clear H0 D0 HF
 go_wp2_with fail
 refine h0.out.mono ?_;rintro e w2 ⟨s,rfl,d2,h2⟩;have z:=h2.to (by ac_rfl:_=pt i (V #[W .i64 0] 28 (0,0))*(pt fb (V #[H U] 25 (0,0))*(X s*F)));have e0:w2.cell? ⟨i,0,U⟩=Y (W .i64 0):=z.cell 0;have ef:w2.frozen? ⟨i,0,U⟩=false:=z.frozen 0;have h4:=z.setCell 0 (W .i64 0);have D4:=ae ((D1.out.trans d2).setCell ⟨i,0,U⟩ (W .i64 0));have o:=ae (h4.to (by ac_rfl:_=pt fb (V #[H U] 25 (0,0))*(pt i (V #[W .i64 0] 28 (0,0))*(X s*F))));have l0:=ae dx;have g0:=ae FB;clear h0 D1 d2 h2 z h4
 go_wp2_with fail
 refine (l0.out _).mono ?_;rintro e w3 ⟨rfl,rfl⟩;generalize w2.setCell ⟨i,0,U⟩ (W .i64 0)=g at *;have f0:g.cell? ⟨fb,0,U⟩=Y (H U):=o.out.cell 0;have n0:g.frozen? ⟨fb,0,U⟩=false:=o.out.frozen 0;have s0:fb<g.heap.size:=o.out.lt;have o0:=g0.out;have H5:=((((o.out.setCell 0 (ay (g.heap.size+1))).alloc (.map #[] 0)).sQ isMap_empty).alloc (V #[ay s,.map (Y g.heap.size)] 66 (0,0)))
 have D5:=(((D4.out.setCell ⟨fb,0,U⟩ (ay (g.heap.size+1))).alloc (.map #[] 0)).alloc (V #[ay s,.map (Y g.heap.size)] 66 (0,0)))
 have k0:(g.setCell ⟨fb,0,U⟩ (ay (g.heap.size+1))).heap.size=g.heap.size:=World.size_setCell ..;rw [E2,k0] at H5;have E:=ae D5;have ht:=ae (HT.out s (g.heap.size+1) g.heap.size _ _ (H5.to (by show _=pt (g.heap.size+1) (V #[ay s,.map (Y g.heap.size)] 66 (0,0))*(mp g.heap.size []*(X s*(pt fb (V #[ay (g.heap.size+1)] 25 (0,0))*(pt i (V #[W .i64 0] 28 (0,0))*F))));simp only [O2,P2];ac_rfl)));generalize i0:g.heap.size+1=j at ht E;have m0:=ae i0;clear H5 D5 o D4 g0 e0 ef i0 k0
 go_wp2_with fail
 rw [m0.out];refine ht.out.mono ?_;rintro e C ⟨rfl,d6,h6⟩;have l:=h6.to (by ac_rfl:_=pt fb (V #[ay j] 25 (0,0))*(pt i (V #[W .i64 0] 28 (0,0))*(d0 s j g.heap.size*F)));have a0:C.cell? ⟨fb,0,U⟩=Y (ay j):=l.cell 0;have a1:C.frozen? ⟨fb,0,U⟩=false:=l.frozen 0;have b0:(C.setCell ⟨fb,0,U⟩ (ay j)).cell? ⟨i,0,U⟩=Y (W .i64 0):=(l.setCell 0 (ay j)).ah.cell 0;have b1:(C.setCell ⟨fb,0,U⟩ (ay j)).frozen? ⟨i,0,U⟩=false:=(l.setCell 0 (ay j)).ah.frozen 0;have h8:=(l.setCell 0 (ay j)).ah.setCell 0 (W .i64 0);have H8:=ae h8;have D8:=ae (((E.out.trans d6).setCell ⟨fb,0,U⟩ (ay j)).setCell ⟨i,0,U⟩ (W .i64 0));clear ht h6 l h8 E d6 f0 n0 o0 HT
 go_wp2_with fail
 have A:=H8.out;simp only [O2,P2] at A;exact ET rfl rfl (A.ah.cell 0) (A.cell 0) (HQ.out _ _ ⟨s,j,g.heap.size,rfl,D8.out,A.right.right⟩)
end
end Go.Proofs.Cl
namespace Go.Proofs.Cl
open Go.RowKit Go.SL Go.Proofs.Nn Go.Proofs.Ba Go.Proofs.Su Go.Proofs.Fs
def gK (t:Pl) (q:Dk t.n) (m:Nat) (T:Tr) (k B:Nat) (O:kg):ai:=ex fun s:Ds=>fact (mF t q s T k/\s.B<=B)*dH t s m O
section
variable {t:Pl} {q:Dk t.n} {s:Ds} {T:Tr} {k m B:Nat} {O:kg} {w:K} {F:ai} {p p1 p2:List UInt8} {R:Int->Tr->Nat->Prop} {e:Ending} {w':K}
theorem eR (h:ag w (gK t q m T k B O*F)):∃ s,mF t q s T k/\s.B<=B/\ag w (dH t s m O*F):=by
 obtain ⟨s,g⟩:=ag.aw.1 h;obtain ⟨⟨i,j⟩,l⟩:=ag.au.1 (g.to (ax _ _ _));exact ⟨s,i,j,l⟩
theorem dJ (i:mF t q s T k) (g:s.B<=B) (h:ag w (dH t s m O*F)):ag w (gK t q m T k B O*F):=
 ag.aw.2 ⟨s,(ag.au.2 ⟨⟨i,g⟩,h⟩:ag w (fact _*_)).to (ax _ _ _).symm⟩
theorem LU {B':Nat} (l:B<=B') (h:ag w (gK t q m T k B O*F)):ag w (gK t q m T k B' O*F):=by
 obtain ⟨s,g,j,i⟩:=eR h;exact dJ g (by omega) i
theorem mF.go {s':Ds} {wr:Bool} (g:s.Go t.n wr s'):s'.B<=s.B+1:=by
 rcases g with h|⟨_,r,L,_,_,_,h⟩
 .rw [h.B];omega
 .omega
def PK (t:Pl) (q:Dk t.n) (m:Nat) (T:Tr) (k B:Nat) (O:kg) (R:Int->Tr->Nat->Prop) (F:ai) (w:K) (e:Ending) (w':K):Prop:=
 aj w w'/\∃ c,e = M (W .i64 c)/\((c≠0/\(∃ T' k',R c T' k')/\ag w' (gK t q m T k B O*F))\/(c=0/\∃ T' k',R 0 T' k'/\ag w' (gK t q m T' k' (B+1) O*F)))
theorem O6 (u:mF t q s T k) (l:s.B<=B) (h:PO t q m s O R F w e w'):PK t q m T k B O R F w e w':=by
 obtain ⟨c,T',k',s',i,r,d,A,g⟩:=h;refine ⟨d,c,r,?_⟩;rcases A with ⟨o,j⟩|⟨rfl,y,z⟩
 .exact .inl ⟨o,⟨T',k',i⟩,dJ (u.rd j) (by rw [j.B];exact l) g⟩
 .exact .inr ⟨rfl,T',k',i,dJ y (by have:=mF.go z;omega) g⟩
theorem PK.ok (h:PK t q m T k B O R F w e w') (j:∀ c T' k',R c T' k'->c=0):∃ T' k',R 0 T' k'/\e = M (W .i64 0)/\aj w w'/\ag w' (gK t q m T' k' (B+1) O*F):=by
 obtain ⟨d,c,rfl,⟨l,⟨T',k',g⟩,_⟩|⟨rfl,T',k',g,i⟩⟩:=h
 .exact absurd (j _ _ _ g) l
 .exact ⟨T',k',g,rfl,d,i⟩
theorem zu (r:B<=1000000) (l:fS T k p=0) (h:ag w (gK t q m T k B O*F)):Calls Q 9 #[ay t.f,Z (str p)] w (PK t q m T k B O (lT t.n T k 1 p) F w):=by
 obtain ⟨s,g,i,j⟩:=eR h;exact (Br g (by omega) l j).mono fun e w' o=>O6 g i o
theorem M3 (r:B<=1000000) (l:fS T k p=0) (h:ag w (gK t q m T k B O*F)):Calls Q 16 #[ay t.f,Z (str p)] w (PK t q m T k B O (lT t.n T k 2 p) F w):=by
 obtain ⟨s,g,i,j⟩:=eR h;exact (EF g (by omega) l j).mono fun e w' o=>O6 g i o
theorem OB (r:B<=1000000) (l:gB T k p1 p2=0) (h:ag w (gK t q m T k B O*F)):Calls Q 19 #[ay t.f,Z (str p1),Z (str p2)] w (PK t q m T k B O (yv T k p1 p2) F w):=by
 obtain ⟨s,g,i,j⟩:=eR h;exact (GL g (by omega) l j).mono fun e w' o=>O6 g i o
def Bi (X:ai) (v:G) (F:ai) (w:K) (e:Ending) (w':K):Prop:=e = M v/\aj w w'/\ag w' (X*F)
theorem Oe (y:B<=1000000) (h:ag w (gK t q m T k B O*F)):Calls Q 20 #[ay t.f,Z (str p)] w (Bi (gK t q m T k B O) (I #[Ri (if (bX T p).1=0 then sF (T (bX T p).2) else (0,0,0)),W .i64 (bX T p).1]) F w):=by
 obtain ⟨s,g,i,j⟩:=eR h;refine (I8 g (by omega) j).mono ?_;rintro e w' ⟨s',rfl,d,r,o,l⟩;have u:s.Rd s':=by rcases r with h|⟨h,_⟩;exact h;cases h
 exact ⟨rfl,d,dJ o (by rw [u.B];exact i) l⟩
theorem MJ {fd:Int} (h:ag w (gK t q m T k B O*F)):Calls Q 10 #[ay t.f,W .i64 fd] w (Bi (gK t q m T k B (if (aG O fd).isSome then nV O fd else O)) (W .i64 (if (aG O fd).isSome then 0 else 5)) F w):=by
 obtain ⟨s,g,i,j⟩:=eR h;refine (ER g j).mono ?_;rintro e w' ⟨rfl,d,l⟩;exact ⟨rfl,d,dJ g i l⟩
def I2 (t:Pl) (q:Dk t.n) (m:Nat) (T:Tr) (k B:Nat) (O:kg) (p:List UInt8) (F:ai) (w:K) (e:Ending) (w':K):Prop:=
 aj w w'/\((fZ T O p≠0/\e = M (I #[W .i64 0,W .i64 (fZ T O p)])/\ag w' (gK t q m T k B O*F)) \/
  (fZ T O p=0/\∃ g:Nat,(∀ j:Nat,j<g->(aG O (j:Int)).isSome=true)/\aG O (g:Int)=U/\e = M (I #[W .i64 (g:Int),W .i64 0])/\ag w' (gK t q m T k B (bq O g ((bX T p).2,0))*F)))
theorem Bo (A:B<=1000000) (z:O.length<=1000) (h:ag w (gK t q m T k B O*F)):Calls Q 11 #[ay t.f,Z (str p)] w (I2 t q m T k B O p F w):=by
 obtain ⟨s,i,o,y⟩:=eR h;refine (mf i (by omega) z y).mono ?_;rintro e w' ⟨s',d,g,⟨l,rfl,j⟩|⟨l,u,a1,r,rfl,j⟩⟩
 .exact ⟨d,.inl ⟨l,rfl,dJ (i.rd g) (by rw [g.B];exact o) j⟩⟩
 .exact ⟨d,.inr ⟨l,u,a1,r,rfl,dJ (i.rd g) (by rw [g.B];exact o) j⟩⟩
def NM (t:Pl) (q:Dk t.n) (m:Nat) (T:Tr) (k B:Nat) (O:kg) (l:Int) (id i g:Nat) (o j:Int) (F:ai) (w:K) (e:Ending) (w':K):Prop:=
 aj w w'/\((ez i g o j≠0/\e = M (I #[W .i64 0,W .i64 (ez i g o j)])/\ag w' (gK t q m T k B O*F)) \/
  (ez i g o j=0/\e = M (I #[W .i64 (cP i g o j),W .i64 0])/\ag w' (gK t q m T k B (bq O l (id,(cP i g o j).toNat))*F)))
theorem tx {f:AF} {fd:Int} {id at':Nat} {o wh:Int} (E:B<=1000000) (C:aG O fd=Y (id,at')) (z:T id=Y (.file f)) (A:at'<=122880) (y:-9223372036854775808<=o/\o<=9223372036854775807) (h:ag w (gK t q m T k B O*F)) :
  Calls Q 14 #[ay t.f,W .i64 fd,W .i64 o,W .i64 wh] w (NM t q m T k B O fd id f.sz at' o wh F w):=by
 obtain ⟨s,i,r,u⟩:=eR h;refine (IK i (by omega) C z A y u).mono ?_;rintro e w' ⟨s',d,g,⟨l,rfl,j⟩|⟨l,rfl,j⟩⟩
 .exact ⟨d,.inl ⟨l,rfl,dJ (i.rd g) (by rw [g.B];exact r) j⟩⟩
 .exact ⟨d,.inr ⟨l,rfl,dJ (i.rd g) (by rw [g.B];exact r) j⟩⟩
def Om (c:Int) (l:List UInt8) (X g:ai) (F:ai) (w:K) (e:Ending) (w':K):Prop:=
 aj w w'/\((c≠0/\e = M (I #[N U 0 0,W .i64 c])/\ag w' (X*F))\/(c=0/\∃ u,e = M (I #[u,W .i64 0])/\ag w' (bs 5 u l*(g*F))))
theorem BO {f:AF} {fd:Int} {id at':Nat} {c:Int} (C:B<=1000000) (A:aG O fd=Y (id,at')) (y:T id=Y (.file f)) (z:at'<=122880) (h:ag w (gK t q m T k B O*F)) :
  Calls Q 15 #[ay t.f,W .i64 fd,W .i64 c] w (Om (iP c) (f.sub at' c.toNat) (gK t q m T k B O) (gK t q m T k B (bq O fd (id,at'+(f.sub at' c.toNat).length))) F w):=by
 obtain ⟨s,i,o,r⟩:=eR h;refine (GU i (by omega) A y z r).mono ?_;rintro e w' ⟨s',d,g,⟨l,rfl,j⟩|⟨l,u,rfl,j⟩⟩
 .exact ⟨d,.inl ⟨l,rfl,dJ (i.rd g) (by rw [g.B];exact o) j⟩⟩
 .exact ⟨d,.inr ⟨l,u,rfl,(dJ (i.rd g) (by rw [g.B];exact o) (j.to (by ac_rfl:_=dH t s' m (bq O fd (id,at'+(f.sub at' c.toNat).length))*(bs 5 u (f.sub at' c.toNat)*F)))).to (by ac_rfl)⟩⟩
theorem OT {a c:Int} (z:B<=1000000) (y:gG T p a c=0) (h:ag w (gK t q m T k B O*F)):Calls Q 21 #[ay t.f,Z (str p),W .i64 a,W .i64 c] w (Om (gG T p a c) (mB T p a c) (gK t q m T k B O) (gK t q m T k B O) F w):=by
 obtain ⟨s,i,o,r⟩:=eR h;refine (Kh i (by omega) y r).mono ?_;rintro e w' ⟨s',d,g,⟨l,rfl,j⟩|⟨l,u,rfl,j⟩⟩
 .exact ⟨d,.inl ⟨l,rfl,dJ (i.rd g) (by rw [g.B];exact o) j⟩⟩
 .exact ⟨d,.inr ⟨l,u,rfl,(dJ (i.rd g) (by rw [g.B];exact o) (j.to (by ac_rfl:_=dH t s' m O*(bs 5 u (mB T p a c)*F)))).to (by ac_rfl)⟩⟩
def Rz (c:Int) (L:List aN) (X:ai) (F:ai) (w:K) (e:Ending) (w':K):Prop:=
 aj w w'/\((c≠0/\e = M (I #[N U 0 0,W .i64 c])/\ag w' (X*F))\/(c=0/\∃ u g,g.Perm L/\jI zV g/\e = M (I #[u,W .i64 0])/\ag w' (eJ u (g.map aN.nm)*(X*F))))
theorem F3 (E:B<=1000000) (A:lQ T p=0) (C:(eP (T (bX T p).2)).length<=yq) (h:ag w (gK t q m T k B O*F)):Calls Q 22 #[ay t.f,Z (str p)] w (Rz (lQ T p) (eP (T (bX T p).2)) (gK t q m T k B O) F w):=by
 obtain ⟨s,i,r,z⟩:=eR h;refine (y6 i (by omega) A C z).mono ?_;rintro e w' ⟨s',d,g,⟨l,rfl,j⟩|⟨l,u,o,a1,y,rfl,j⟩⟩
 .exact ⟨d,.inl ⟨l,rfl,dJ (i.rd g) (by rw [g.B];exact r) j⟩⟩
 .exact ⟨d,.inr ⟨l,u,o,a1,y,rfl,(dJ (i.rd g) (by rw [g.B];exact r) (j.to (by ac_rfl:_=dH t s' m O*(eJ u (o.map aN.nm)*F)))).to (by ac_rfl)⟩⟩
def BW (t:Pl) (q:Dk t.n) (m:Nat) (T:Tr) (k B:Nat) (O:kg) (g:Int) (o:Nat × Nat) (R:Int->Tr->Nat->Prop) (F:ai) (w:K) (e:Ending) (w':K):Prop:=
 aj w w'/\∃ c,e = M (W .i64 c)/\((c≠0/\(∃ T' k',R c T' k')/\ag w' (gK t q m T k B O*F))\/(c=0/\∃ T' k',R 0 T' k'/\ag w' (gK t q m T' k' (B+1) (bq O g o)*F)))
theorem yh {f:AF} {fd:Int} {id at' vc:Nat} {va:Option Addr} {l:List UInt8} {D:ai} (hB:B<=1000000) (d0:gN k at' f l=0) (hy:aG O fd=Y (id,at')) (A:T id=Y (.file f)) (C:at'<=122880) (e0:l.length<=1000000000) (b0:l.length<=vc) (z:∀ i P,ag i (D*P)->Rd i (N va l.length vc) l) (h:ag w (gK t q m T k B O*(D*F))) :
  Calls Q 13 #[ay t.f,W .i64 fd,N va l.length vc] w (BW t q m T k B O fd (id,at'+l.length) (fT T k id at' f l) (D*F) w):=by
 obtain ⟨s,j,u,y⟩:=eR h;refine (F9 j (by omega) d0 hy A C e0 b0 z y).mono ?_;rintro e w' ⟨c,T',k',s',o,rfl,d,hr⟩;refine ⟨d,c,rfl,?_⟩;rcases hr with ⟨E,r,g⟩|⟨rfl,c0,hg,g⟩
 .exact .inl ⟨E,⟨T',k',o⟩,dJ (j.rd r) (by rw [r.B];exact u) g⟩
 .exact .inr ⟨rfl,T',k',o,dJ c0 (by have:=mF.go hg;omega) g⟩
end
end Go.Proofs.Cl
namespace Go.SL
open Go.RowKit Go.Proofs.Cl
section
variable {T T':Tr} {d id x k:Nat} {nm:List UInt8} {kd:Int} {L R X:List aN} {f:AF} {p:List UInt8} {ps qs:List (List UInt8)}
theorem Nb:KZ T d id nm kd d=Y (.dir (eP (T d)++[⟨id,nm⟩])):=bJ _ _ _
theorem Mx (h:id≠d):KZ T d id nm kd id=Y (lO kd):=(aS _ _ h).trans (bJ _ _ _)
theorem M9 (h:x≠d) (g:x≠id):KZ T d id nm kd x=T x:=(aS _ _ h).trans (aS _ _ g)
theorem kr {i:Nat} (h:T x=Y (.dir R)) (g:jW R nm=Y i):aT T x [nm]=(0,(R.getD i aN.no).nd):=by
 have e:eI (T x) nm=(0,(R.getD i aN.no).nd):=by rw [h,kH g]
 rw [nB (by rw [e]),e,FI]
theorem Jx {i j:Nat} {g:List UInt8} (h:T x=Y (.dir R)) (o:jW R nm=Y i) (l:T (R.getD i aN.no).nd=Y (.dir X)) (r:jW X g=Y j):aT T x [nm,g]=(0,(X.getD j aN.no).nd):=by
 have e:eI (T x) nm=(0,(R.getD i aN.no).nd):=by rw [h,kH o]
 rw [nB (by rw [e]),e];exact kr l r
theorem wy (i:ps≠[]) (l:aT T 1 ps.dropLast=(0,d)) (g:T d=Y (.dir L)) (j:jW L (cT ps)=U):ft T ps=0:=by
 unfold ft;rw [if_neg i,l,if_neg (by simp),g,ov j];rfl
theorem oS (g:aT T 1 ps.dropLast=(0,d)):fK T ps=d:=by unfold fK;rw [g]
theorem si (g:jW L nm=U) (j:L.length<3840) (i:cD (L.length+1)<=k+cD L.length):km k L nm=0:=by
 unfold km;rw [g,if_neg (by decide),if_neg (by omega),if_neg (by omega)]
theorem tO (r:aX p=Y ps) (o:ps≠[]) (j:aT T 1 ps.dropLast=(0,d)) (g:T d=Y (.dir L)) (i:jW L (cT ps)=U) (l:L.length<3840) (u:1+cD (L.length+1)<=k+cD L.length) (y:0<k):fS T k p=0:=by
 have e:eP (T d)=L:=by rw [g];rfl
 unfold fS;rw [r];simp only;rw [wy o j g i,if_neg (by simp),oS j,e,pV,if_neg (show ¬ 122880<=32*L.length by omega),if_neg (by simp),if_neg (show ¬ k=0 by omega)];exact si i l (by omega)
structure Made (n:Nat) (T T':Tr) (d id:Nat) (nm:List UInt8) (kd:Int) (L:List aN):Prop where
 no:T id=none
 pos:0<id
 lt:id<n
 dir:T' d=some (.dir (L++[⟨id,nm⟩]))
 new:T' id=some (lO kd)
 pL:∀ x,x≠d->x≠id->T' x=T x
theorem xd {n k':Nat} {c:Int} (E:aX p=Y ps) (hw:aT T 1 ps.dropLast=(0,d)) (l:T d=Y (.dir L)) (h:lT n T k kd p c T' k') (A:c=0):(∃ id,Made n T T' d id (cT ps) kd L)/\k'=PT k L:=by
 obtain ⟨-,j⟩:=h;obtain ⟨qs,r,id,o,g,e3,i,u,y,rfl,rfl⟩:=j A;obtain rfl:ps=qs:=by rw [E] at o;exact Option.some.inj o
 rw [oS hw] at g ⊢;obtain rfl:L=r:=by rw [l] at g;injection g with g;injection g
 have C:id≠d:=by rintro rfl;rw [l] at i;cases i
 refine ⟨⟨id,i,u,y,?_,Mx C,fun x z j=>M9 z j⟩,rfl⟩;rw [Nb,l];rfl
end
section
variable {T T1 T2 T4 T5:Tr} {a b k k':Nat} {c:Int}
abbrev pD:List UInt8:=[47,100]
abbrev GJ:List UInt8:=[47,100,47,97]
abbrev pB:List UInt8:=[47,98]
abbrev Sg:List UInt8:=[47,100,47,101]
abbrev oL:List UInt8:=[104,101,108,108,111]
theorem kT:aX pD=Y [[100]]:=by decide
theorem mK:aX GJ=Y [[100],[97]]:=by decide
theorem xl:aX pB=Y [[98]]:=by decide
theorem I7:aX Sg=Y [[100],[101]]:=by decide
theorem BP:aX [47]=Y []:=by decide
theorem zZ (a:Nat) (nm:List UInt8):jW [⟨a,nm⟩] nm=Y 0:=by simp [jW]
structure Rq (n:Nat) (T:Tr) (a:Nat):Prop where
 ne:a≠1
 root:T 1=some (.dir [⟨a,[100]⟩])
 da:T a=some (.dir [])
 pL:∀ x,x≠1->x≠a->T x=none
theorem NP:fS fG 18 pD=0:=tO kT (by simp) (d:=1) (L:=[]) rfl rfl rfl (by simp) (by decide) (by decide)
theorem O3 {n:Nat} (h:lT n fG 18 2 pD c T1 k') (j:c=0):(∃ a,Rq n T1 a)/\k'=16:=by
 obtain ⟨⟨a,m⟩,l⟩:=xd (d:=1) (L:=[]) kT rfl rfl h j;have ne:a≠1:=by intro e;have:=m.no;rw [e] at this;cases this
 refine ⟨⟨a,ne,m.dir,m.new,fun x g i=>(m.pL x g i).trans (if_neg g)⟩,by rw [l];decide⟩
structure Lc (n:Nat) (T:Tr) (a b:Nat) (R:List aN) (f:AF):Prop where
 a1:a≠1
 b1:b≠1
 ba:b≠a
 root:T 1=some (.dir R)
 da:T a=some (.dir [⟨b,[97]⟩])
 fb:T b=some (.file f)
theorem NI {n:Nat} (h:Rq n T1 a):fS T1 16 GJ=0:=tO mK (by simp) (kr h.root (zZ a _)) h.da rfl (by simp) (by decide) (by decide)
theorem Pd {n:Nat} (g:Rq n T1 a) (h:lT n T1 16 1 GJ c T2 k') (i:c=0):(∃ b,Lc n T2 a b [⟨a,[100]⟩] (iM 1))/\k'=14:=by
 obtain ⟨⟨b,m⟩,j⟩:=xd (d:=a) (L:=[]) mK (kr g.root (zZ a _)) g.da h i;have ne:b≠1:=by intro e;have:=m.no;rw [e,g.root] at this;cases this
 have l:b≠a:=by intro e;have:=m.no;rw [e,g.da] at this;cases this
 exact ⟨⟨b,g.ne,ne,l,by rw [m.pL 1 (Ne.symm g.ne) (Ne.symm ne)];exact g.root,m.dir,m.new⟩,by rw [j];decide⟩
theorem sV {n:Nat} {f:AF} (h:Lc n T a b [⟨a,[100]⟩] f):aT T 1 [[100],[97]]=(0,b):=Jx h.root (zZ a _) h.da (zZ b _)
theorem vB {n:Nat} {f:AF} (h:Lc n T a b [⟨a,[100]⟩] f):bX T GJ=(0,b):=(e7 mK).trans (sV h)
theorem yY {n:Nat} {f:AF} (h:Lc n T a b [⟨a,[100]⟩] f):(bX T GJ).1=0/\T (bX T GJ).2=Y (.file f):=by rw [vB h];exact ⟨rfl,h.fb⟩
def ui:AF:=(iM 1).wr 0 oL
theorem NK:gN 14 0 (iM 1) oL=0:=by decide +kernel
theorem Ph {n:Nat} (g:Lc n T a b [⟨a,[100]⟩] (iM 1)) (h:fT T 14 b 0 (iM 1) oL c T4 k') (o:c=0):Lc n T4 a b [⟨a,[100]⟩] ui/\k'=13:=by
 obtain ⟨-,l⟩:=h;rcases l o with ⟨e,_⟩|⟨_,i,j⟩
 .cases e
 .rw [i,j]
  refine ⟨⟨g.a1,g.b1,g.ba,(aS _ _ (Ne.symm g.b1)).trans g.root,(aS _ _ (Ne.symm g.ba)).trans g.da,bJ _ _ _⟩,by decide +kernel⟩
theorem Nx {n:Nat} (h:Lc n T a b [⟨a,[100]⟩] ui):gB T 13 GJ pB=0:=by
 have g:ft T [[98]]=0:=wy (d:=1) (by simp) rfl h.root (by simp [jW,cT]);unfold gB;rw [mK,xl];simp only;rw [sV h,if_neg (by simp),h.fb];simp only;rw [g,if_neg (by simp),if_neg (by decide),oS (d:=1) rfl,h.root];exact si (by simp [jW,cT,eP]) (by simp [eP]) (by simp [eP];decide)
def Dg:AF:={ ui with lk:=2 }
theorem Pe {n:Nat} (g:Lc n T4 a b [⟨a,[100]⟩] ui) (h:yv T4 13 GJ pB c T5 k') (y:c=0):Lc n T5 a b [⟨a,[100]⟩,⟨b,[98]⟩] Dg/\k'=13:=by
 obtain ⟨-,u⟩:=h;obtain ⟨ps,qs,id,f,L,o,r,l,i,j,z,rfl,rfl⟩:=u y;obtain rfl:=Option.some.inj (mK.symm.trans o);obtain rfl:=Option.some.inj (xl.symm.trans r);rw [sV g] at l;obtain rfl:b=id:=(Prod.mk.inj l).2;rw [oS (d:=1) rfl,g.root] at j;obtain rfl:[⟨a,[100]⟩]=L:=by injection j with j;injection j
 obtain rfl:ui=f:=by rw [g.fb] at i;injection i with i;injection i
 rw [oS (d:=1) rfl];refine ⟨⟨g.a1,g.b1,g.ba,(aS _ _ (Ne.symm g.b1)).trans (bJ _ _ _),?_,bJ _ _ _⟩,(show 13+cD 1-cD 2=13 by decide)⟩;exact (aS _ _ (Ne.symm g.ba)).trans ((aS _ _ g.a1).trans g.da)
section
variable {n:Nat} (h:Lc n T a b [⟨a,[100]⟩,⟨b,[98]⟩] Dg)
include h
theorem Gx:bX T pB=(0,b):=(e7 xl).trans (kr (i:=1) h.root (by simp [jW,List.findIdx?_cons]))
theorem QN:bX T pD=(0,a):=(e7 kT).trans (kr (i:=0) h.root (by simp [jW,List.findIdx?_cons]))
theorem s6:(bX T pB).1=0/\sF (T (bX T pB).2)=(1,2,5):=by
 rw [Gx h];dsimp only;rw [h.fb];exact ⟨rfl,rfl⟩
theorem vQ:gG T pB 1 3=0:=by
 unfold gG;rw [if_pos (by decide),Gx h,if_neg (by simp),h.fb]
theorem Ip:mB T pB 1 3=[101,108,108]:=by
 unfold mB;rw [Gx h];dsimp only;rw [h.fb];decide
theorem su:lQ T [47]=0/\eP (T (bX T [47]).2)=[⟨a,[100]⟩,⟨b,[98]⟩]:=by
 have e:bX T [47]=(0,1):=e7 BP;unfold lQ;rw [e];dsimp only;rw [if_neg (by simp),h.root];exact ⟨rfl,rfl⟩
omit h in
theorem Fz {j:List aN} (r:j.Perm [⟨a,[100]⟩,⟨b,[98]⟩]) (z:jI zV j):j.map aN.nm=[[98],[100]]:=by
 have u:=r.length_eq
 match j,u with
 | [x,y],_=>
  have l:=r.map aN.nm;simp only [S2,List.map_nil] at l ⊢
  have o:x.nm≠y.nm:=by
   have:=l.nodup_iff.2 (by decide:[([100]:List UInt8),[98]].Nodup);simpa using this
  have A:x.nm=[100]\/x.nm=[98]:=by simpa using l.mem_iff.1 (List.mem_cons_self (a:=x.nm) (l:=[y.nm]))
  have C:y.nm=[100]\/y.nm=[98]:=by simpa using l.mem_iff.1 (show y.nm ∈ [x.nm,y.nm] by simp)
  rcases A with g|g <;> rcases C with i|i
  .exact absurd (g.trans i.symm) o
  .have:=(List.pairwise_cons.1 z).1 y (by simp)
   unfold zV at this;rw [g,i] at this;exact absurd this (by decide)
  .rw [g,i]
  .exact absurd (g.trans i.symm) o
end
end
end Go.SL
namespace Go.Proofs.Cl
open Go.RowKit Go.SL Go.Proofs.Nn Go.Proofs.Ba Go.Proofs.Su Go.Proofs.Fs
attribute [local go_sem] Oper.semAt_some
section
variable {n:Nat} {x:Fx n} {b v pc qc fc k id:Nat} {T:Tr} {w:K} {F:ai} {p p1 p2:List UInt8} {ps qs:List (List UInt8)} {L:List aN} {c:Int}
theorem A7 {X g:ai} {e:Ending} {w':K} (i:c≠0) (j:e = .panicked (me c)) (d:aj w w') (h:ag w' g):Gd c X g w e w':=⟨d,.inr ⟨i,j,h⟩⟩
theorem zC {X:ai} (A:Tidy n T) (j:aX p=Y ps) (i:aT T 1 ps=(0,id)) (C:T id=Y (.dir L)) (h:ag w (vA x b v T k*(aB pc p*F))) :
  Calls Q 35 #[ay v,ay pc,ay fc] w (Gd 8 X (vA x b v T k*(aB pc p*F)) w):=by
 refine aJ fun e0 HQ=>?_;have cp:w.cell? ⟨pc,0,U⟩=Y (Z (str p)):=h.ah.cell 0;have l:=ae h;obtain ⟨d0,z⟩:=dq j;have y:=ae (dP (w:=w) j);have HT:=ae A;have E:=ae z;have HW:=ae i;have HY:=ae C;clear h A j d0 z i C
 go_enter func35,ntmps35
 go_wp2_with fail
 refine y.out.mono ?_;rintro e w2 ⟨u,rfl,d2,r⟩;have g:=(r.under l.out).to (by ac_rfl:_=vA x b v T k*(eJ u ps*(aB pc p*F)));have i:=fL HT.out E.out iD g;rw [HW.out] at i;have o:=ae i;clear cp y r g l i
 go_wp2_with fail
 refine o.out.mono ?_;rintro e w3 ⟨⟨-,rfl⟩|⟨hc,-⟩,d3,g⟩
 .have b0:=ae (mM HY.out g)
  obtain ⟨ua,uc,rfl⟩:=eH (g.to (by ac_rfl:_=eJ u ps*(vA x b v T k*(aB pc p*F))));clear g o
  go_wp2_with fail
  refine b0.out.mono ?_;rintro e w7 (⟨c0,_⟩|⟨-,rfl,d7,h7⟩)
  .exact absurd c0 (by show ¬ (2:Int)=1;decide)
  .exact ⟨rfl,HQ.out _ _ (A7 (by decide) rfl ((d2.trans d3).trans d7) (h7.to (aE _ _ _)).right)⟩
 .exact absurd rfl hc
theorem yC {X:ai} (ht:Tidy n T) (y:aX p=Y ps) (i0:ps≠[]) (j:aT T 1 ps=(0,id)) (hy:T id=Y (.dir L)) (hL:L≠[]) (h:ag w (vA x b v T k*(aB pc p*F))) :
  Calls Q 49 #[ay v,ay pc] w (Gd 11 X (vA x b v T k*(aB pc p*F)) w):=by
 refine aJ fun u0 HQ=>?_;have cp:w.cell? ⟨pc,0,U⟩=Y (Z (str p)):=h.ah.cell 0;have b0:=ae h;obtain ⟨r0,hl⟩:=dq y;have hk:=ae (dP (w:=w) y);have r:¬ (ps.length:Int)=0:=by have:=List.length_pos_iff.2 i0;omega
 have u:(0:Int)<((gT 1 L).sz:Int):=by have:=List.length_pos_iff.2 hL;show (0:Int)<((32*L.length:Nat):Int);omega
 have HT:=ae ht;have HL:=ae hl;have HW:=ae j;have HY:=ae hy;have c0:=ae r;have d0:=ae u;clear h ht y r0 hl j hy i0 hL r u
 go_enter func49,ntmps49
 go_wp2_with fail
 refine hk.out.mono ?_;rintro e w2 ⟨l0,rfl,d2,h2⟩;have i:=(h2.under b0.out).to (by ac_rfl:_=vA x b v T k*(eJ l0 ps*(aB pc p*F)));have j:=fL HT.out HL.out iD i;rw [HW.out] at j;have Hw:=ae j;clear cp hk h2 i b0 j
 go_wp2_with fail
 refine Hw.out.mono ?_;rintro e w3 ⟨⟨-,rfl⟩|⟨hc,-⟩,d3,i⟩
 .have h0:=ae (jc HY.out i)
  obtain ⟨ua,uc,rfl⟩:=eH (i.to (by ac_rfl:_=eJ l0 ps*(vA x b v T k*(aB pc p*F))));clear i Hw
  go_wp2_with fail
  refine h0.out.mono ?_;rintro e g ⟨z,rfl,m0,n0,s0,o0,d7,h7⟩;obtain ⟨hX,k0,g0⟩:=mz m0;have o:=h7.alloc (V nE 73 (0,0));have Hz:=ae o.heap;have l:=o.setRow (cs':=ints z.l);have A:((g.alloc (V nE 73 (0,0))).setRow g.heap.size (ints z.l)).cell? ⟨g.heap.size,0,U⟩=Y (W .i64 2):=by rw [show (2:Int)=z.kd from n0.symm];exact l.cell 0
  have C:((g.alloc (V nE 73 (0,0))).setRow g.heap.size (ints z.l)).cell? ⟨g.heap.size,2,U⟩=Y (W .i64 ((gT 1 L).sz:Int)):=by rw [show ((gT 1 L).sz:Int)=z.sz from o0.symm];exact l.cell 2
  have HE:=ae (l.to (by ac_rfl:_=(eJ (N ua ps.length uc) ps*pt g.heap.size (V (ints z.l) 73 (0,0)))*(vA x b v T k*(aB pc p*F)))).right;have E:=ae ((((d2.trans d3).trans d7).alloc (V nE 73 (0,0))).setRow g.heap.size (ints z.l));have f0:=ae k0;have e0:=ae g0;have HX:=ae hX;have N0:=ae A;have N2:=ae C;clear h0 o l hX k0 g0 A C d7 h7 m0 n0 s0 o0;unfold nE at *
  go_upto_region 3 with (refine wpList_store_row (by exact rfl) 73 (.tmp 5) (.tmp 13) (by exact rfl) g.heap.size (ints z.l) (by exact rfl) (by exact rfl) 73 _ (by with_reducible exact Hz.out) e0.out (by rw [HX.out];rfl) f0.out ?_)
  have A:=N0.out;have C:=N2.out;have r:=c0.out;have u:=d0.out;have p0:=ae fun w=>dF w 11 (by decide);have q0:=ae (HQ.out _ _ (A7 (X:=X) (c:=11) (by decide) rfl E.out HE.out));clear Hz f0 e0 HX N0 N2 c0 d0 E HE;generalize ((gT 1 L).sz:Int)=sz at *;generalize ps.length=ln at *
  go_wp2_with fail
  refine (p0.out _).mono ?_;rintro e w9 ⟨rfl,rfl⟩;exact ⟨rfl,q0.out⟩
 .exact absurd rfl hc
theorem xw {X:ai} (ht:Tidy n T) (z:aX p1=Y ps) (A:aX p2=Y qs) (y:ps≠[]) (j:aT T 1 ps=(0,id)) (hy:T id=Y (.dir L)) (hb:mj ps qs=true) (h:ag w (vA x b v T k*(aB pc p1*(aB qc p2*F)))) :
  Calls Q 57 #[ay v,ay pc,ay qc] w (Gd 11 X (vA x b v T k*(aB pc p1*(aB qc p2*F))) w):=by
 refine aJ fun F0 HQ=>?_;have k0:w.cell? ⟨pc,0,U⟩=Y (Z (str p1))/\w.cell? ⟨qc,0,U⟩=Y (Z (str p2)):=⟨h.ah.cell 0,h.aq.cell 0⟩
 have b0:=ae h;obtain ⟨r0,hl⟩:=dq z;obtain ⟨s0,f0⟩:=dq A;have hk:=ae (dP (w:=w.drew) z);have e0:=ae fun w'=>dP (w:=w') A;have r:¬ (ps.length:Int)=0:=by have:=List.length_pos_iff.2 y;omega
 have HT:=ae ht;have HL:=ae hl;have l0:=ae f0;have HW:=ae j;have HY:=ae hy;have c0:=ae r;have m0:=ae y;have HB:=ae hb;clear h ht z A r0 s0 hl f0 j hy y r hb
 go_enter func57,ntmps57
 go_wp2_with fail
 go_region_held3 (fun w'=>w'.cell? ⟨pc,0,U⟩=Y (Z (str p1))/\w'.cell? ⟨qc,0,U⟩=Y (Z (str p2)))
  (first|exact k0|exact k1|exact k2|go_keep)
  (first
   | (go_at_call 32;(with_reducible refine (e0.out _).mono ?_);rintro e w5 ⟨u2,rfl,d5,l⟩;have g:=l.under o;have k2:w5.cell? ⟨pc,0,U⟩=Y (Z (str p1))/\w5.cell? ⟨qc,0,U⟩=Y (Z (str p2)):=⟨g.aD.cell 0,g.aI.cell 0⟩)
   | (go_at_call 32;(with_reducible refine hk.out.mono ?_);rintro e w4 ⟨u0,rfl,d4,h4⟩;have o:=h4.under b0.out.drew;have k1:w4.cell? ⟨pc,0,U⟩=Y (Z (str p1))/\w4.cell? ⟨qc,0,U⟩=Y (Z (str p2)):=⟨o.aq.cell 0,o.aD.cell 0⟩))
 rename_i n0;have i:=g.to (by ac_rfl:_=vA x b v T k*(eJ u0 ps*(eJ u2 qs*(aB pc p1*(aB qc p2*F)))));obtain ⟨C,E,rfl⟩:=eH i.ah;obtain ⟨va,vc,rfl⟩:=eH i.aq;have j:=fL HT.out HL.out iD i;rw [HW.out] at j;have Hw:=ae j;have D5:=ae (((aj.refl w).drew.trans d4).trans d5);have r:=c0.out;clear n0 k0 k1 k2 h4 o l g i d4 d5 hk e0 b0 j c0
 go_wp2_with fail
 refine Hw.out.mono ?_;rintro e w6 ⟨⟨-,rfl⟩|⟨hc,-⟩,d6,l⟩
 .have g:=l.to (by ac_rfl:_=eJ (N C ps.length E) ps*(eJ (N va qs.length vc) qs*(vA x b v T k*(aB pc p1*(aB qc p2*F)))))
  have u:=Ed m0.out HL.out l0.out g;rw [HB.out] at u;have d0:=ae u;have ND:=ae fun (w':K) (h':ag w' (vA x b v T k*(eJ (N C ps.length E) ps*(eJ (N va qs.length vc) qs*(aB pc p1*(aB qc p2*F))))))=>jc HY.out h';have D6:=ae (D5.out.trans d6);clear l g u Hw d6 D5 r
  go_wp2_with fail
  refine d0.out.mono ?_;rintro e w8 ⟨rfl,d8,i⟩;have hn:=ae (ND.out w8 (i.to (by ac_rfl)));have D8:=ae (D6.out.trans d8);clear d0 i d8 ND D6
  go_wp2_with fail
  refine hn.out.mono ?_;rintro e w9 ⟨i0,rfl,g0,h0,x0,D0,d9,h9⟩;obtain ⟨q0,-,-⟩:=uz g0 w9;rw [show i0.kd=2 from h0] at q0;have o0:=ae (HQ.out _ _ (A7 (X:=X) (c:=11) (by decide) rfl (D8.out.trans d9) (h9.to (by ac_rfl:_=(eJ (N C ps.length E) ps*eJ (N va qs.length vc) qs)*(vA x b v T k*(aB pc p1*(aB qc p2*F))))).right));have p0:=ae fun w=>dF w 11 (by decide);generalize ints i0.l=yl at *;clear hn g0 h0 x0 D0 d9 h9 D8
  go_wp2_with fail
  refine (p0.out _).mono ?_;rintro e G0 ⟨rfl,rfl⟩;exact ⟨rfl,o0.out⟩
 .exact absurd rfl hc
end
section
variable {t:Pl} {q:Dk t.n} {s:Ds} {T:Tr} {k m B id:Nat} {O:kg} {w:K} {F:ai} {p p1 p2:List UInt8} {ps qs:List (List UInt8)} {L:List aN}
theorem refused {c:Int} {fs:ai} {g:K} {i:ai} {v:G} {f:FuncId} (r:c≠0) (u:mF t q s T k) (o:s.B<=B)
  (h:Calls Q f #[ay t.f,v] g fun e w'=>∃ s',e = M (W .i64 c)/\aj g w'/\s.Rd s'/\ag w' (dH t s' m O*((if c=0 then emp else i)*F))) :
  Calls Q f #[ay t.f,v] g fun e w'=>e = M (W .i64 c)/\aj g w'/\ag w' (i*(gK t q m T k B O*F)):=by
 refine h.mono ?_;rintro e w' ⟨s',rfl,d,l,j⟩;rw [if_neg r] at j;exact ⟨rfl,d,(dJ (u.rd l) (by rw [l.B];exact o) j).to (aE _ _ _)⟩
theorem Ev (E:B<=1000000) (z:aX p=Y ps) (A:aT T 1 ps=(0,id)) (C:T id=Y (.dir L)) (h:ag w (gK t q m T k B O*F)) :
  Calls Q 12 #[ay t.f,Z (str p)] w (Bi (gK t q m T k B O) (W .i64 8) F w):=by
 refine aJ fun e0 l=>?_;obtain ⟨s,i,g,u⟩:=eR h;have j:=(u.alloc (V #[ay t.f] 25 (0,0))).alloc (V #[Z (str p)] 9 (0,0));simp only [E2] at j;have r:=ae (((aj.refl w).alloc (V #[ay t.f] 25 (0,0))).alloc (V #[Z (str p)] 9 (0,0)))
 have y:=ae (refused (c:=8) (B:=B) (fs:=emp) (by decide) i g (iW i (by omega) 35 #[ay (w.heap.size+1),ay w.heap.size] (aB (w.heap.size+1) p) 8 emp (aB (w.heap.size+1) p) (enters func35 (by kernel_rfl) rfl)
  (fun x v b w1 d0 c0=>zC i.ty z A C c0) ((j.to (by unfold aB;ac_rfl:_=pt w.heap.size (V #[ay t.f] 25 (0,0))*(dH t s m O*(aB (w.heap.size+1) p*F)))).right)))
 clear h j i g u z A C E
 go_enter func12,ntmps12
 go_wp2_with fail
 refine y.out.mono ?_;rintro e w2 ⟨rfl,o,g⟩;have b0:=ae (l.out _ _ ⟨rfl,r.out.trans o,g.right⟩);clear y r o g l
 go_wp2_with fail
 exact b0.out
theorem Fo (hB:B<=1000000) (C:aX p=Y ps) (A:ps≠[]) (E:aT T 1 ps=(0,id)) (hy:T id=Y (.dir L)) (y:L≠[]) (h:ag w (gK t q m T k B O*F)) :
  Calls Q 18 #[ay t.f,Z (str p)] w (Bi (gK t q m T k B O) (W .i64 11) F w):=by
 refine aJ fun e0 j=>?_;obtain ⟨s,i,g,r⟩:=eR h;have u:=r.alloc (V #[Z (str p)] 9 (0,0));have o:=ae ((aj.refl w).alloc (V #[Z (str p)] 9 (0,0)))
 have z:=ae (refused (c:=11) (B:=B) (fs:=emp) (by decide) i g (iW i (by omega) 49 #[ay w.heap.size] (aB w.heap.size p) 11 emp (aB w.heap.size p) (enters func49 (by kernel_rfl) rfl)
  (fun x v b w1 d0 c0=>yC i.ty C A E hy y c0) (u.to (aE _ _ _))))
 clear h u i g r C E hy hB A y
 go_enter func18,ntmps18
 go_wp2_with fail
 refine z.out.mono ?_;rintro e w2 ⟨rfl,l,g⟩;have b0:=ae (j.out _ _ ⟨rfl,o.out.trans l,g.right⟩);clear z o l g j
 go_wp2_with fail
 exact b0.out
theorem By (hB:B<=1000000) (C:aX p1=Y ps) (E:aX p2=Y qs) (A:ps≠[]) (hw:aT T 1 ps=(0,id)) (hy:T id=Y (.dir L)) (y:mj ps qs=true) (h:ag w (gK t q m T k B O*F)) :
  Calls Q 23 #[ay t.f,Z (str p1),Z (str p2)] w (Bi (gK t q m T k B O) (W .i64 11) F w):=by
 refine aJ fun e0 l=>?_;obtain ⟨s,i,g,u⟩:=eR h;have j:=(u.alloc (V #[Z (str p1)] 9 (0,0))).alloc (V #[Z (str p2)] 9 (0,0));simp only [E2] at j;have r:=ae (((aj.refl w).alloc (V #[Z (str p1)] 9 (0,0))).alloc (V #[Z (str p2)] 9 (0,0)))
 have z:=ae (refused (c:=11) (B:=B) (fs:=emp) (by decide) i g (iW (O:=O) (m:=m) i (by omega) 57 #[ay w.heap.size,ay (w.heap.size+1)] (aB w.heap.size p1*aB (w.heap.size+1) p2) 11 emp (aB w.heap.size p1*aB (w.heap.size+1) p2) (enters func57 (by kernel_rfl) rfl)
  (fun x v b w1 b0 d0=>(xw (x:=x) (b:=b) (v:=v) (k:=k) (F:=ew t m O*b0) i.ty C E A hw hy y (d0.to (by ac_rfl))).mono fun e w' hq=>by simpa only [ax] using hq) (j.to (by unfold aB;ac_rfl))))
 clear h j i g u C hw hy hB A y E
 go_enter func23,ntmps23
 go_wp2_with fail
 refine z.out.mono ?_;rintro e w2 ⟨rfl,o,g⟩;have c0:=ae (l.out _ _ ⟨rfl,r.out.trans o,g.right⟩);clear z r o g l
 go_wp2_with fail
 exact c0.out
end
end Go.Proofs.Cl

/- Steps. -/
import Derived.Test.YtacliaemfegopaaGreatDoorOP40
import Derived.Test.YtacliaemfegopaaGreatDoorOP31
set_option linter.all false
set_option maxRecDepth 99999
set_option maxHeartbeats 0
open Go.SL
open Go.Value renaming int->Z,slice->N,pointer->H,string->W,tuple->I
open Go.Obj renaming cells->Y
open Go.Ending renaming returned->K
open Go renaming World->M,Value->G
open Go.Proofs.Tryz renaming prog->Q
open Option renaming some->V,none->U
open Go.Proofs.Tryz
open Go.World renaming size_alloc->E2,block_lt_of_cell?->M2
open List renaming length_map->H2,getElem?_eq_getElem->L2,setIfInBounds_toArray->O2,set_cons_zero->P2,length_append->R2,length_singleton->S2,take_of_length_le->V2,map_cons->W2
open Nat renaming le_refl->K2
namespace Go.SL
def mN (T:Tr) (p:List UInt8):Int:=if (cm T p).1≠0 then (cm T p).1 else match T (cm T p).2 with
 | some (.dir _)=>0
 | _=>8
end Go.SL
namespace Go.Proofs.Cl
open Go.RowKit Go.SL Go.Proofs.Nn Go.Proofs.Ba Go.Proofs.Su Go.Proofs.Fs
attribute [local go_sem] Oper.semAt_some
def gq (a:Nat) (v:G):ai:=pt a (Y #[v] 52 (0,0))
def zh (a:Nat) (l:List (List UInt8)):ai:=ex fun u=>dJ u l*gq a u
theorem qK {w:M} {a:Nat} {l:List (List UInt8)} {F:ai}:ag w (zh a l*F)↔∃ u,ag w (dJ u l*(gq a u*F)):=by
 unfold zh;rw [ag.aw];exact exists_congr fun u=>by rw [ax]
def wq (a:Nat) (L:List aQ):ai:=ex fun g:List aQ=>fact (g.Perm L/\kn Ad g)*zh a (g.map aQ.nm)
section
variable {n:Nat} {x:Fx n} {b v pc rc k:Nat} {T:Tr} {w:M} {F:ai} {p:List UInt8}
def PB (rc:Nat) (v:G) (g:List aQ) (j:ai) (w0:M) (u:G) (wr:M):Prop:=
 ∃ i:Nat,i<=g.length/\u = Z .i64 (i:Int)/\aj w0 wr/\ag wr (zh rc ((g.take i).map aQ.nm)*(gM v g*j))
theorem Od (ht:Tidy n T) (p0:mN T p=0) (Y0:(eX (T (cm T p).2)).length<=Ay) (h:ag w (vA x b v T k*(az pc p*(gq rc (N U 0 0)*F)))) :
  Calls Q 55 #[ay v,ay pc,ay rc] w (JB (mN T p) (vA x b v T k*(az pc p*(wq rc (eX (T (cm T p).2))*F))) (vA x b v T k*(az pc p*(gq rc (N U 0 0)*F))) w):=by
 refine aH fun g1 HQ=>?_;have y:=h.to (by unfold vA;ac_rfl:_=dF x b (eY T) k*(pt v (bG b n)*(az pc p*(gq rc (N U 0 0)*F))));have k0:w.cell? ⟨v,0,U⟩=V (ay b)/\w.cell? ⟨v,1,U⟩=V (Z .i64 (n:Int))/\w.cell? ⟨pc,0,U⟩=V (W (str p)):=⟨y.ah.cell 0,y.ah.cell 1,y.au.cell 0⟩
 have x0:=ae Y0;clear Y0;have r0:=ae h;have HT:=ae ht
 have f1:Hid (∀ e,e≠0->e=mN T p->∀ (w':M),aj w w'->ag w' (vA x b v T k*(az pc p*(gq rc (N U 0 0)*F)))->g1 (.panicked (lG e)) w'):=fun e hc he w' d C=>
  HQ.out _ _ ⟨d,.inr ⟨by rw [<- he];exact hc,by rw [he],C⟩⟩
 clear h y
 cases C:aZ p with
 | none=>
  exact absurd ((by unfold mN;rw [qA C];rfl:(1:Int)=mN T p).trans p0) (by decide)
 | some ps=>
  obtain ⟨o1,hl⟩:=cV C;have h0:=eM (T:=T) C;have u0:(eX (T (aN T 1 ps).2)).length<=Ay:=by have:=x0.out;rw [h0] at this;exact this
  have s0:=ae u0;clear u0 x0;have hk:=ae (dz (w:=w.drew) C);have o:=fun y=>ht.walk ps ht.root.choose_spec y;have hw:=ae fun (u:G) (w':M) (h':ag w' (vA x b v T k*(dJ u ps*(az pc p*(gq rc (N U 0 0)*F)))))=>eR HT.out hl fR h';have e0:=ae (show mN T p=if (aN T 1 ps).1≠0 then (aN T 1 ps).1 else match T (aN T 1 ps).2 with|some (.dir _)=>0|_=>8 by unfold mN;rw [h0]);rw [h0] at HQ;have HY:=ae o;clear ht C hl o1 h0 o;generalize aN T 1 ps=pw at *;obtain ⟨wc,id⟩:=pw;dsimp only at hw HY e0 HQ s0
  by_cases hc:wc=0
  .subst hc
   obtain ⟨s1,o⟩:=HY.out rfl
   cases s1 with
   | file f=>
    have b0:(8:Int)=mN T p:=by rw [e0.out,if_neg (by decide),o]
    exact absurd (b0.trans p0) (by decide)
   | dir L=>
    have b0:mN T p=0:=by rw [e0.out,if_neg (by decide),o]
    have hE:=HT.out.pK _ _ o;have q1:L.length<=Ay:=by have:=s0.out;rw [o] at this;exact this
    have S0:=ae fun (u:G) (w':M) (h':ag w' (dF x b (eY T) k*(pt v (bG b n)*(az pc p*(dJ u ps*(gq rc (N U 0 0)*F))))))=>GJ h' (jw o) hE.ok q1 hE.nd;have L0:=ae cO;have HL:=ae hE.len;rw [b0,o] at HQ;clear o HY e0 f1 hE b0
    go_enter func55,ntmps55
    go_wp2_with fail
    go_region_held3 (fun w'=>w'.cell? ⟨v,0,U⟩=V (ay b)/\w'.cell? ⟨v,1,U⟩=V (Z .i64 (n:Int))/\w'.cell? ⟨pc,0,U⟩=V (W (str p)))
     (first|exact k0|exact k1|exact k2|exact k3|go_keep)
     (first
     | (go_at_call 32;refine hk.out.mono ?_;rintro e w4 ⟨u,rfl,d4,h4⟩;have h5:=(h4.under r0.out.drew).to (by ac_rfl:_=vA x b v T k*(dJ u ps*(az pc p*(gq rc (N U 0 0)*F))));have h6:=h5.to (by unfold vA;ac_rfl:_=pt v (bG b n)*(az pc p*(dF x b (eY T) k*(dJ u ps*(gq rc (N U 0 0)*F)))));have k1:w4.cell? ⟨v,0,U⟩=V (ay b)/\w4.cell? ⟨v,1,U⟩=V (Z .i64 (n:Int))/\w4.cell? ⟨pc,0,U⟩=V (W (str p)):=⟨h6.cell 0,h6.cell 1,h6.ah.cell 0⟩;have d1:=ae (hw.out u w4 h5))
     | (go_at_call 31;refine d1.out.mono ?_;rintro e w5 ⟨he,d5,h7⟩;obtain rfl:=he.elim (fun h=>h.2) (fun h=>absurd rfl h.1);have h8:=h7.to (by unfold vA;ac_rfl:_=dF x b (eY T) k*(pt v (bG b n)*(az pc p*(dJ u ps*(gq rc (N U 0 0)*F)))));have k2:w5.cell? ⟨v,0,U⟩=V (ay b)/\w5.cell? ⟨v,1,U⟩=V (Z .i64 (n:Int))/\w5.cell? ⟨pc,0,U⟩=V (W (str p)):=⟨h8.ah.cell 0,h8.ah.cell 1,h8.au.cell 0⟩;have T0:=ae (S0.out u w5 h8))
     | (go_at_call 56;refine T0.out.mono ?_;rintro e w6 ⟨u2,g,rfl,pW,sW,d6,h9⟩;have k3:w6.cell? ⟨v,0,U⟩=V (ay b)/\w6.cell? ⟨v,1,U⟩=V (Z .i64 (n:Int))/\w6.cell? ⟨pc,0,U⟩=V (W (str p)):=⟨h9.au.cell 0,h9.au.cell 1,h9.aC.cell 0⟩;obtain ⟨E,j,rfl⟩:=aD h9))
    rename_i i1;have D6:=ae ((((aj.refl w).drew.trans d4).trans d5).trans d6);have H9:=ae (h9.to (by unfold vA;ac_rfl:_=gM (N E g.length j) g*(gq rc (N U 0 0)*(vA x b v T k*(az pc p*(dJ u ps*F))))));have j1:g.length<=3840:=by rw [pW.length_eq];exact HL.out
    have PW:=ae pW;have SW:=ae sW;clear i1 k0 k1 k2 k3 h4 h5 h6 h7 h8 h9 d4 d5 d6 d1 T0 S0 hw hk he r0 HL pW sW
    go_wp2_with fail
    refine (L0.out _).mono ?_;rintro e w7 ⟨rfl,rfl⟩;clear L0
    go_wp2_with fail
    have hZ:=H9.out.to (by ac_rfl:_=gq rc (N U 0 0)*(gM (N E g.length j) g*(vA x b v T k*(az pc p*(dJ u ps*F)))));obtain ⟨r,hz⟩:∃ r,vA x b v T k*(az pc p*(dJ u ps*F))=r:=⟨_,rfl⟩
    rw [hz] at hZ;have y:PB rc (N E g.length j) g r w (Z .i64 0) w6:=⟨0,Nat.zero_le _,rfl,D6.out,qK.2 ⟨N U 0 0,hZ.eV 9 1⟩⟩
    have o0:=ae y;have HZ:=ae hz.symm;obtain ⟨z,hN⟩:∃ z,g.length=z:=⟨_,rfl⟩
    have HN:=ae hN;have v1:(z:Int)<=3840:=by omega
    clear hZ y hz j1 H9 D6;rw [hN];clear hN
    go_loopw [24] (fun u wr=>PB rc (N E g.length j) g r w u wr) (fun u _=>z-(intOf u).toNat)
    case atStart=>exact o0.out
    case round=>
     obtain ⟨i,hi,rfl,m0,d0⟩:=hrel;rw [HN.out] at hi
     by_cases w1:i<z
     .have x1:(i:Int)<(z:Int):=by omega
      have q0:i<g.length:=by have:=HN.out;omega
      obtain ⟨v',A⟩:=qK.1 d0;obtain ⟨pa,n0,rfl⟩:=aD A;have h2:ag wr (sl 99 2 (N E g.length j) g.length (bu g)*(zh rc ((g.take i).map aQ.nm)*r)):=d0.to (by unfold gM;ac_rfl);obtain ⟨g0,c,e,e1,e2,l1,l2⟩:=oq h2 q0;simp only [Value.slice.injEq] at e;obtain ⟨rfl,-,rfl⟩:=e;have c1:(g.take (i+1)).map aQ.nm=(g.take i).map aQ.nm++[(g[i]).nm]:=by rw [List.take_add_one,List.map_append,L2 q0];rfl
      have n1:((g.take i).map aQ.nm).length=i:=by rw [H2,List.length_take];omega
      generalize g[i]=x at *;have A1:(z:Int)<=(j:Int):=by have:=HN.out;omega
      have hA:=(A.alloc (Y #[Z .i64 (x.nd:Int),W (str x.nm)] 99 (0,0))).alloc (Y #[W (str x.nm)] 9 (0,0));simp only [E2] at hA;generalize hl:(g.take i).map aQ.nm=l at *;have c0:wr.cell? ⟨rc,0,U⟩=V (N pa l.length n0):=A.ah.cell 0;have y1:rc<wr.heap.size:=M2 wr _ c0;have z1:g0<wr.heap.size:=M2 wr _ e1
      have hR:oJ ((wr.alloc (Y #[Z .i64 (x.nd:Int),W (str x.nm)] 99 (0,0))).alloc (Y #[W (str x.nm)] 9 (0,0))) 1 (N (V ⟨wr.heap.size+1,0,U⟩) 1 1) 1 [W (str x.nm)]:=
       ⟨rfl,.inr ⟨_,_,rfl,fun r1 u hu=>by
        rw [Addr.add_lit,Nat.zero_add];exact (hA.cell r1).trans (by simpa using hu)⟩⟩
      obtain ⟨i0,N0,hz,X0,K0⟩:=info_parts qN;have H0:=hA.to (by unfold dJ;ac_rfl:_=sl 9 1 (N pa l.length n0) l.length (strs l)*(gq rc (N pa l.length n0)*(gM (N (V ⟨g0,0,U⟩) g.length j) g*(pt (wr.heap.size+1) (Y #[W (str x.nm)] 9 (0,0))*(pt wr.heap.size (Y #[Z .i64 (x.nd:Int),W (str x.nm)] 99 (0,0))*r)))));obtain ⟨v2,w',W0,f0,Z0⟩:=ag.append (P:=Q) (ty:=52) underlying52 N0 hz X0 K0 rfl H0 hR (by intro u hu;rw [List.mem_singleton.1 hu];rfl) (by unfold maxLen;omega) (by omega);obtain ⟨aa,ac,rfl⟩:=aD f0;have h1:w'.cell? ⟨rc,0,U⟩=V (N pa l.length n0):=f0.ah.cell 0;have t1:w'.frozen? ⟨rc,0,U⟩=false:=f0.ah.frozen 0;have l0:=f0.ah.setCell 0 (N aa (l.length+1) ac);simp only [O2,P2] at l0;have e:strs l++[W (str x.nm)]=strs (l++[x.nm]):=by unfold strs;rw [List.map_append];rfl
      rw [e] at l0
      have V0:ag (w'.setCell ⟨rc,0,U⟩ (N aa (l.length+1) ac)) (zh rc ((g.take (i+1)).map aQ.nm)*(gM (N (V ⟨g0,0,U⟩) g.length j) g*r)):=by
       rw [c1];refine qK.2 ⟨N aa (l.length+1) ac,?_⟩;unfold dJ;rw [R2,S2];exact (l0.to (by unfold gq;ac_rfl:_=(pt (wr.heap.size+1) (Y #[W (str x.nm)] 9 (0,0))*pt wr.heap.size (Y #[Z .i64 (x.nd:Int),W (str x.nm)] 99 (0,0)))*(sl 9 1 (N aa (l.length+1) ac) (l.length+1) (strs (l++[x.nm]))*(gq rc (N aa (l.length+1) ac)*(gM (N (V ⟨g0,0,U⟩) g.length j) g*r))))).right
      have D0:=ae V0;have G0:=ae ((((m0.alloc (Y #[Z .i64 (x.nd:Int),W (str x.nm)] 99 (0,0))).alloc (Y #[W (str x.nm)] 9 (0,0))).trans Z0).setCell ⟨rc,0,U⟩ (N aa (l.length+1) ac));have F0:=ae W0;have Hi:=ae hi;clear d0 A h2 hA hR N0 hz X0 K0 H0 W0 f0 Z0 l0 V0 e c1 hl m0 o0 hi q0 l1 n1;obtain ⟨ll,R0⟩:∃ ll,l.length=ll:=⟨_,rfl⟩
      rw [R0] at F0 D0 G0 c0 h1;clear R0;have D1:(j:Int)<=9223372036854775807:=by omega
      clear l2
      go_wp2_with (at_builtin;refine wpList_append_run F0.out _ _ rfl rfl rfl rfl rfl ?_)
      refine ⟨⟨i+1,by have:=HN.out;omega,by go_num,G0.out,D0.out⟩,by simp [intOf];omega⟩
     .obtain rfl:i=z:=by omega
      have A:ag wr (zh rc (g.map aQ.nm)*(gM (N E g.length j) g*r)):=by rw [V2 (by rw [HN.out];exact K2 _)] at d0;exact d0
      rw [HZ.out] at A
      have h2:ag wr (wq rc L*(vA x b v T k*(az pc p*F))):=by
       unfold wq;rw [ag.aw];refine ⟨g,?_⟩;rw [ax];exact ag.aq.2 ⟨⟨PW.out,SW.out⟩,(A.to (by ac_rfl:_=(gM (N E g.length j) g*dJ u ps)*(zh rc (g.map aQ.nm)*(vA x b v T k*(az pc p*F))))).right⟩
      have m1:=ae (HQ.out (K (I #[])) wr ⟨m0,.inl ⟨rfl,rfl,h2.to (by ac_rfl)⟩⟩);clear A h2 HQ d0 m0 o0
      go_wp2_with fail
      go_end0
      exact m1.out
  .have b0:wc=mN T p:=by rw [e0.out,if_pos hc]
   exact absurd (b0.trans p0) hc
end
section
variable {t:Pl} {q:Dk t.n} {s s':Ds} {T:Tr} {k m:Nat} {O:kY} {w:M} {F:ai} {p:List UInt8}
def UT (t:Pl) (m:Nat) (s:Ds) (O:kY) (c:Int) (L:List aQ) (F:ai) (w:M) (e:Ending) (w':M):Prop:=
 ∃ s',aj w w'/\s.Rd s'/\((c≠0/\e = K (I #[N U 0 0,Z .i64 c])/\ag w' (eG t s' m O*F)) \/
  (c=0/\∃ u g,g.Perm L/\kn Ad g/\e = K (I #[u,Z .i64 0])/\ag w' (dJ u (g.map aQ.nm)*(eG t s' m O*F))))
theorem Ah (A:mQ t q s T k) (hB:s.B<=1000000) (b0:mN T p=0) (d0:(eX (T (cm T p).2)).length<=Ay) (h:ag w (eG t s m O*F)) :
  Calls Q 22 #[ay t.f,W (str p)] w (UT t m s O (mN T p) (eX (T (cm T p).2)) F w):=by
 refine aH fun e0 j=>?_;have y:=((h.alloc (Y #[W (str p)] 9 (0,0))).alloc (Y #[N U 0 0] 52 (0,0)))
 simp only [E2] at y;have dA:=ae (((aj.refl w).alloc (Y #[W (str p)] 9 (0,0))).alloc (Y #[N U 0 0] 52 (0,0)))
 have hd:=ae fun (pc rc:Nat) (w':M) (h':ag w' (eG t s m O*((az pc p*gq rc (N U 0 0))*F)))=>
  kE A hB 55 #[ay pc,ay rc] (az pc p*gq rc (N U 0 0)) (mN T p) (az pc p*wq rc (eX (T (cm T p).2))) (az pc p*gq rc (N U 0 0)) (enters func55 (by kernel_rfl) rfl)
   (fun x v b w1 c0 hw=>(Od (x:=x) (b:=b) (v:=v) (k:=k) (pc:=pc) (rc:=rc) (F:=ez t m O*c0) (p:=p) A.ty b0 d0 (hw.to (by ac_rfl))).mono fun e w' hq=>by simpa only [ax] using hq) h'
 have HA:=ae y;clear b0;unfold UT at j;clear h y hB A;generalize mN T p=cc at *;generalize eX (T (cm T p).2)=L at *
 go_enter func22,ntmps22
 go_wp2_with fail
 generalize (w.alloc (Y #[W (str p)] 9 (0,0))).alloc (Y #[N U 0 0] 52 (0,0))=w1 at *;generalize w.heap.size=pc at *;refine (hd.out pc (pc+1) _ (HA.out.to (by unfold az gq;ac_rfl))).mono ?_;rintro e w2 ⟨s',rfl,d2,r,i⟩;have l:=ae (dA.out.trans d2);clear hd dA HA d2
 by_cases z:cc=0
 .subst z
  rw [if_pos rfl] at i;have h3:=i.to (by unfold wq;ac_rfl:_=(ex fun g:List aQ=>fact (g.Perm L/\kn Ad g)*zh (pc+1) (g.map aQ.nm))*(eG t s' m O*(az pc p*F)));obtain ⟨g,u⟩:=ag.aw.1 h3;rw [ax] at u;obtain ⟨⟨pW,sW⟩,h5⟩:=ag.aq.1 u;obtain ⟨f0,o⟩:=qK.1 h5;obtain ⟨E,uc,rfl⟩:=aD o;have t0:w2.cell? ⟨pc+1,0,U⟩=V (N E (g.map aQ.nm).length uc):=o.ah.cell 0;have C:=ae (j.out _ _ ⟨s',l.out,r,.inr ⟨rfl,_,g,pW,sW,rfl,(o.to (by ac_rfl:_=(gq (pc+1) (N E (g.map aQ.nm).length uc)*az pc p)*(dJ (N E (g.map aQ.nm).length uc) (g.map aQ.nm)*(eG t s' m O*F)))).right⟩⟩);clear i h3 u h5 o j r l pW sW;generalize (g.map aQ.nm).length=ln at *
  go_wp2_with fail
  exact C.out
 .rw [if_neg z] at i
  have C:=ae (j.out _ _ ⟨s',l.out,r,.inl ⟨z,rfl,(i.to (by ac_rfl:_=(az pc p*gq (pc+1) (N U 0 0))*(eG t s' m O*F))).right⟩⟩);clear i j r l
  go_wp2_with fail
  exact C.out
end
end Go.Proofs.Cl
namespace Go.SL
open Go.RowKit
def ya (T:Tr) (d id:Nat) (nm:List UInt8) (f:AF) (L:List aQ):Tr:=Go.SL.dp (fu T d (L++[⟨id,nm⟩])) id (V (.file { f with lk:=f.lk+1 }))
theorem Tidy.Gq {n id:Nat} {T:Tr} {f:AF} (h:Tidy n T) (g:T id=V (.file f)):0<=f.lk:=by
 have:=h.ref id;rw [g] at this;simp only [Cq] at this;omega
theorem Tidy.OE {n id:Nat} {T:Tr} {f:AF} (h:Tidy n T) (g:T id=V (.file f)):id≠1:=by
 rintro rfl;obtain ⟨L,i⟩:=h.root;rw [i] at g;cases g
theorem Tidy.link {n d id:Nat} {T:Tr} {L:List aQ} {nm:List UInt8} {f:AF} (h:Tidy n T) (i:T id=V (.file f)) (j:T d=V (.dir L)) (C:0<id) (b0:n<=3840) (u:cL nm=true) (z:iX L nm=U) (r:L.length<3840):Tidy n (ya T d id nm f L):=by
 have y:id≠d:=by rintro rfl;rw [i] at j;cases j
 have E:=h.lt i;have l:=h.w.add j ((h.pK _ _ j).snoc (id:=id) (by omega) (by omega) u z r);have A:fu T d (L++[⟨id,nm⟩]) id=V (.file f):=by unfold fu;rw [aJ _ _ y];exact i
 have o:=l.leaf (y':=V (.file { f with lk:=f.lk+1 })) A rfl rfl (h.OE i) (fun L e=>by cases e) (fun g e=>by cases e;exact (h.files _ _ i:f.kd=1));refine o.tidy fun x=>?_
 by_cases e:x=id
 .subst e;simp [Cq];omega
 .simp [e]
def gT (T:Tr) (k:Nat) (p1 p2:List UInt8):Int:=match aZ p1,aZ p2 with
 | some ps,V qs=>if (aN T 1 ps).1≠0 then (aN T 1 ps).1 else match T (aN T 1 ps).2 with
  | some (.file f)=>if fh T qs≠0 then fh T qs else if 60000<=f.lk then 9 else jQ k (eX (T (cK T qs))) (bW qs)
  | _=>8
 | _,_=>1
def BR (T:Tr) (k:Nat) (p1 p2:List UInt8) (c:Int) (T':Tr) (k':Nat):Prop:=
 c=gT T k p1 p2/\(c=0->∃ ps qs id f L,aZ p1=V ps/\aZ p2=V qs/\aN T 1 ps=(0,id)/\T id=V (.file f)/\T (cK T qs)=V (.dir L)/\iX L (bW qs)=U /\
  T'=ya T (cK T qs) id (bW qs) f L/\k'=k+aU L.length-aU (L.length+1))
end Go.SL
namespace Go.Proofs.Cl
open Go.RowKit Go.SL Go.Proofs.Nn Go.Proofs.Ba Go.Proofs.Su Go.Proofs.Fs
attribute [local go_sem] Oper.semAt_some
section
variable {n:Nat} {x:Fx n} {b v pc qc k:Nat} {T:Tr} {w:M} {F:ai} {p1 p2:List UInt8}
theorem Mx (hn:n<=3840) (ht:Tidy n T) (y1:∀ id n0,T id=V n0->0<id) (E:gT T k p1 p2=0) (h:ag w (vA x b v T k*(az pc p1*(az qc p2*F)))) :
  Calls Q 50 #[ay v,ay pc,ay qc] w (RR x b v (BR T k p1 p2) (az pc p1*(az qc p2*F)) w):=by
 refine aH fun f2 HQ=>?_;have k0:w.cell? ⟨pc,0,U⟩=V (W (str p1))/\w.cell? ⟨qc,0,U⟩=V (W (str p2)):=⟨h.ah.cell 0,h.au.cell 0⟩
 have T0:=ae h;have i:=ae ht;clear h ht
 cases hs:aZ p1 with
 | none=>
  have l:(1:Int)=gT T k p1 p2:=by unfold gT;rw [hs]
  exact absurd (l.trans E) (by decide)
 | some ps=>
  cases d0:aZ p2 with
  | none=>
   have l:(1:Int)=gT T k p1 p2:=by unfold gT;rw [hs,d0]
   exact absurd (l.trans E) (by decide)
  | some qs=>
   obtain ⟨X1,hl⟩:=cV hs;obtain ⟨w1,l1⟩:=cV d0;have hk:=ae (dz (w:=w.drew) hs);have j1:=ae fun w'=>dz (w:=w') d0
   have c0:=ae (show gT T k p1 p2=if (aN T 1 ps).1≠0 then (aN T 1 ps).1 else match T (aN T 1 ps).2 with
    | some (.file f)=>if fh T qs≠0 then fh T qs else if 60000<=f.lk then 9 else jQ k (eX (T (cK T qs))) (bW qs)
    | _=>8 by unfold gT;rw [hs,d0])
   have o:=fun h0=>i.out.walk ps i.out.root.choose_spec h0;have HY:=ae o;have HL:=ae hl;have L1:=ae l1;have O1:=ae w1;have R1:=ae y1
   have q0:=ae fun (id:Nat) (f:AF) (L:List aQ) (e1:aN T 1 ps=(0,id)) (e2:T id=V (.file f)) (e3:T (cK T qs)=V (.dir L)) (e4:iX L (bW qs)=U) (e5:gT T k p1 p2=0) (e6:Tidy n (ya T (cK T qs) id (bW qs) f L)) (w':M) (d:aj w w') (Y1:ag w' (vA (x.more 8) b v (ya T (cK T qs) id (bW qs) f L) (k+aU L.length-aU (L.length+1))*(az pc p1*(az qc p2*F))))=>
    HQ.out (K (I #[])) w' ⟨0,_,_,8,⟨e5.symm,fun _=>⟨ps,qs,id,f,L,hs,d0,e1,e2,e3,e4,rfl,rfl⟩⟩,fun _=>e6,.inl ⟨rfl,rfl⟩,d,by decide,Y1⟩
   clear hs d0 HQ X1 hl w1 l1 o y1
   go_enter func50,ntmps50
   go_wp2_with fail
   go_region_held3 (fun w'=>w'.cell? ⟨pc,0,U⟩=V (W (str p1))/\w'.cell? ⟨qc,0,U⟩=V (W (str p2)))
    (first|exact k0|exact k1|exact k2|go_keep)
    (first
     | (go_at_call 32;(with_reducible refine (j1.out _).mono ?_);rintro e w5 ⟨u2,rfl,d5,h6⟩;have u:=h6.under h5;have k2:w5.cell? ⟨pc,0,U⟩=V (W (str p1))/\w5.cell? ⟨qc,0,U⟩=V (W (str p2)):=⟨u.aC.cell 0,u.aK.cell 0⟩)
     | (go_at_call 32;(with_reducible refine hk.out.mono ?_);rintro e w4 ⟨f0,rfl,d4,h4⟩;have h5:=h4.under T0.out.drew;have k1:w4.cell? ⟨pc,0,U⟩=V (W (str p1))/\w4.cell? ⟨qc,0,U⟩=V (W (str p2)):=⟨h5.au.cell 0,h5.aC.cell 0⟩))
   rename_i V1;have h8:=u.to (by ac_rfl:_=vA x b v T k*(dJ f0 ps*(dJ u2 qs*(az pc p1*(az qc p2*F)))));have hw:=ae (eR i.out HL.out fR h8);have D5:=ae (((aj.refl w).drew.trans d4).trans d5);clear V1 k0 k1 k2 h4 h5 h6 u h8 d4 d5 hk j1 T0 HL;obtain ⟨pw,z1⟩:∃ pw,aN T 1 ps=pw:=⟨_,rfl⟩
   rw [z1] at hw HY c0 q0;clear z1;obtain ⟨wc,id⟩:=pw;dsimp only at hw HY c0
   go_wp2_with fail
   refine hw.out.mono ?_;rintro e w6 ⟨he,d6,h6⟩;clear hw;have D6:=ae (D5.out.trans d6);clear D5 d6;rcases he with ⟨rfl,rfl⟩|⟨l,rfl⟩
   .obtain ⟨n0,o⟩:=HY.out rfl
    have d1:=ae (lz o h6);clear h6
    go_wp2_with fail
    refine d1.out.mono ?_;rintro e r hq;rcases hq with ⟨e0,z,rfl,H1,b2,K1,c2,d7,u⟩|⟨e0,rfl,d7,u⟩
    .cases n0 with
     | dir L=>exact absurd e0 (by show ¬ (2:Int)=1;decide)
     | file f=>
      have b0:gT T k p1 p2=if fh T qs≠0 then fh T qs else if 60000<=f.lk then 9 else jQ k (eX (T (cK T qs))) (bW qs):=by rw [c0.out,if_neg (by decide),o]
      have o0:=ae b0;obtain ⟨hX,x1,i1⟩:=lA H1;have y:=u.alloc (Y kX 73 (0,0));have Hz:=ae y.heap;have hE:=y.setRow (cs':=ints z.l);have n1:((r.alloc (Y kX 73 (0,0))).setRow r.heap.size (ints z.l)).cell? ⟨r.heap.size,1,U⟩=V (Z .i64 f.lk):=by rw [show f.lk=z.lk from K1.symm];exact hE.cell 1
      have HE:=ae (hE.to (by ac_rfl:_=vA x b v T k*(dJ u2 qs*(pt r.heap.size (Y (ints z.l) 73 (0,0))*(dJ f0 ps*(az pc p1*(az qc p2*F)))))));have D7:=ae (((D6.out.trans d7).alloc (Y kX 73 (0,0))).setRow r.heap.size (ints z.l));have Y0:=ae x1;have X0:=ae i1;have HX:=ae hX;have N1:=ae n1;have d2:=ae e0;have C:=ae o;clear d1 y hE hX x1 i1 n1 d7 u H1 b2 K1 c2 o HY c0 b0 e0 D6;unfold kX at *
      go_upto_region 3 with (refine wpList_store_row (by exact rfl) 73 (.tmp 7) (.tmp 18) (by exact rfl) r.heap.size (ints z.l) (by exact rfl) (by exact rfl) 73 _ (by with_reducible exact Hz.out) X0.out (by rw [HX.out];rfl) Y0.out ?_)
      generalize Z1:(r.alloc (Y #[Z .i64 0,Z .i64 0,Z .i64 0,Z .i64 0,Z .i64 0,Z .i64 0,Z .i64 0,Z .i64 0,Z .i64 0,Z .i64 0,Z .i64 0,Z .i64 0,Z .i64 0,Z .i64 0,Z .i64 0,Z .i64 0,Z .i64 0,Z .i64 0,Z .i64 0,Z .i64 0] 73 (0,0))).setRow r.heap.size (ints z.l)=w8 at *;generalize r.heap.size=nb at *;have f1:=ae (uZ i.out L1.out (fun g2 P hW=>ee hW) fR HE.out);clear Z1 Hz Y0 X0 HX
      go_wp2_with fail
      refine f1.out.mono ?_;rintro e g ⟨he,d9,h9⟩;have n1:g.cell? ⟨nb,1,U⟩=V (Z .i64 f.lk):=(h9.au.cell 1).trans ((HE.out.au.cell 1).symm.trans N1.out);have D9:=ae (D7.out.trans d9);clear f1 HE N1 D7 d9;rcases he with ⟨H0,rfl⟩|⟨l,rfl⟩
      .obtain ⟨t1,L,A,hp⟩:=xD i.out H0
       have m0:=EN O1.out t1;have b0:gT T k p1 p2=if 60000<=f.lk then 9 else jQ k L (bW qs):=by rw [o0.out,if_neg (by rw [H0];simp),A];rfl
       have g0:=ae b0;have r0:=ae fun e5 e6=>q0.out id f L rfl C.out A hp e5 e6;have hE:=i.out.pK _ _ A;have K0:=R1.out _ _ C.out;have j2:=i.out.lt C.out;have A1:=fun hl=>i.out.link C.out A K0 hn m0 hp hl;have u0:=ae A1;obtain ⟨d,G0⟩:∃ d,cK T qs=d:=⟨_,rfl⟩
       obtain ⟨nm,N0⟩:∃ nm,bW qs=nm:=⟨_,rfl⟩
       rw [G0,N0] at r0 u0 ⊢;rw [N0] at g0 m0 hp;rw [G0] at A;have y:=h9.alloc (Y #[Z .i64 (d:Int),W (str nm)] 92 (0,0));have dB:=ae (D9.out.alloc (Y #[Z .i64 (d:Int),W (str nm)] 92 (0,0)));have D1:=bR g (Y #[Z .i64 (d:Int),W (str nm)] 92 (0,0)) _ _ n1;have hC:=y.to (by ac_rfl:_=vA x b v T k*(pt g.heap.size (Y #[Z .i64 (d:Int),W (str nm)] 92 (0,0))*(dJ u2 qs*(pt nb (Y (ints z.l) 73 (0,0))*(dJ f0 ps*(az pc p1*(az qc p2*F)))))));have s0:(g.alloc (Y #[Z .i64 (d:Int),W (str nm)] 92 (0,0))).cell? ⟨g.heap.size,0,U⟩=V (Z .i64 (d:Int)):=y.cell 0;have s1:(g.alloc (Y #[Z .i64 (d:Int),W (str nm)] 92 (0,0))).cell? ⟨g.heap.size,1,U⟩=V (W (str nm)):=y.cell 1;have ha:=ae (Ac (child:=id) K0 (by omega) A hE m0 hC);have HB:=ae hC;have HD:=ae A;have HP:=ae hp;have q1:=i.out.Gq C.out;have i2:=ae fun w=>cT w 9 (by decide);have l2:nb<g.heap.size:=M2 g _ n1;clear y hC h9 A hE m0 hp b0 G0 N0 H0 t1 o0 q0 K0 A1 n1
       by_cases l0:60000<=f.lk
       .exact absurd ((by rw [g0.out,if_pos l0]:gT T k p1 p2=9).symm.trans E) (by decide)
       .have o1:f.lk<60000:=by omega
        have p0:=ae (show gT T k p1 p2=jQ k L nm by rw [g0.out,if_neg l0]);clear g0;obtain ⟨lk,L0⟩:∃ lk,f.lk=lk:=⟨_,rfl⟩
        rw [L0] at D1 l0 o1 q1;have V0:=ae L0;clear L0
        go_wp2_with fail
        generalize g.alloc (Y #[Z .i64 (d:Int),W (str nm)] 92 (0,0))=m2 at *;generalize g.heap.size=sp at *;refine ha.out.mono ?_;rintro e E1 hq;rcases hq with ⟨j,rfl,x0,D0⟩|⟨j,rfl,x0,D0⟩
        .have m1:L.length<3840:=by
          unfold jQ at j;rw [HP.out] at j;simp only [Option.isSome_none,Bool.false_eq_true,if_false] at j
          split at j
          .exact absurd j (by decide)
          .omega
         have g1:id≠d:=by rintro rfl;have h1:=C.out;have h2:=HD.out;rw [h1] at h2;cases h2
         have c1:eY (fu T d (L++[⟨id,nm⟩])) id=V f:=lq (by unfold fu;rw [aJ _ _ g1];exact C.out);have R0:wrap64 (f.lk+1)=f.lk+1:=by have:=V0.out;unfold wrap64;omega
         have i0:=D0.to (by unfold vA;ac_rfl:_=dF (x.more 5) b (eY (fu T d (L++[⟨id,nm⟩]))) (k+aU L.length-aU (L.length+1))*(pt v (bG b n)*(pt sp (Y #[Z .i64 (d:Int),W (str nm)] 92 (0,0))*(dJ u2 qs*(pt nb (Y (ints z.l) 73 (0,0))*(dJ f0 ps*(az pc p1*(az qc p2*F))))))));have v0:E1.cell? ⟨v,0,U⟩=V (ay b):=i0.ah.cell 0;have v1:E1.cell? ⟨v,1,U⟩=V (Z .i64 (n:Int)):=i0.ah.cell 1;have r1:=ae (Fp i0 c1 1 (by rw [R0];have:=V0.out;omega));have HW:=ae R0;have S1:=ae cO;have W0:=ae (r0.out (by rw [p0.out,j]) (u0.out m1));have S0:=ae (dB.out.trans x0);clear D0 i0 c1 R0 g1 m1 j x0 dB ha HB D1 s0 s1 l0 o1 q1 r0 u0 p0
         go_wp2_with fail
         refine r1.out.mono ?_;rintro e a2 ⟨rfl,Z0,F0⟩;rw [HW.out,show dp (eY (fu T d (L++[⟨id,nm⟩]))) id (V { f with lk:=f.lk+1 })=eY (ya T d id nm f L) from sE (fu T d (L++[⟨id,nm⟩])) id (.file { f with lk:=f.lk+1 })] at F0;have W1:=ae (W0.out a2 (S0.out.trans Z0) (F0.to (by unfold vA;ac_rfl:_=(pt sp (Y #[Z .i64 (d:Int),W (str nm)] 92 (0,0))*(dJ u2 qs*(pt nb (Y (ints z.l) 73 (0,0))*dJ f0 ps)))*(vA (x.more 8) b v (ya T d id nm f L) (k+aU L.length-aU (L.length+1))*(az pc p1*(az qc p2*F))))).right);clear r1 F0 Z0 S0 W0 v0 v1
         go_wp2_with fail
         refine (S1.out _).mono ?_;rintro e n2 ⟨rfl,rfl⟩
         go_wp2_with fail
         go_end0
         exact W1.out
        .exact absurd (p0.out.symm.trans E) j
      .exact absurd ((by rw [o0.out,if_pos l]:gT T k p1 p2=_).symm.trans E) l
    .have b0:(8:Int)=gT T k p1 p2:=by
      rw [c0.out,if_neg (by decide),o]
      cases n0 with
      | dir L=>rfl
      | file f=>exact absurd (i.out.files _ _ o) e0
     exact absurd (b0.trans E) (by decide)
   .exact absurd ((by rw [c0.out,if_pos l]:gT T k p1 p2=_).symm.trans E) l
end
section
variable {t:Pl} {q:Dk t.n} {s s':Ds} {T:Tr} {k m:Nat} {O:kY} {w:M} {F:ai} {p1 p2:List UInt8}
theorem mQ.pos (h:mQ t q s T k):∀ id y,T id=V y->0<id:=fun id y g=>(h.at_.has.wf (f:=y.af) (by unfold eY;rw [g];rfl)).2.1
theorem Kf (g:mQ t q s T k) (y:s.B<=1000000) (C:gT T k p1 p2=0) (h:ag w (eG t s m O*F)) :
  Calls Q 19 #[ay t.f,W (str p1),W (str p2)] w (PC t q m s O (BR T k p1 p2) F w):=by
 refine aH fun d0 l=>?_;have i:=(h.alloc (Y #[W (str p1)] 9 (0,0))).alloc (Y #[W (str p2)] 9 (0,0));simp only [E2] at i;have r:=ae (((aj.refl w).alloc (Y #[W (str p1)] 9 (0,0))).alloc (Y #[W (str p2)] 9 (0,0)))
 have A:=ae fun (pc qc:Nat) (w':M) (h':ag w' (eG t s m O*((az pc p1*az qc p2)*F)))=>
  ni g y 50 #[ay pc,ay qc] (az pc p1*az qc p2) (BR T k p1 p2) (enters func50 (by kernel_rfl) rfl)
   (fun x v b w1 b0 hw=>(Mx (x:=x) (b:=b) (v:=v) (k:=k) (pc:=pc) (qc:=qc) (F:=ez t m O*b0) (p1:=p1) (p2:=p2) g.hn g.ty g.pos C (hw.to (by ac_rfl))).mono fun e w' hq=>by simpa only [ax] using hq) h'
 have j:=ae i;clear C;clear h i g y
 go_enter func19,ntmps19
 go_wp2_with fail
 generalize (w.alloc (Y #[W (str p1)] 9 (0,0))).alloc (Y #[W (str p2)] 9 (0,0))=w1 at *;generalize w.heap.size=pc at *;refine (A.out pc (pc+1) _ (j.out.to (by unfold az;ac_rfl))).mono ?_;rintro e w2 ⟨c,T',k',s',z,rfl,o,E,u⟩;have c0:=ae (l.out _ _ ⟨c,T',k',s',z,rfl,r.out.trans o,E,(u.to (by ac_rfl:_=(az pc p1*az (pc+1) p2)*(eG t s' m O*F))).right⟩);clear A r j o E z u l
 go_wp2_with fail
 exact c0.out
end
section
variable {n:Nat} {x:Fx n} {b v pc k:Nat} {T:Tr} {w:M} {F:ai} {p:List UInt8}
theorem G5 (ht:Tidy n T) (h:ag w (vA x b v T k*(az pc p*F))) :
  Calls Q 49 #[ay v,ay pc] w (RR x b v (sf T k p) (az pc p*F) w):=by
 refine aH fun n1 HQ=>?_;have cp:w.cell? ⟨pc,0,U⟩=V (W (str p)):=h.ah.cell 0;have g0:=ae h;have C:=ae ht
 have E:Hid (∀ c,c≠0->c=iJ T p->∀ (w':M),aj w w'->ag w' (vA x b v T k*(az pc p*F))->n1 (.panicked (lG c)) w'):=fun c r he w' d l=>
  HQ.out _ _ ⟨c,T,k,0,⟨he,fun h=>absurd h r⟩,fun h=>absurd h r,.inr ⟨r,rfl⟩,d,by decide,qW (ag.sV (x:=x) 0 (l.to (by unfold vA;ac_rfl:_=dF x b (eY T) k*(pt v (bG b n)*(az pc p*F))))|>.to (by ac_rfl))⟩
 clear h ht
 cases l:aZ p with
 | none=>
  have hk:=ae (lh (w:=w) l);have r:(1:Int)=iJ T p:=by unfold iJ;rw [l]
  have o:=ae r;clear l HQ r
  go_enter func49,ntmps49
  go_wp2_with fail
  refine hk.out.mono ?_;rintro e w2 ⟨rfl,d2,h2⟩;exact ⟨rfl,E.out 1 (by decide) o.out _ d2 (h2.dN g0.out)⟩
 | some ps=>
  obtain ⟨q1,hl⟩:=cV l;have hk:=ae (dz (w:=w) l)
  have A:=ae (show iJ T p=if (aN T 1 ps).1≠0 then (aN T 1 ps).1 else match T (aN T 1 ps).2 with
   | some (.dir j)=>if ps=[]\/j≠[] then 11 else 0
   | _=>8 by unfold iJ;rw [l];rfl)
  have hy:=fun h0=>C.out.walk ps C.out.root.choose_spec h0;have V0:=fun o0=>ym (T:=T) (ps:=ps) o0;have HY:=ae hy;have HL:=ae hl;have b0:=ae V0
  have c0:=ae fun (id:Nat) (L:List aQ) (i:Nat) (o0:ps≠[]) (e1:aN T 1 ps=(0,id)) (e2:T id=V (.dir [])) (e3:T (cK T ps)=V (.dir L)) (e4:iX L (bW ps)=V i) (e5:iJ T p=0) (e6:Tidy n (s4 T (cK T ps) id L i)) (w':M) (d:aj w w') (r1:ag w' (vA (x.more 10) b v (s4 T (cK T ps) id L i) (k+aU L.length-aU (L.length-1)+bE (dR 1 []).pr)*(az pc p*F)))=>
   HQ.out (K (I #[])) w' ⟨0,_,_,10,⟨e5.symm,fun _=>⟨ps,id,L,i,l,o0,e1,e2,e3,e4,rfl,rfl⟩⟩,fun _=>e6,.inl ⟨rfl,rfl⟩,d,by decide,r1⟩
  clear l HQ q1 hl hy V0
  go_enter func49,ntmps49
  go_wp2_with fail
  refine hk.out.mono ?_;rintro e w2 ⟨r0,rfl,d2,h2⟩;have h3:=(h2.under g0.out).to (by ac_rfl:_=vA x b v T k*(dJ r0 ps*(az pc p*F)));have hw:=ae (eR C.out HL.out fR h3);clear cp hk h2 h3 g0;obtain ⟨pw,d1⟩:∃ pw,aN T 1 ps=pw:=⟨_,rfl⟩
  rw [d1] at hw HY A c0 b0;clear d1;obtain ⟨wc,id⟩:=pw;dsimp only at hw HY A b0
  go_wp2_with fail
  refine hw.out.mono ?_;rintro e w3 ⟨he,d3,h3⟩;clear hw;have D3:=ae (d2.trans d3);clear d2 d3;rcases he with ⟨rfl,rfl⟩|⟨r,rfl⟩
  .obtain ⟨s0,hy⟩:=HY.out rfl
   have Y0:=ae (jH hy h3);obtain ⟨ua,uc,rfl⟩:=ee (h3.to (by ac_rfl:_=dJ r0 ps*(vA x b v T k*(az pc p*F))));clear h3
   go_wp2_with fail
   refine Y0.out.mono ?_;rintro e g ⟨z,rfl,j1,k1,w1,l1,d7,h7⟩;obtain ⟨hX,c1,S0⟩:=lA j1;have hB:=h7.alloc (Y kX 73 (0,0));have Hz:=ae hB.heap;have hE:=hB.setRow (cs':=ints z.l);have n0:((g.alloc (Y kX 73 (0,0))).setRow g.heap.size (ints z.l)).cell? ⟨g.heap.size,0,U⟩=V (Z .i64 s0.af.kd):=by rw [<- k1];exact hE.cell 0
   have n2:((g.alloc (Y kX 73 (0,0))).setRow g.heap.size (ints z.l)).cell? ⟨g.heap.size,2,U⟩=V (Z .i64 (s0.af.sz:Int)):=by rw [<- l1];exact hE.cell 2
   have HE:=ae (hE.to (by ac_rfl:_=vA x b v T k*(dJ (N ua ps.length uc) ps*(pt g.heap.size (Y (ints z.l) 73 (0,0))*(az pc p*F)))));have D7:=ae (((D3.out.trans d7).alloc (Y kX 73 (0,0))).setRow g.heap.size (ints z.l));have F0:=ae c1;have D0:=ae S0;have HX:=ae hX;have N0:=ae n0;have N2:=ae n2;have y:=ae hy;clear Y0 hB hE hX c1 S0 n0 n2 d7 h7 j1 k1 w1 l1 hy HY D3;unfold kX at *
   go_upto_region 3 with (refine wpList_store_row (by exact rfl) 73 (.tmp 5) (.tmp 13) (by exact rfl) g.heap.size (ints z.l) (by exact rfl) (by exact rfl) 73 _ (by with_reducible exact Hz.out) D0.out (by rw [HX.out];rfl) F0.out ?_)
   generalize s1:(g.alloc (Y #[Z .i64 0,Z .i64 0,Z .i64 0,Z .i64 0,Z .i64 0,Z .i64 0,Z .i64 0,Z .i64 0,Z .i64 0,Z .i64 0,Z .i64 0,Z .i64 0,Z .i64 0,Z .i64 0,Z .i64 0,Z .i64 0,Z .i64 0,Z .i64 0,Z .i64 0,Z .i64 0] 73 (0,0))).setRow g.heap.size (ints z.l)=w8 at *;generalize g.heap.size=nb at *;clear s1 Hz F0 D0 HX;have n0:=N0.out;have n2:=N2.out;clear N0 N2
   cases s0 with
   | file f=>
    have d0:(8:Int)=iJ T p:=by rw [A.out,if_neg (by decide),y.out]
    have o:=ae d0;have T0:f.kd=1:=C.out.files _ _ y.out;have g1:w8.cell? ⟨nb,0,U⟩=V (Z .i64 1):=by rw [<- T0];exact n0
    have f0:=ae fun w=>cT w 8 (by decide);clear d0 T0 n0 n2 A c0
    go_wp2_with fail
    refine (f0.out _).mono ?_;rintro e w9 ⟨rfl,rfl⟩;exact ⟨rfl,E.out 8 (by decide) o.out _ D7.out (HE.out.to (by ac_rfl:_=(dJ (N ua ps.length uc) ps*pt nb (Y (ints z.l) 73 (0,0)))*(vA x b v T k*(az pc p*F)))).right⟩
   | dir j=>
    have g1:w8.cell? ⟨nb,0,U⟩=V (Z .i64 2):=n0;have i1:w8.cell? ⟨nb,2,U⟩=V (Z .i64 ((dR 1 j).sz:Int)):=n2;have d0:iJ T p=if ps=[]\/j≠[] then 11 else 0:=by rw [A.out,if_neg (by decide),y.out]
    have o:=ae d0;clear n0 n2 d0 A
    by_cases u:ps=[]\/j≠[]
    .have i0:=ae (show (11:Int)=iJ T p by rw [o.out,if_pos u])
     have f0:=ae fun w=>cT w 11 (by decide);have X0:=ae (E.out 11 (by decide) i0.out _ D7.out (HE.out.to (by ac_rfl:_=(dJ (N ua ps.length uc) ps*pt nb (Y (ints z.l) 73 (0,0)))*(vA x b v T k*(az pc p*F)))).right)
     by_cases hps:ps=[]
     .have m0:(ps.length:Int)=0:=by rw [hps];rfl
      clear o i0 c0 E b0 HE u hps D7;generalize ps.length=ln at *
      go_wp2_with fail
      refine (f0.out _).mono ?_;rintro e w9 ⟨rfl,rfl⟩;exact ⟨rfl,X0.out⟩
     .have hM:j≠[]:=u.elim (fun h=>absurd h hps) (fun h=>h)
      have m0:¬ (ps.length:Int)=0:=by have:=List.length_pos_iff.2 hps;omega
      have q0:(0:Int)<((dR 1 j).sz:Int):=by have:=List.length_pos_iff.2 hM;show (0:Int)<((32*j.length:Nat):Int);omega
      clear o i0 c0 E b0 HE u hps hM D7;generalize ps.length=ln at *;generalize ((dR 1 j).sz:Int)=sz at *
      go_wp2_with fail
      refine (f0.out _).mono ?_;rintro e w9 ⟨rfl,rfl⟩;exact ⟨rfl,X0.out⟩
    .have hps:ps≠[]:=fun h=>u (.inl h)
     have hM:j=[]:=Classical.byContradiction fun h=>u (.inr h);subst hM;have Z0:iJ T p=0:=by rw [o.out,if_neg u]
     obtain ⟨f1,L,i,hi,hd,hp,l0⟩:=b0.out hps (by first|rfl|trivial);have L0:=C.out.gone hd hi l0 y.out rfl (by have:=C.out.Dn hd (List.getElem_mem hi);rw [l0] at this;show (if id=1 then (0:Int) else 1)=1;rw [if_neg this]);have x0:=ae (c0.out id L i hps rfl y.out hd hp Z0 L0);have R0:id≠cK T ps:=by intro e;have h1:=y.out;rw [e,hd] at h1;cases h1;simp at hi
     have H0:eY (fu T (cK T ps) (mR L i)) id=V (dR 1 []):=jw (by unfold fu;rw [aJ _ _ R0];exact y.out);have p0:=ae (sY C.out HL.out hps fR f1 hd hp HE.out);have u0:=ae H0;have m1:=ae cO;have m0:¬ (ps.length:Int)=0:=by have:=List.length_pos_iff.2 hps;omega
     have q0:((dR 1 []).sz:Int)=0:=rfl;rw [q0] at i1;clear o c0 E b0 HE u hps Z0 f1 hp l0 L0 R0 H0 q0 HL;generalize hD:cK T ps=d at *;obtain ⟨ln,W0⟩:∃ ln,ps.length=ln:=⟨_,rfl⟩
     rw [W0] at p0 m0 ⊢;clear W0
     go_wp2_with fail
     refine p0.out.mono ?_;rintro e w9 ⟨he,d9,h9⟩;obtain rfl:=he.elim (fun h=>h.2) (fun h=>absurd rfl h.1);have e0:=h9.to (by unfold vA;ac_rfl:_=dF (x.more 9) b (eY (fu T d (mR L i))) (k+aU L.length-aU (L.length-1))*(pt v (bG b n)*(dJ (N ua ln uc) ps*(pt nb (Y (ints z.l) 73 (0,0))*(az pc p*F)))));have v0:w9.cell? ⟨v,0,U⟩=V (ay b):=e0.ah.cell 0;have v1:w9.cell? ⟨v,1,U⟩=V (Z .i64 (n:Int)):=e0.ah.cell 1;have K0:=ae (Kj e0 u0.out);have D9:=ae (D7.out.trans d9);clear p0 h9 e0 d9 D7 u0 g1 i1 he
     go_wp2_with fail
     refine K0.out.mono ?_;rintro e t1 ⟨rfl,G0,k0⟩;rw [By] at k0;have o1:=ae (x0.out t1 (D9.out.trans G0) (k0.to (by unfold vA;ac_rfl:_=(dJ (N ua ln uc) ps*pt nb (Y (ints z.l) 73 (0,0)))*(vA (x.more 10) b v (s4 T d id L i) (k+aU L.length-aU (L.length-1)+bE (dR 1 []).pr)*(az pc p*F)))).right);clear K0 k0 G0 D9 x0 v0 v1
     go_wp2_with fail
     refine (m1.out _).mono ?_;rintro e x1 ⟨rfl,rfl⟩
     go_wp2_with fail
     go_end0
     exact o1.out
  .exact ⟨rfl,E.out _ r (by rw [A.out,if_pos r]) _ D3.out (h3.to (by ac_rfl:_=dJ r0 ps*(vA x b v T k*(az pc p*F)))).right⟩
end
section
variable {t:Pl} {q:Dk t.n} {s s':Ds} {T:Tr} {k m:Nat} {O:kY} {w:M} {F:ai} {p:List UInt8}
theorem FR (g:mQ t q s T k) (y:s.B<=1000000) (h:ag w (eG t s m O*F)) :
  Calls Q 18 #[ay t.f,W (str p)] w (PC t q m s O (sf T k p) F w):=by
 refine aH fun c0 j=>?_;have u:=h.alloc (Y #[W (str p)] 9 (0,0));have o:=ae ((aj.refl w).alloc (Y #[W (str p)] 9 (0,0)))
 have A:=ae fun (pc:Nat) (w':M) (h':ag w' (eG t s m O*(az pc p*F)))=>
  ni g y 49 #[ay pc] (az pc p) (sf T k p) (enters func49 (by kernel_rfl) rfl)
   (fun x v b w1 E hw=>G5 (x:=x) (b:=b) (v:=v) (k:=k) (pc:=pc) (F:=ez t m O*E) (p:=p) g.ty hw) h'
 have i:=ae u;clear h u g y
 go_enter func18,ntmps18
 go_wp2_with fail
 generalize w.alloc (Y #[W (str p)] 9 (0,0))=w1 at *;generalize w.heap.size=pc at *;refine (A.out pc _ (i.out.to (by unfold az;ac_rfl))).mono ?_;rintro e w2 ⟨c,T',k',s',z,rfl,l,C,r⟩;have b0:=ae (j.out _ _ ⟨c,T',k',s',z,rfl,o.out.trans l,C,(r.to (by ac_rfl:_=az pc p*(eG t s' m O*F))).right⟩);clear A o i l C z r j
 go_wp2_with fail
 exact b0.out
end
end Go.Proofs.Cl
namespace Go.SL
def Gh (O:List (Int × (Nat × Nat))) (id:Nat):Bool:=O.any fun p=>p.2.1 == id
end Go.SL
namespace Go.Proofs.Cl
open Go.RowKit Go.SL Go.Proofs.Nn Go.Proofs.Ba Go.Proofs.Su Go.Proofs.Fs
attribute [local go_sem] Oper.semAt_some
section
variable {t:Pl} {m id:Nat} {O:kY} {w:M} {F:ai}
theorem Oq {a c:Nat × Nat} (h:Cs a=Cs c):a.1=c.1:=by
 unfold Cs at h;injection h with h
 have g:=congrArg (fun x:Array G=>x[0]?) h;simp at g;omega
def MM (m:Nat) (o:Obj) (O:kY) (id r:Nat) (i:ai) (w0:M) (k:Nat) (wr:M):Prop:=
 ∃ D g,O.length<=D.length+k/\Iter m o (lD O) D g/\(∀ x:Int × (Nat × Nat),(x.1,Cs x.2) ∈ D->x.2.1≠id)/\ag wr (pt r g*(pt m o*i))/\aj w0 wr
theorem Dw (h:ag w (ez t m O*F)):Calls Q 36 #[ay t.f,Z .i64 (id:Int)] w fun e w'=>e = K (.bool (Gh O id))/\aj w w'/\ag w' (ez t m O*F):=by
 refine aH fun R0 HQ=>?_;have c1:=zp h;have h1:ag w (mp m (lD O)*(pt t.f (gU t (.map (V m)))*F)):=h.to (by unfold ez;ac_rfl);obtain ⟨o,ho,hb,i⟩:=h1.nK;obtain ⟨it,G0,m0⟩:=kK (P:=Q) underlying64 hb ho;have r:=ae fun (b:Bool) (u0:b=Gh O id) (w':M) (d:aj w w') (hs:ag w' (pt m o*(pt t.f (gU t (.map (V m)))*F)))=>HQ.out (K (.bool b)) w' ⟨by rw [u0],d,(hs.tG ho).to (by unfold ez;ac_rfl)⟩;generalize hZ:pt t.f (gU t (.map (V m)))*F=e0 at *;have h0:MM m o O id w.heap.size e0 w O.length (w.alloc it):=⟨[],it,by simp,m0,fun x g=>(by cases g),i.alloc it,(aj.refl w).alloc it⟩
 have k0:=ae h0;clear h h1 i hb hZ m0 h0 ho HQ
 go_enter func36,ntmps36
 go_wp2_with fail
 go_loopg [] O.length (fun k wr=>MM m o O id w.heap.size e0 w k wr)
 case atStart=>exact k0.out
 case round=>
  obtain ⟨D,T0,d0,b0,u,j,y⟩:=hrel;clear G0 k0 c1;have E:wr.heap[m]?=V o:=j.ah.heap;have HD:=ae u;have N0:=ae d0;rcases j.next (P:=Q) E b0 with ⟨r0,p0⟩|⟨p,K0,w2,i,q0,p0,g0,c0,i0,l0,x0⟩
  .have o0:false=Gh O id:=by
    symm;unfold Gh;rw [List.any_eq_false];intro x g;have:=u x (r0.mem_iff.2 (List.mem_map.2 ⟨x,g,rfl⟩));simpa using this
   have f0:=ae (r.out false o0 wr y j.right);clear r0 j y E b0 u d0 r o0
   go_wp2_with fail
   exact f0.out
  .obtain ⟨x,g,H0⟩:=List.mem_map.1 i
   obtain ⟨x1,z,x3⟩:=x;subst H0;dsimp only at p0 x0;have C:=g0.alloc (Y #[Z .i64 (z:Int),Z .i64 (x3:Int)] 78 (0,0));have A:=(y.trans i0).alloc (Y #[Z .i64 (z:Int),Z .i64 (x3:Int)] 78 (0,0))
   by_cases hq:z=id
   .have s0:true=Gh O id:=by
     symm;unfold Gh;rw [List.any_eq_true];exact ⟨_,g,by simpa using hq⟩
    have f0:=ae (r.out true s0 _ A C.right.right);clear E b0 u d0 r s0 C A j g0 y i0 i q0 c0 l0 g HD;subst hq
    go_wp2_with fail
    exact f0.out
   .have S0:¬ (z:Int)=(id:Int):=by omega
    have n0:=yF c0;rw [R2,S2] at n0;have F0:(lD O).length=O.length:=H2 _
    have HN:=ae (show MM m o O id w.heap.size e0 w (gk-1) (w2.alloc (Y #[Z .i64 (z:Int),Z .i64 (x3:Int)] 78 (0,0))) from ⟨_,K0,by rw [R2,S2];omega,c0,fun L0 l=>by
     rcases List.mem_append.1 l with l|l
     .exact HD.out L0 l
     .rw [List.mem_singleton] at l
      have:=Oq (congrArg Prod.snd l);dsimp only at this;rw [this];exact hq,C.right,A⟩)
    have D0:gk-1<gk:=by omega
    clear E b0 u d0 r C A j g0 y i0 i q0 c0 l0 g hq n0 F0
    go_wp2_with fail
    go_roundg (gk-1)
    case measure=>exact D0
    case rel=>exact HN.out
end
end Go.Proofs.Cl
namespace Go.SL
def fS (T:Tr) (O:List (Int × (Nat × Nat))) (p:List UInt8):Int:=match aZ p with
 | none=>1
 | some ps=>if (aN T 1 ps).1≠0 then (aN T 1 ps).1 else match T (aN T 1 ps).2 with
  | some (.file f)=>if f.lk=1/\Gh O (aN T 1 ps).2=true then 10 else 0
  | _=>8
def qv (T:Tr) (k:Nat) (O:List (Int × (Nat × Nat))) (p:List UInt8) (c:Int) (T':Tr) (k':Nat):Prop:=
 c=fS T O p/\(c=0->∃ ps id f L i,aZ p=V ps/\ps≠[]/\aN T 1 ps=(0,id)/\T id=V (.file f)/\T (cK T ps)=V (.dir L)/\iX L (bW ps)=V i /\
  ((1<f.lk/\T'=zR T (cK T ps) id L i f/\k'=k+aU L.length-aU (L.length-1))\/(f.lk=1/\T'=s4 T (cK T ps) id L i/\k'=k+aU L.length-aU (L.length-1)+bE f.pr)))
end Go.SL
namespace Go.Proofs.Cl
open Go.RowKit Go.SL Go.Proofs.Nn Go.Proofs.Ba Go.Proofs.Su Go.Proofs.Fs
attribute [local go_sem] Oper.semAt_some
section
variable {t:Pl} {x:Fx t.n} {b v pc fc k m:Nat} {T:Tr} {O:kY} {w:M} {F:ai} {p:List UInt8}
theorem DN (ht:Tidy t.n T) (z1:∀ id f,T id=V (.file f)->f.lk<=65535) (h:ag w (vA x b v T k*(az pc p*(bd t fc*(ez t m O*F))))) :
  Calls Q 35 #[ay v,ay pc,ay fc] w (RR x b v (qv T k O p) (az pc p*(bd t fc*(ez t m O*F))) w):=by
 refine aH fun Y1 HQ=>?_;have cp:w.cell? ⟨pc,0,U⟩=V (W (str p)):=h.ah.cell 0;have T0:=ae h;have r:=ae ht;have j1:=ae z1
 have k0:Hid (∀ c,c≠0->c=fS T O p->∀ (w':M),aj w w'->ag w' (vA x b v T k*(az pc p*(bd t fc*(ez t m O*F))))->Y1 (.panicked (lG c)) w'):=fun c hc he w' d A=>
  HQ.out _ _ ⟨c,T,k,0,⟨he,fun h=>absurd h hc⟩,fun h=>absurd h hc,.inr ⟨hc,rfl⟩,d,by decide,qW (ag.sV (x:=x) 0 (A.to (by unfold vA;ac_rfl:_=dF x b (eY T) k*(pt v (bG b t.n)*(az pc p*(bd t fc*(ez t m O*F))))))|>.to (by ac_rfl))⟩
 clear h ht z1
 cases A:aZ p with
 | none=>
  have hk:=ae (lh (w:=w) A);have hc:(1:Int)=fS T O p:=by unfold fS;rw [A]
  have HC:=ae hc;clear A HQ hc
  go_enter func35,ntmps35
  go_wp2_with fail
  refine hk.out.mono ?_;rintro e w2 ⟨rfl,d2,h2⟩;exact ⟨rfl,k0.out 1 (by decide) HC.out _ d2 (h2.dN T0.out)⟩
 | some ps=>
  obtain ⟨b2,hl⟩:=cV A;have hk:=ae (dz (w:=w) A)
  have g0:=ae (show fS T O p=if (aN T 1 ps).1≠0 then (aN T 1 ps).1 else match T (aN T 1 ps).2 with
   | some (.file f)=>if f.lk=1/\Gh O (aN T 1 ps).2=true then 10 else 0
   | _=>8 by unfold fS;rw [A])
  have g:=fun h0=>r.out.walk ps r.out.root.choose_spec h0;have x1:=fun c1=>ym (T:=T) (ps:=ps) c1;have E1:ps=[]->(aN T 1 ps).2=1:=fun e=>by rw [e];rfl
  have HY:=ae g;have HL:=ae hl;have K0:=ae x1;have N0:=ae E1
  have V0:=ae fun (id:Nat) (f:AF) (L:List aQ) (i:Nat) (c1:ps≠[]) (e1:aN T 1 ps=(0,id)) (e2:T id=V (.file f)) (e3:T (cK T ps)=V (.dir L)) (e4:iX L (bW ps)=V i) (e5:fS T O p=0) (T':Tr) (k':Nat) (e6:Tidy t.n T') (e7:(1<f.lk/\T'=zR T (cK T ps) id L i f/\k'=k+aU L.length-aU (L.length-1))\/(f.lk=1/\T'=s4 T (cK T ps) id L i/\k'=k+aU L.length-aU (L.length-1)+bE f.pr)) (d1:Nat) (hj:d1<=24) (w':M) (d:aj w w') (c2:ag w' (vA (x.more d1) b v T' k'*(az pc p*(bd t fc*(ez t m O*F)))))=>
   HQ.out (K (I #[])) w' ⟨0,_,_,d1,⟨e5.symm,fun _=>⟨ps,id,f,L,i,A,c1,e1,e2,e3,e4,e7⟩⟩,fun _=>e6,.inl ⟨rfl,rfl⟩,d,hj,c2⟩
  clear A HQ b2 hl g x1 E1
  go_enter func35,ntmps35
  go_wp2_with fail
  refine hk.out.mono ?_;rintro e w2 ⟨f1,rfl,d2,h2⟩;have h3:=(h2.under T0.out).to (by ac_rfl:_=vA x b v T k*(dJ f1 ps*(az pc p*(bd t fc*(ez t m O*F)))));have hw:=ae (eR r.out HL.out fR h3);clear cp hk h2 h3 T0;obtain ⟨pw,D1⟩:∃ pw,aN T 1 ps=pw:=⟨_,rfl⟩
  rw [D1] at hw HY g0 V0 K0 N0;clear D1;obtain ⟨wc,id⟩:=pw;dsimp only at hw HY g0 K0 N0
  go_wp2_with fail
  refine hw.out.mono ?_;rintro e w3 ⟨he,d3,h3⟩;clear hw;have D3:=ae (d2.trans d3);clear d2 d3;rcases he with ⟨rfl,rfl⟩|⟨hc,rfl⟩
  .obtain ⟨K1,g⟩:=HY.out rfl
   have s1:=ae (lz g h3);obtain ⟨u,y,rfl⟩:=ee (h3.to (by ac_rfl:_=dJ f1 ps*(vA x b v T k*(az pc p*(bd t fc*(ez t m O*F))))));clear h3
   go_wp2_with fail
   refine s1.out.mono ?_;rintro e E hq;rcases hq with ⟨S0,z,rfl,L1,i2,O1,j2,d7,h7⟩|⟨S0,rfl,d7,h7⟩
   .cases K1 with
    | dir L=>exact absurd S0 (by show ¬ (2:Int)=1;decide)
    | file f=>
     have hps:ps≠[]:=fun e=>by have h1:=N0.out e;rw [h1] at g;obtain ⟨L,hL⟩:=r.out.root;rw [hL] at g;cases g
     have i0:=ae (show fS T O p=if f.lk=1/\Gh O id=true then 10 else 0 by rw [g0.out,if_neg (by decide),g]);obtain ⟨H1,L,i,hi,hd,hp,R0⟩:=K0.out hps (by first|rfl|trivial)
     have Z0:1<=f.lk:=by
      have hp:=wC (r.out.lt hd) hd (List.getElem_mem hi);rw [R0] at hp;have:=r.out.ref id;rw [g] at this;simp only [Cq] at this;omega
     have X0:=j1.out _ _ g;have q0:=ae (V0.out id f L i hps rfl g hd hp);have L0:=ae (r.out.less hd hi R0 g);have G0:=ae fun (e:f.lk=1)=>r.out.gone hd hi R0 g rfl e;have t1:id≠cK T ps:=by intro e;rw [e,hd] at g;cases g
     have r1:eY (fu T (cK T ps) (mR L i)) id=V f:=lq (by unfold fu;rw [aJ _ _ t1];exact g);have o0:=ae r1;obtain ⟨hX,A1,w1⟩:=lA L1;have hB:=h7.alloc (Y kX 73 (0,0));have Hz:=ae hB.heap;have hE:=hB.setRow (cs':=ints z.l);have n1:((E.alloc (Y kX 73 (0,0))).setRow E.heap.size (ints z.l)).cell? ⟨E.heap.size,1,U⟩=V (Z .i64 f.lk):=by rw [show f.lk=z.lk from O1.symm];exact hE.cell 1
     have o1:=hE.to (by ac_rfl:_=vA x b v T k*(dJ (N u ps.length y) ps*(pt E.heap.size (Y (ints z.l) 73 (0,0))*(az pc p*(bd t fc*(ez t m O*F))))));have HE:=ae o1;have F0:=ae fun (w':M) (h':ag w' (vA x b v T k*(dJ (N u ps.length y) ps*(pt E.heap.size (Y (ints z.l) 73 (0,0))*(az pc p*(bd t fc*(ez t m O*F)))))))=>sY r.out HL.out hps fR H1 hd hp h';have D7:=ae (((D3.out.trans d7).alloc (Y kX 73 (0,0))).setRow E.heap.size (ints z.l));have m1:=ae A1;have l1:=ae w1;have HX:=ae hX;have N1:=ae n1;have k2:¬ (ps.length:Int)=0:=by have:=List.length_pos_iff.2 hps;omega
     clear s1 hB hE o1 hX A1 w1 n1 d7 h7 L1 i2 O1 j2 g HY g0 D3 S0 hps H1 hd hp R0 r1 t1 V0 K0 N0 r hi j1;unfold kX at *
     go_upto_region 3 with (refine wpList_store_row (by exact rfl) 73 (.tmp 6) (.tmp 14) (by exact rfl) E.heap.size (ints z.l) (by exact rfl) (by exact rfl) 73 _ (by with_reducible exact Hz.out) l1.out (by rw [HX.out];rfl) m1.out ?_)
     generalize f2:(E.alloc (Y #[Z .i64 0,Z .i64 0,Z .i64 0,Z .i64 0,Z .i64 0,Z .i64 0,Z .i64 0,Z .i64 0,Z .i64 0,Z .i64 0,Z .i64 0,Z .i64 0,Z .i64 0,Z .i64 0,Z .i64 0,Z .i64 0,Z .i64 0,Z .i64 0,Z .i64 0,Z .i64 0] 73 (0,0))).setRow E.heap.size (ints z.l)=w8 at *;generalize E.heap.size=C at *;clear f2 Hz m1 l1 HX HL;have H0:=ae fun (w':M) (h':ag w' (ez t m O*(vA x b v T k*((dJ (N u ps.length y) ps*(pt C (Y (ints z.l) 73 (0,0))*(az pc p*bd t fc)))*F))))=>Dw (id:=id) h';have f0:w8.cell? ⟨fc,0,U⟩=V (ay t.f):=HE.out.aK.cell 0;have n1:=N1.out;have k1:=ae cO;generalize hD:cK T ps=d at *;generalize ps.length=ln at *
     by_cases j:f.lk=1
     .rw [j] at N1 n1
      have hH:=HE.out.to (by ac_rfl:_=ez t m O*(vA x b v T k*((dJ (N u ln y) ps*(pt C (Y (ints z.l) 73 (0,0))*(az pc p*bd t fc)))*F)));have D0:=ae (H0.out w8 hH)
      cases hb:Gh O id with
      | true=>
       have q1:(10:Int)=fS T O p:=by rw [i0.out,if_pos ⟨j,hb⟩]
       have R1:=ae q1;rw [hb] at D0;have Z1:=ae fun w=>cT w 10 (by decide);clear q1 hb j i0 q0 L0 G0 o0 H0 hH F0 Z0 X0
       go_wp2_with fail
       refine D0.out.mono ?_;rintro e w9 ⟨rfl,d9,l⟩
       go_wp2_with fail
       refine (Z1.out _).mono ?_;rintro e c0 ⟨rfl,rfl⟩;exact ⟨rfl,k0.out 10 (by decide) R1.out _ (D7.out.trans d9) (l.to (by ac_rfl:_=(dJ (N u ln y) ps*pt C (Y (ints z.l) 73 (0,0)))*(vA x b v T k*(az pc p*(bd t fc*(ez t m O*F)))))).right⟩
      | false=>
       have o:fS T O p=0:=by rw [i0.out,if_neg];rintro ⟨-,h⟩;rw [hb] at h;cases h
       rw [hb] at D0;have d0:=ae o;have p0:=ae j;clear hb i0 H0 hH Z0 X0 k0 o j
       go_wp2_with fail
       refine D0.out.mono ?_;rintro e w9 ⟨rfl,d9,l⟩;have l0:=l.to (by ac_rfl:_=vA x b v T k*(dJ (N u ln y) ps*(pt C (Y (ints z.l) 73 (0,0))*(az pc p*(bd t fc*(ez t m O*F))))));have D9:=ae (D7.out.trans d9);have o:=d0.out;have j:=p0.out;clear l d9 D0 D7 n1 f0 d0 p0;have i1:=ae l0;have d0:=ae o;have p0:=ae j;clear l0 o j
       go_wp2_with fail
       have l0:=i1.out;have o:=d0.out;have j:=p0.out;clear i1 d0 p0;refine (F0.out _ l0).mono ?_;rintro e c0 ⟨he,s0,l⟩;obtain rfl:=he.elim (fun h=>h.2) (fun h=>absurd rfl h.1);have n1:c0.cell? ⟨C,1,U⟩=V (Z .i64 1):=(l.au.cell 1).trans ((HE.out.au.cell 1).symm.trans N1.out);have b0:=l.to (by unfold vA;ac_rfl:_=dF (x.more 9) b (eY (fu T d (mR L i))) (k+aU L.length-aU (L.length-1))*(pt v (bG b t.n)*(dJ (N u ln y) ps*(pt C (Y (ints z.l) 73 (0,0))*(az pc p*(bd t fc*(ez t m O*F)))))));have v0:c0.cell? ⟨v,0,U⟩=V (ay b):=b0.ah.cell 0;have v1:c0.cell? ⟨v,1,U⟩=V (Z .i64 (t.n:Int)):=b0.ah.cell 1;have x0:=ae (Kj b0 o0.out);have r0:=ae (q0.out o _ _ (G0.out j) (.inr ⟨j,rfl,rfl⟩) 10 (by decide));have n0:=ae (D9.out.trans s0);clear F0 l b0 s0 he HE N1 q0 L0 G0 o0 D9 j
       go_wp2_with fail
       refine x0.out.mono ?_;rintro e g1 ⟨rfl,u0,e0⟩;rw [By] at e0;have W0:=ae (r0.out g1 (n0.out.trans u0) (e0.to (by unfold vA;ac_rfl:_=(dJ (N u ln y) ps*pt C (Y (ints z.l) 73 (0,0)))*(vA (x.more 10) b v (s4 T d id L i) (k+aU L.length-aU (L.length-1)+bE f.pr)*(az pc p*(bd t fc*(ez t m O*F)))))).right);clear x0 e0 u0 n0 r0 v0 v1
       go_wp2_with fail
       refine (k1.out _).mono ?_;rintro e g2 ⟨rfl,rfl⟩
       go_wp2_with fail
       go_end0
       exact W0.out
     .have y1:1<f.lk:=by omega
      have o:fS T O p=0:=by rw [i0.out,if_neg fun h=>j h.1]
      have m0:wrap64 (f.lk+-1)=f.lk-1:=by unfold wrap64;omega
      have X1:=ae m0;have d0:=ae o;have V1:=ae (q0.out o _ _ L0.out (.inl ⟨y1,rfl,rfl⟩) 12 (by decide));have D9:=D7;obtain ⟨lk,Y0⟩:∃ lk,f.lk=lk:=⟨_,rfl⟩
      have S1:=ae Y0;rw [Y0] at n1 j y1 Z0 X0 N1;clear Y0 m0 o i0 H0 k0
      go_wp2_with fail
      have l0:=HE.out;have o:=d0.out;have m0:=X1.out;refine (F0.out _ l0).mono ?_;rintro e c0 ⟨he,s0,l⟩;obtain rfl:=he.elim (fun h=>h.2) (fun h=>absurd rfl h.1);have n1:c0.cell? ⟨C,1,U⟩=V (Z .i64 lk):=(l.au.cell 1).trans ((HE.out.au.cell 1).symm.trans N1.out);have b0:=l.to (by unfold vA;ac_rfl:_=dF (x.more 9) b (eY (fu T d (mR L i))) (k+aU L.length-aU (L.length-1))*(pt v (bG b t.n)*(dJ (N u ln y) ps*(pt C (Y (ints z.l) 73 (0,0))*(az pc p*(bd t fc*(ez t m O*F)))))));have v0:c0.cell? ⟨v,0,U⟩=V (ay b):=b0.ah.cell 0;have v1:c0.cell? ⟨v,1,U⟩=V (Z .i64 (t.n:Int)):=b0.ah.cell 1;have x0:=ae (Fp b0 o0.out (-1) (by rw [m0];have:=S1.out;omega));have r0:=V1;have n0:=ae (D9.out.trans s0);have W1:=ae m0;clear F0 l b0 s0 he HE N1 q0 L0 G0 o0 D9 m0
      go_wp2_with fail
      refine x0.out.mono ?_;rintro e g1 ⟨rfl,u0,e0⟩;rw [W1.out,show dp (eY (fu T d (mR L i))) id (V { f with lk:=f.lk-1 })=eY (zR T d id L i f) from sE (fu T d (mR L i)) id (.file { f with lk:=f.lk-1 })] at e0;have W0:=ae (r0.out g1 (n0.out.trans u0) (e0.to (by unfold vA;ac_rfl:_=(dJ (N u ln y) ps*pt C (Y (ints z.l) 73 (0,0)))*(vA (x.more 12) b v (zR T d id L i f) (k+aU L.length-aU (L.length-1))*(az pc p*(bd t fc*(ez t m O*F)))))).right);clear x0 e0 u0 n0 r0 v0 v1
      go_wp2_with fail
      refine (k1.out _).mono ?_;rintro e g2 ⟨rfl,rfl⟩
      go_wp2_with fail
      go_end0
      exact W0.out
   .have a2:(8:Int)=fS T O p:=by
     rw [g0.out,if_neg (by decide),g]
     cases K1 with
     | dir L=>rfl
     | file f=>exact absurd (r.out.files _ _ g) S0
    exact ⟨rfl,k0.out 8 (by decide) a2 _ (D3.out.trans d7) (h7.to (by ac_rfl:_=dJ (N u ps.length y) ps*(vA x b v T k*(az pc p*(bd t fc*(ez t m O*F)))))).right⟩
  .exact ⟨rfl,k0.out _ hc (by rw [g0.out,if_pos hc]) _ D3.out (h3.to (by ac_rfl:_=dJ f1 ps*(vA x b v T k*(az pc p*(bd t fc*(ez t m O*F)))))).right⟩
end
section
variable {t:Pl} {q:Dk t.n} {s s':Ds} {T:Tr} {k m:Nat} {O:kY} {w:M} {F:ai} {p:List UInt8}
theorem C3 (g:mQ t q s T k) (y:s.B<=1000000) (h:ag w (eG t s m O*F)) :
  Calls Q 12 #[ay t.f,W (str p)] w (PC t q m s O (qv T k O p) F w):=by
 refine aH fun c0 l=>?_;have i:=(h.alloc (Y #[ay t.f] 25 (0,0))).alloc (Y #[W (str p)] 9 (0,0));simp only [E2] at i;have r:=ae (((aj.refl w).alloc (Y #[ay t.f] 25 (0,0))).alloc (Y #[W (str p)] 9 (0,0)))
 have A:=ae fun (pc fc:Nat) (w':M) (h':ag w' (eG t s m O*((az pc p*bd t fc)*F)))=>
  ni g y 35 #[ay pc,ay fc] (az pc p*bd t fc) (qv T k O p) (enters func35 (by kernel_rfl) rfl)
   (fun x v b w1 E hw=>(DN (x:=x) (b:=b) (v:=v) (k:=k) (m:=m) (O:=O) (pc:=pc) (fc:=fc) (F:=E) (p:=p) g.ty (fun id f hT=>(g.at_.has.wf (lq hT)).1.Jd) (hw.to (by ac_rfl))).mono fun e w' hq=>by simpa only [ax] using hq) h'
 have j:=ae i;clear h i g y
 go_enter func12,ntmps12
 go_wp2_with fail
 generalize (w.alloc (Y #[ay t.f] 25 (0,0))).alloc (Y #[W (str p)] 9 (0,0))=w1 at *;generalize w.heap.size=fc at *;refine (A.out (fc+1) fc _ (j.out.to (by unfold az bd;ac_rfl))).mono ?_;rintro e w2 ⟨c,T',k',s',z,rfl,o,C,u⟩;have b0:=ae (l.out _ _ ⟨c,T',k',s',z,rfl,r.out.trans o,C,(u.to (by ac_rfl:_=(az (fc+1) p*bd t fc)*(eG t s' m O*F))).right⟩);clear A r j o C z u l
 go_wp2_with fail
 exact b0.out
end
end Go.Proofs.Cl
namespace Go.SL
def nD (ps qs:List (List UInt8)):Bool:=decide (ps.length<qs.length) && decide (ps=qs.take ps.length)
end Go.SL
namespace Go.Proofs.Cl
open Go.RowKit Go.SL Go.Proofs.Nn Go.Proofs.Ba Go.Proofs.Su Go.Proofs.Fs
attribute [local go_sem] Oper.semAt_some
section
variable {w:M} {F:ai} {ps qs:List (List UInt8)} {u1 u2:G}
theorem str_inj {a c:List UInt8} (h:str a=str c):a=c:=by
 have:=congrArg (fun x:ByteArray=>x.data.toList) h;simpa [str] using this
theorem tu:∀ {a c:List (List UInt8)},a.map str=c.map str->a=c
 | [],[],_=>rfl
 | [],_ :: _,h=>by simp at h
 | _ :: _,[],h=>by simp at h
 | x :: a,y :: c,h=>by
  simp only [W2,List.cons.injEq] at h;rw [str_inj h.1,tu h.2]
theorem qy {u:G} (A:ps≠[]) (h:ag w (dJ u ps*F)):∃ g c,u = N (V ⟨g,0,U⟩) ps.length c/\ps.length<=c/\c<=9223372036854775807/\∀ j,j<(ps.map str).length->w.cell? ⟨g,0+j,U⟩=V (W ((ps.map str).getD j ByteArray.empty)):=by
 have hp:=List.length_pos_iff.2 A;rcases ag.de (show ag w (sl 9 1 u ps.length (strs ps)*F) from h) with ⟨_,E,_⟩|⟨g,l,C,rfl,o,r,h5,y,z⟩
 .omega
 .refine ⟨g,l,rfl,o,by unfold maxLen at r;omega,fun j i=>?_⟩
  rw [H2] at i
  have e:(strs ps)[j]?=V (W ((ps.map str).getD j ByteArray.empty)):=by
   unfold strs;rw [List.getElem?_map,L2 i,List.getD,List.getElem?_map,L2 i]
   rfl
  rw [Nat.zero_add,z.cell,<- e,<- y,List.getElem?_take,if_pos (by omega),Array.getElem?_toList]
theorem Ip (b0:ps≠[]) (e0:ps.length<=1000) (f0:qs.length<=1000) (h:ag w (dJ u1 ps*(dJ u2 qs*F))) :
  Calls Q 58 #[u1,u2] w fun e w'=>e = K (.bool (nD ps qs))/\aj w w'/\ag w' (dJ u1 ps*(dJ u2 qs*F)):=by
 refine aH fun i0 g=>?_;have j:=ae h;have hp:=List.length_pos_iff.2 b0
 by_cases i:ps.length<qs.length
 .have g0:qs≠[]:=fun e=>by rw [e] at i;simp at i
  obtain ⟨g1,c1,rfl,k1,l1,z1⟩:=qy b0 h;obtain ⟨g2,o,rfl,k2,l2,z2⟩:=qy g0 h.ah;have r:=Tryz.slices_Equal_string g1 0 ps.length c1 g2 0 ps.length o (ps.map str) (qs.map str) w (by rw [H2];exact K2 _) (by rw [H2];omega) (by omega) (by omega) z1 z2
  have E:decide ((ps.map str).take ps.length=(qs.map str).take ps.length)=nD ps qs:=by
   unfold nD;rw [decide_eq_true i,Bool.true_and];refine decide_eq_decide.2 ⟨fun e=>?_,fun e=>?_⟩
   .rw [V2 (by rw [H2];exact K2 _),<- List.map_take] at e
    exact tu e
   .rw [V2 (by rw [H2];exact K2 _),<- List.map_take,<- e]
  rw [E] at r;have l:=ae r;have y:(ps.length:Int)<(qs.length:Int):=by omega
  have hc:(ps.length:Int)<=(o:Int):=by omega
  have k0:(o:Int)<=9223372036854775807:=by omega
  have h0:(0:Int)<=(ps.length:Int):=by omega
  clear h r E z1 z2 i hp l1 l2 k1 k2;generalize nD ps qs=bb at *;obtain ⟨z,c0⟩:∃ z,ps.length=z:=⟨_,rfl⟩
  obtain ⟨A,d0⟩:∃ A,qs.length=A:=⟨_,rfl⟩
  rw [c0] at l j y hc h0 g ⊢;rw [d0] at j y g ⊢;clear c0 d0 e0 f0
  go_enter func58,ntmps58
  go_wp2_with fail
  refine l.out.mono ?_;rintro e w2 ⟨rfl,nq,rfl⟩;have u:=ae (g.out _ (w.drewN nq) ⟨rfl,(aj.refl w).trans ⟨rfl,rfl,rfl,K2 _⟩,j.out⟩);clear l j g
  go_wp2_with fail
  exact u.out
 .have C:nD ps qs=false:=by unfold nD;rw [decide_eq_false i];rfl
  rw [C] at g;have u:=ae (g.out _ _ ⟨rfl,aj.refl w,h⟩);obtain ⟨a1,n1,rfl⟩:=ee h;obtain ⟨a2,n2,rfl⟩:=ee h.ah;have y:¬ (ps.length:Int)<(qs.length:Int):=by omega
  clear h g j i C hp;generalize ps.length=z at *;generalize qs.length=A at *
  go_enter func58,ntmps58
  go_wp2_with fail
  exact u.out
end
section
variable {t:Pl} {S:Hp} {J:Jr} {D D':aB} {fc m:Nat}
theorem Jy (A:J.flush D=(0,J,D')) (hJ:J.Ok) (d0:D'.Ok) :
  Q2 t S (.map (V m)) J D 119 #[ay fc] (bd t fc) (fun c c0 E=>c=0/\c0=⟨0,[],[],(J,D')⟩/\E=bd t fc):=by
 intro v b i l g;refine aH fun h0 o=>?_;have u:ag i (NS t.s t.j t.d t.n t.P S (J,D)*(aA 176 5 wK b (yK t S).rd 0 [] []*(pt t.f (gU t (.map (V m)))*(pt v (bG b t.n)*(ak wK*(bd t fc*l)))))):=g.to (by unfold cE;show _=(yK t S).RI (J,D)*_;ac_rfl);obtain ⟨g0,y⟩:=nf u;have f0:i.cell? ⟨fc,0,U⟩=V (ay t.f):=(g.to (by unfold bd;ac_rfl:_=pt fc (Y #[ay t.f] 25 (0,0))*(pt t.f (gU t (.map (V m)))*(pt v (bG b t.n)*(cE (yK t S) wK b ⟨0,[],[],(J,D)⟩*(ak wK*l)))))).cell 0;have s0:i.cell? ⟨t.f,0,U⟩=V (ay t.s):=g.cell 0;have C:=ae (Mj i S t.s t.j t.d t.n t.P J D _ y g0.2);have b0:=ae cO;have HF:=ae A;clear g u y A
 go_enter func119,ntmps119
 go_wp2_with fail
 refine C.out.mono ?_;rintro e w2 ⟨rfl,j,r⟩;rw [HF.out] at j ⊢;have z:=Bw (x:=(J,D')) hJ d0 j;have e0:=ae (o.out (K (I #[])) w2 ⟨0,wK,⟨0,[],[],(J,D')⟩,bd t fc,⟨rfl,rfl,rfl⟩,.inl ⟨rfl,rfl⟩,r,z.to (by unfold cE;show (yK t S).RI (J,D')*_=_;ac_rfl)⟩);clear j z o C r
 go_wp2_with fail
 refine (b0.out _).mono ?_;rintro e w3 ⟨rfl,rfl⟩
 go_wp2_with fail
 go_end0
 exact e0.out
end
section
variable {t:Pl} {q:Dk t.n} {s:Ds} {T:Tr} {k m:Nat} {O:kY} {w:M} {F:ai}
def Si (t:Pl) (q:Dk t.n) (m:Nat) (s:Ds) (T:Tr) (k:Nat) (O:kY) (F:ai) (w:M) (e:Ending) (w':M):Prop:=
 e = K (Z .i64 0)/\aj w w'/\mQ t q ⟨s.J,s.D.aG,s.has,s.B+1⟩ T k/\ag w' (eG t ⟨s.J,s.D.aG,s.has,s.B+1⟩ m O*F)
theorem NQ (g:mQ t q s T k) (C:s.B<=1000000) (h:ag w (eG t s m O*F)) :
  Calls Q 65 #[ay t.f] w (Si t q m s T k O F w):=by
 refine aH fun e0 u=>?_;obtain ⟨J,D,has,B⟩:=s;have o:q.Q B J D has:=g.at_.q;have i:=q.inv o;have E:mQ t q ⟨J,D.aG,has,B+1⟩ T k:=⟨⟨q.flush o C,g.at_.has⟩,g.ty,g.h4,g.hn⟩
 have A:=h.alloc (Y #[ay t.f] 25 (0,0));have z:=ae ((aj.refl w).alloc (Y #[ay t.f] 25 (0,0)));obtain ⟨S,hS⟩:=zr (A.to (by unfold eG;ac_rfl:_=pV t ⟨J,D,has,B⟩*(pt t.f (gU t (.map (V m)))*(pt w.heap.size (Y #[ay t.f] 25 (0,0))*(mp m (lD O)*F)))))
 have hd:=ae (Ed t _ S J D (.map (V m)) 119 #[ay w.heap.size] (bd t w.heap.size) (mp m (lD O)*F) (fun c l j=>c=0/\l=⟨0,[],[],(J,D.aG)⟩/\j=bd t w.heap.size) i.ok i.I9 (enters func119 (by kernel_rfl) rfl) (Jy i.flush i.ok i.aG.I9)
  (by rintro c l j ⟨-,rfl,-⟩ - - d0;exact absurd rfl d0) (hS.to (by unfold bd;ac_rfl)))
 have r:=ae E;clear h A hS g o i C E
 go_enter func65,ntmps65
 go_wp2_with fail
 refine hd.out.mono ?_;rintro e w2 ⟨c,l,j,S',J',D',⟨rfl,rfl,rfl⟩,-,rfl,y,hs,-,b0⟩;have e:=b0 (.inr rfl);simp only [Prod.mk.injEq] at e;obtain ⟨rfl,rfl⟩:=e;have c0:=ae (u.out _ _ ⟨rfl,z.out.trans y,r.out,((lX (s:=⟨J,D.aG,has,B+1⟩) (hs.to (by ac_rfl))).to (by unfold eG;ac_rfl:pV t ⟨J,D.aG,has,B+1⟩*(pt t.f (gU t (.map (V m)))*(bd t w.heap.size*(mp m (lD O)*F)))=bd t w.heap.size*(eG t ⟨J,D.aG,has,B+1⟩ m O*F))).right⟩);clear hd y hs b0 u r z
 go_wp2_with fail
 exact c0.out
end
theorem Oj (w:M) (o l:Addr) :
    CallsD Q 106 #[H (V o),H (V l)] .returning w fun e u w'=>e = K (I #[])/\u = .returning/\w=w':=by
  have i:=vS w;refine callsD_of_wpS func106 rfl fun g r j=>?_;apply wpS_seq;apply wpS_region
  simp only [ntmps106,List.size_toArray,List.length_cons,List.length_nil,Nat.reduceAdd,Nat.reduceSub,Array.replicate_succ,
     Array.replicate_zero,List.push_toArray,List.append_toArray,List.nil_append,List.cons_append]
  simp [wpOpsS,go_sem,recoverD,j,Exit.thenS];refine i.mono ?_;rintro e y ⟨rfl,rfl⟩;refine wpS_of_wp ?_
  go_wp2
  cases g
  simp_all [bodyPostS,results,Tryz.results106]
theorem Dr {w:M} {g:Array G} {a b:Nat} {v e:G} (i:g[6]?=V (ay a)) (j:g[7]?=V (ay b)) (l:w.cell? ⟨a,0,U⟩=V v) (o:w.cell? ⟨b,0,U⟩=V e) :
  (results Tryz.f59 g).run Q w = .ok (I #[v,e]) w:=by
 have r:g.getD 6 undef=ay a:=by simp [i]
 have u:g.getD 7 undef=ay b:=by simp [j]
 simp [results,Tryz.results59,i,j,go_sem,l,o]
theorem GQ {w:M} {g:Array G} {a b:Nat} {v e:G} {R:Ending->M->Prop} (i:g[6]?=V (ay a)) (j:g[7]?=V (ay b)) (o:w.cell? ⟨a,0,U⟩=V v) (r:w.cell? ⟨b,0,U⟩=V e) (l:R (K (I #[v,e])) w) :
  bodyPostD Q Tryz.f59 R Exit.ret { tmps:=g,defers:=[{ target:=.fn (.func 106) #[H (V ⟨a,0,U⟩),H (V ⟨b,0,U⟩)],args:=#[] }] } w:=by
 refine leaves_cons (f:=106) (args:=#[H (V ⟨a,0,U⟩),H (V ⟨b,0,U⟩)]) (by simp) (by simp [go_sem]) ?_;refine (Oj w ⟨a,0,U⟩ ⟨b,0,U⟩).mono ?_;rintro e u y ⟨rfl,rfl,rfl⟩;exact ⟨_,Dr i j o r,l⟩
section
variable {t:Pl} {S:Hp} {J:Jr} {D:aB} {mv:G} {M1:gD (Jr × aB)}
theorem Dz (h4:4<=t.n) (hn:t.n<=3840) (u:dK (ja (yK t S).ask) ⟨0,[],[],(J,D)⟩=(.ok (),M1)) :
  Q2 t S mv J D 63 #[] emp (fun c C y=>c=0/\C=M1/\y=emp):=by
 intro v b j z g;refine aH fun c0 l=>?_;have v0:j.cell? ⟨v,0,U⟩=V (ay b):=g.ah.cell 0;have v1:j.cell? ⟨v,1,U⟩=V (Z .i64 (t.n:Int)):=g.ah.cell 1;have i:=ae (Gu (yK t S) (JD t S) t.n h4 hn b ⟨0,[],[],(J,D)⟩ j wK _ (g.to (by ac_rfl:_=cE (yK t S) wK b ⟨0,[],[],(J,D)⟩*(ak wK*(pt t.f (gU t mv)*(pt v (bG b t.n)*(emp*z)))))));rw [u] at i;have A:=ae cO;clear g u
 go_enter func63,ntmps63
 go_wp2_with fail
 refine i.out.mono ?_;rintro e w2 ⟨E,-,o,rfl,r⟩;have b0:=ae (l.out (K (I #[])) w2 ⟨0,E,M1,emp,⟨rfl,rfl,rfl⟩,.inl ⟨rfl,rfl⟩,o,r.to (by ac_rfl)⟩);have hc:Rs.code (.ok ():Rs Unit)=0:=rfl;rw [hc];clear r l i o v0 v1
 go_wp2_with fail
 refine (A.out _).mono ?_;rintro e w3 ⟨rfl,rfl⟩
 go_wp2_with fail
 go_end0
 exact b0.out
end
structure Lq (n P B:Nat) (J:Jr) (D:aB) (has:Has):Prop where
 inv:fL J D has
 jn:J.n=(n:Int)
 bound:sd J
 jP:J.P=P
 sq:J.sq<=(B:Int)
theorem Lq.zC {n P B:Nat} {J:Jr} {D:aB} {has:Has} {L:Bl} (y:5*n+240<=2*P) (h:Lq n P B J D has) (u:B<=1000000) (o:Batch (n:Int) L):∃ i D',eK J D true L=(0,i,D')/\Lq n P (B+1) i D' (mP has L):=by
 have g:Batch J.n L:=by rw [h.jn];exact o
 have r:J.sq<281474976710655:=by have:=h.sq;omega
 have l:=CO h.inv h.bound (by rw [h.jn,h.jP];omega) g;obtain ⟨D',j⟩:=Bo h.inv g r l;refine ⟨_,D',j.run,j.inv,?_,Eb h.inv h.bound g l,h.jP,?_⟩
 .show J.n=_;exact h.jn
 .show J.sq+1<=_;have:=h.sq;omega
def Um (n P:Nat) (i:5*n+240<=2*P):Dk n:=
 ⟨Lq n P,fun h=>h.inv,fun h=>h.jn,fun h r=>⟨h.inv.cr r,h.jn,h.bound,h.jP,h.sq⟩,fun h g _ j=>h.zC i g j,fun h g=>⟨h.inv.aG,h.jn,h.bound,h.jP,by have:=h.sq;omega⟩⟩
def rW:Has:=fun _=>U
theorem xU {n:Nat} (j:2<=n):Tidy n eQ:=by
 have g:∀ id L,eQ id=V (.dir L)->L=[]:=by
  intro id L h;unfold eQ at h
  split at h
  .injection h with h;injection h with h;exact h.symm
  .cases h
 refine ⟨⟨[],rfl⟩,fun id L h=>?_,fun id f h=>?_,fun id=>?_,fun id h=>?_⟩
 .rw [g _ _ h];exact oK.nil
 .unfold eQ at h
  split at h
  .injection h with h;cases h
  .cases h
 .have e:refs n eQ id=0:=by
   unfold refs
   have:∀ l:List Nat,(l.map fun d=>(eX (eQ d)).countP fun e=>e.nd == id).sum=0:=by
    intro l
    induction l with
    | nil=>rfl
    | cons a l i=>
     rw [W2,List.sum_cons,i];have:eX (eQ a)=[]:=by unfold eQ;split <;> rfl
     rw [this];rfl
   exact this _
  rw [e];unfold eQ
  split
  .rename_i h;subst h;rfl
  .rfl
 .unfold eQ;rw [if_neg (by omega)]
theorem JR:eY eQ=fun id=>if id=1 then V (kr 2) else U:=by
 funext id;unfold eY eQ
 split
 .show V (tN.dir []).af=_
  have:=Fz (kd:=2) (.inr rfl);rw [show lV 2 = .dir [] from rfl] at this;rw [this]
 .rfl
section
variable {t:Pl} {q:Dk t.n} {w:M} {F:ai} {J:Jr} {D:aB} {m:Nat}
def Ro (t:Pl) (q:Dk t.n) (m:Nat) (F:ai) (w:M) (e:Ending) (w':M):Prop:=
 ∃ s,e = K (I #[])/\aj w w'/\s.B<=3/\mQ t q s eQ (t.n-2)/\ag w' (eG t s m []*F)
theorem NG (E:4<=t.n) (hn:t.n<=3840) (C:q.Q 1 J D rW) (h:ag w (pt t.f (gU t (.map (V m)))*(mp m (lD [])*(pV t ⟨J,D,rW,1⟩*F)))) :
  Calls Q 29 #[ay t.f,.func (.func 63) #[] #[]] w fun e w'=>∃ s,e = K (Z .i64 0)/\aj w w'/\s.B<=2/\mQ t q s eQ (t.n-2)/\ag w' (eG t s m []*F):=by
 have hG:Go.SL.Good t.n (jq rW) (IJ J D) ⟨0,[],[],(J,D)⟩:=⟨rfl,IJ.start J D,fun f0 l _ h=>absurd h (by simp [aM]),fun f0 l _ h=>absurd h (by simp [aM]),fun p hp=>absurd hp (by simp)⟩
 obtain ⟨M1,he,z⟩:=Cv (xF C) (by omega) E hn hG
 have e0:M1.W.length<=24:=by
  have:=(Cj (ask:=P9)).run he;simp at this;omega
 rw [<- JR] at z;obtain ⟨S,hS⟩:=zr (h.to (by ac_rfl:_=pV t ⟨J,D,rW,1⟩*(pt t.f (gU t (.map (V m)))*(mp m (lD [])*F))));have hi:=q.inv C
 have b0:(M1.W.map Prod.fst).Nodup->M1.W≠[]->∃ r i D',M1.s=(J,{ D with cr:=r })/\q.Q 1 J { D with cr:=r } rW/\Batch (t.n:Int) (ij M1.W)/\eK J { D with cr:=r } true (ij M1.W)=(0,i,D')/\q.Q 2 i D' (mP rW (ij M1.W)):=by
  intro A u;obtain ⟨o,r,y⟩:=z.gr.inv;have hb:=yh z A e0 (List.length_pos_iff.2 u);obtain ⟨i,D',e3,e4⟩:=q.zC (q.cr C r) (by decide) hb;exact ⟨r,i,D',Prod.ext o y,q.cr C r,hb,e3,e4⟩
 refine (Ed t w S J D (.map (V m)) 63 #[] emp (mp m (lD [])*F) (fun c j G'=>c=0/\j=M1/\G'=emp) hi.ok hi.I9 (enters func63 (by kernel_rfl) rfl) (Dz E hn he) ?_ (hS.to (by rw [cW];ac_rfl))).mono ?_
 .rintro c j G' ⟨rfl,rfl,rfl⟩-A u
  obtain ⟨r,i,D',o,y,e3,e4,-⟩:=b0 A u;refine ⟨rW,i,D',?_,?_,e3,?_⟩
  .rw [o];exact q.inv y
  .rw [o];exact q.jn y
  .rw [o];exact e4
 .rintro e w' ⟨c,j,G',S',i,D',⟨rfl,rfl,rfl⟩,A,rfl,d,hs,c0,d0⟩
  by_cases u:j.W=[]
  .obtain ⟨o,r,y⟩:=z.gr.inv
   have e:=d0 (.inr u);rw [e] at o y;have hr:Ds.Rd ⟨J,D,rW,1⟩ ⟨i,D',rW,1⟩:=⟨o,⟨r,y⟩,rfl,rfl⟩
   refine ⟨⟨i,D',rW,1⟩,rfl,d,Nat.le_succ 1,⟨PI.rd (s:=⟨J,D,rW,1⟩) ⟨C,sQ z u⟩ hr,xU (by omega),E,hn⟩,?_⟩;exact (lX (s:=⟨i,D',rW,1⟩) (hs.to (by rw [cW];ac_rfl))).to (by unfold eG;ac_rfl:pV t ⟨i,D',rW,1⟩*(pt t.f (gU t (.map (V m)))*(mp m (lD [])*F))=_)
  obtain ⟨r',J2,D2,f1,f2,f3,f4,f5⟩:=b0 A u;have g:=c0 rfl u;rw [f1] at g;have g:eK J { D with cr:=r' } true (ij j.W)=(0,i,D'):=g;rw [g] at f4;simp only [Prod.mk.injEq,true_and] at f4;obtain ⟨rfl,rfl⟩:=f4;refine ⟨⟨i,D',mP rW (ij j.W),2⟩,rfl,d,K2 2,⟨⟨f5,uX z A⟩,xU (by omega),E,hn⟩,?_⟩;exact (lX (s:=⟨i,D',mP rW (ij j.W),2⟩) (hs.to (by rw [cW];ac_rfl))).to (by unfold eG;ac_rfl:pV t ⟨i,D',mP rW (ij j.W),2⟩*(pt t.f (gU t (.map (V m)))*(mp m (lD [])*F))=_)
theorem GY (g:4<=t.n) (E:t.n<=3840) (hq:q.Q 1 J D rW) (h:ag w (pt t.f (gU t (.map (V m)))*(mp m (lD [])*(pV t ⟨J,D,rW,1⟩*F)))) :
  Calls Q 62 #[ay t.f] w (Ro t q m F w):=by
 refine aH fun d0 o=>?_;have e0:=mK Q;have C:=ae (NG g E hq h);have r:=ae cO;clear h hq g E
 go_enter func62,ntmps62
 go_wp2_with fail
 refine C.out.mono ?_;rintro e w2 ⟨s,rfl,u,A,i,z⟩;have b0:=ae (NQ i (by omega) z);have j:=ae u;have l:=ae A;clear C u i z A
 go_wp2_with fail
 refine (r.out _).mono ?_;rintro e w3 ⟨rfl,rfl⟩
 go_wp2_with fail
 refine b0.out.mono ?_;rintro e w4 ⟨rfl,y,i,g⟩;have c0:=ae (o.out (K (I #[])) _ ⟨_,rfl,j.out.trans y,(show s.B+1<=3 by have:=l.out;omega),i,g⟩);clear b0 y i g o j l
 go_wp2_with fail
 refine (r.out _).mono ?_;rintro e w5 ⟨rfl,rfl⟩
 go_wp2_with fail
 go_end0
 exact c0.out
def PS (j:FuncId) (fc:Array G) (i:ai) (X:Nat->ai):Prop:=
 ∀ (w:M) (g:ai),ag w (i*g)->Calls Q j fc w fun e w'=>∃ s,e = K (I #[ay s,Z .i64 0])/\aj w w'/\ag w' (X s*g)
def Pr (l:FuncId) (j:Array G) (X:Nat->ai) (i:Nat->Nat->Nat->ai):Prop:=
 ∀ (s f m:Nat) (w:M) (g:ai),ag w (pt f (Y #[ay s,.map (V m)] 66 (0,0))*(mp m []*(X s*g)))->Calls Q l (#[ay f]++j) w fun e w'=>e = K (I #[])/\aj w w'/\ag w' (i s f m*g)
def Q6 (g:Nat->Nat->Nat->ai) (F:ai) (w:M) (e:Ending) (w':M):Prop:=
 ∃ s f m,e = K (I #[ay f,Z .i64 0])/\aj w w'/\ag w' (g s f m*F)
theorem IE (w:M):(Instr.makeMap 64 U).run Q w = .ok (.map (V w.heap.size)) (w.alloc (.map #[] 0)):=by
 simp [Instr.makeMap,run_underlying underlying64]
theorem I7 {dv:Nat} {u y:FuncId} {fc gc:Array G} {c0:ai} {X:Nat->ai} {d0:Nat->Nat->Nat->ai} (q0:∀ (r:Array G) (w:M),(callFunc u r).run Q w = .ok (.enter u r) w) (r0:∀ (r:Array G) (w:M),(callFunc y r).run Q w = .ok (.enter y r) w)
  (hF:PS u fc c0 X) (hT:Pr y gc X d0) (h:ag w (c0*F)):Calls Q 59 #[ay dv,.func (.func u) #[] fc,.func (.func y) #[] gc] w (Q6 d0 F w):=by
 refine aH fun p0 HQ=>?_;have u0:=mK Q;have H0:=(h.alloc (Y #[H U] 25 (0,0))).alloc (Y #[Z .i64 0] 28 (0,0));have D0:=((aj.refl w).alloc (Y #[H U] 25 (0,0))).alloc (Y #[Z .i64 0] 28 (0,0));rw [E2] at H0;have HF:=ae hF;have HT:=ae hT;clear h hF hT
 go_enter_defers func59,ntmps59
 go_wp2_with fail
 generalize (w.alloc (Y #[H U] 25 (0,0))).alloc (Y #[Z .i64 0] 28 (0,0))=w1 at *;generalize w.heap.size+1=i at *;generalize w.heap.size=fb at *;have h0:=ae (HF.out w1 _ (H0.to (by ac_rfl:_=c0*(pt i (Y #[Z .i64 0] 28 (0,0))*(pt fb (Y #[H U] 25 (0,0))*F)))));have D1:=ae D0;clear H0 D0 HF
 go_wp2_with fail
 refine h0.out.mono ?_;rintro e w2 ⟨s,rfl,d2,h2⟩;have z:=h2.to (by ac_rfl:_=pt i (Y #[Z .i64 0] 28 (0,0))*(pt fb (Y #[H U] 25 (0,0))*(X s*F)));have e0:w2.cell? ⟨i,0,U⟩=V (Z .i64 0):=z.cell 0;have ef:w2.frozen? ⟨i,0,U⟩=false:=z.frozen 0;have h4:=z.setCell 0 (Z .i64 0);have D4:=ae ((D1.out.trans d2).setCell ⟨i,0,U⟩ (Z .i64 0));have o:=ae (h4.to (by ac_rfl:_=pt fb (Y #[H U] 25 (0,0))*(pt i (Y #[Z .i64 0] 28 (0,0))*(X s*F))));have l0:=ae cO;have g0:=ae IE;clear h0 D1 d2 h2 z h4
 go_wp2_with fail
 refine (l0.out _).mono ?_;rintro e w3 ⟨rfl,rfl⟩;generalize w2.setCell ⟨i,0,U⟩ (Z .i64 0)=g at *;have f0:g.cell? ⟨fb,0,U⟩=V (H U):=o.out.cell 0;have n0:g.frozen? ⟨fb,0,U⟩=false:=o.out.frozen 0;have s0:fb<g.heap.size:=o.out.lt;have o0:=g0.out;have H5:=((((o.out.setCell 0 (ay (g.heap.size+1))).alloc (.map #[] 0)).tG isMap_empty).alloc (Y #[ay s,.map (V g.heap.size)] 66 (0,0)))
 have D5:=(((D4.out.setCell ⟨fb,0,U⟩ (ay (g.heap.size+1))).alloc (.map #[] 0)).alloc (Y #[ay s,.map (V g.heap.size)] 66 (0,0)))
 have k0:(g.setCell ⟨fb,0,U⟩ (ay (g.heap.size+1))).heap.size=g.heap.size:=World.size_setCell ..;rw [E2,k0] at H5;have E:=ae D5;have ht:=ae (HT.out s (g.heap.size+1) g.heap.size _ _ (H5.to (by show _=pt (g.heap.size+1) (Y #[ay s,.map (V g.heap.size)] 66 (0,0))*(mp g.heap.size []*(X s*(pt fb (Y #[ay (g.heap.size+1)] 25 (0,0))*(pt i (Y #[Z .i64 0] 28 (0,0))*F))));simp only [O2,P2];ac_rfl)));generalize i0:g.heap.size+1=j at ht E;have m0:=ae i0;clear H5 D5 o D4 g0 e0 ef i0 k0
 go_wp2_with fail
 rw [m0.out];refine ht.out.mono ?_;rintro e C ⟨rfl,d6,h6⟩;have l:=h6.to (by ac_rfl:_=pt fb (Y #[ay j] 25 (0,0))*(pt i (Y #[Z .i64 0] 28 (0,0))*(d0 s j g.heap.size*F)));have a0:C.cell? ⟨fb,0,U⟩=V (ay j):=l.cell 0;have a1:C.frozen? ⟨fb,0,U⟩=false:=l.frozen 0;have b0:(C.setCell ⟨fb,0,U⟩ (ay j)).cell? ⟨i,0,U⟩=V (Z .i64 0):=(l.setCell 0 (ay j)).ah.cell 0;have b1:(C.setCell ⟨fb,0,U⟩ (ay j)).frozen? ⟨i,0,U⟩=false:=(l.setCell 0 (ay j)).ah.frozen 0;have h8:=(l.setCell 0 (ay j)).ah.setCell 0 (Z .i64 0);have H8:=ae h8;have D8:=ae (((E.out.trans d6).setCell ⟨fb,0,U⟩ (ay j)).setCell ⟨i,0,U⟩ (Z .i64 0));clear ht h6 l h8 E d6 f0 n0 o0 HT
 go_wp2_with fail
 have A:=H8.out;simp only [O2,P2] at A;exact GQ rfl rfl (A.ah.cell 0) (A.cell 0) (HQ.out _ _ ⟨s,j,g.heap.size,rfl,D8.out,A.right.right⟩)
end
end Go.Proofs.Cl
namespace Go.Proofs.Cl
open Go.RowKit Go.SL Go.Proofs.Nn Go.Proofs.Ba Go.Proofs.Su Go.Proofs.Fs
def ig (t:Pl) (q:Dk t.n) (m:Nat) (T:Tr) (k B:Nat) (O:kY):ai:=ex fun s:Ds=>fact (mQ t q s T k/\s.B<=B)*eG t s m O
section
variable {t:Pl} {q:Dk t.n} {s:Ds} {T:Tr} {k m B:Nat} {O:kY} {w:M} {F:ai} {p p1 p2:List UInt8} {R:Int->Tr->Nat->Prop} {e:Ending} {w':M}
theorem eH (h:ag w (ig t q m T k B O*F)):∃ s,mQ t q s T k/\s.B<=B/\ag w (eG t s m O*F):=by
 obtain ⟨s,g⟩:=ag.aw.1 h;obtain ⟨⟨i,j⟩,l⟩:=ag.aq.1 (g.to (ax _ _ _));exact ⟨s,i,j,l⟩
theorem eJ (i:mQ t q s T k) (g:s.B<=B) (h:ag w (eG t s m O*F)):ag w (ig t q m T k B O*F):=
 ag.aw.2 ⟨s,(ag.aq.2 ⟨⟨i,g⟩,h⟩:ag w (fact _*_)).to (ax _ _ _).symm⟩
theorem OZ {g:Nat} (o:B<=g) (h:ag w (ig t q m T k B O*F)):ag w (ig t q m T k g O*F):=by
 obtain ⟨s,i,l,j⟩:=eH h;exact eJ i (by omega) j
theorem mQ.go {s':Ds} {wr:Bool} (g:s.Go t.n wr s'):s'.B<=s.B+1:=by
 rcases g with h|⟨_,r,L,_,_,_,h⟩
 .rw [h.B];omega
 .omega
def Md (t:Pl) (q:Dk t.n) (m:Nat) (T:Tr) (k B:Nat) (O:kY) (R:Int->Tr->Nat->Prop) (F:ai) (w:M) (e:Ending) (w':M):Prop:=
 aj w w'/\∃ c,e = K (Z .i64 c)/\((c≠0/\(∃ T' k',R c T' k')/\ag w' (ig t q m T k B O*F))\/(c=0/\∃ T' k',R 0 T' k'/\ag w' (ig t q m T' k' (B+1) O*F)))
theorem MX (u:mQ t q s T k) (l:s.B<=B) (h:PC t q m s O R F w e w'):Md t q m T k B O R F w e w':=by
 obtain ⟨c,T',k',s',i,r,d,A,g⟩:=h;refine ⟨d,c,r,?_⟩;rcases A with ⟨o,j⟩|⟨rfl,y,z⟩
 .exact .inl ⟨o,⟨T',k',i⟩,eJ (u.rd j) (by rw [j.B];exact l) g⟩
 .exact .inr ⟨rfl,T',k',i,eJ y (by have:=mQ.go z;omega) g⟩
theorem Md.ok (h:Md t q m T k B O R F w e w') (j:∀ c T' k',R c T' k'->c=0):∃ T' k',R 0 T' k'/\e = K (Z .i64 0)/\aj w w'/\ag w' (ig t q m T' k' (B+1) O*F):=by
 obtain ⟨d,c,rfl,⟨l,⟨T',k',g⟩,_⟩|⟨rfl,T',k',g,i⟩⟩:=h
 .exact absurd (j _ _ _ g) l
 .exact ⟨T',k',g,rfl,d,i⟩
theorem Md.no {c0:Int} (h:Md t q m T k B O R F w e w') (l:c0≠0) (j:∀ c T' k',R c T' k'->c=c0):e = K (Z .i64 c0)/\aj w w'/\ag w' (ig t q m T k B O*F):=by
 obtain ⟨d,c,rfl,⟨o,⟨T',k',g⟩,i⟩|⟨rfl,T',k',g,i⟩⟩:=h
 .rw [j _ _ _ g];exact ⟨rfl,d,i⟩
 .exact absurd (j _ _ _ g).symm l
theorem BB (o:B<=1000000) (h:ag w (ig t q m T k B O*F)):Calls Q 9 #[ay t.f,W (str p)] w (Md t q m T k B O (mF t.n T k 1 p) F w):=by
 obtain ⟨s,g,i,j⟩:=eH h;exact (Et g (by omega) j).mono fun e w' l=>MX g i l
theorem E0 (o:B<=1000000) (h:ag w (ig t q m T k B O*F)):Calls Q 16 #[ay t.f,W (str p)] w (Md t q m T k B O (mF t.n T k 2 p) F w):=by
 obtain ⟨s,g,i,j⟩:=eH h;exact (IY g (by omega) j).mono fun e w' l=>MX g i l
theorem Rq (r:B<=1000000) (l:gT T k p1 p2=0) (h:ag w (ig t q m T k B O*F)):Calls Q 19 #[ay t.f,W (str p1),W (str p2)] w (Md t q m T k B O (BR T k p1 p2) F w):=by
 obtain ⟨s,g,i,j⟩:=eH h;exact (Kf g (by omega) l j).mono fun e w' o=>MX g i o
theorem Jv (o:B<=1000000) (h:ag w (ig t q m T k B O*F)):Calls Q 12 #[ay t.f,W (str p)] w (Md t q m T k B O (qv T k O p) F w):=by
 obtain ⟨s,g,i,j⟩:=eH h;exact (C3 g (by omega) j).mono fun e w' l=>MX g i l
theorem FA (o:B<=1000000) (h:ag w (ig t q m T k B O*F)):Calls Q 18 #[ay t.f,W (str p)] w (Md t q m T k B O (sf T k p) F w):=by
 obtain ⟨s,g,i,j⟩:=eH h;exact (FR g (by omega) j).mono fun e w' l=>MX g i l
def Ab (X:ai) (v:G) (F:ai) (w:M) (e:Ending) (w':M):Prop:=e = K v/\aj w w'/\ag w' (X*F)
theorem RB (y:B<=1000000) (h:ag w (ig t q m T k B O*F)):Calls Q 20 #[ay t.f,W (str p)] w (Ab (ig t q m T k B O) (I #[Ua (if (cm T p).1=0 then wg (T (cm T p).2) else (0,0,0)),Z .i64 (cm T p).1]) F w):=by
 obtain ⟨s,g,i,j⟩:=eH h;refine (ML g (by omega) j).mono ?_;rintro e w' ⟨s',rfl,d,r,o,l⟩;have u:s.Rd s':=by rcases r with h|⟨h,_⟩;exact h;cases h
 exact ⟨rfl,d,eJ o (by rw [u.B];exact i) l⟩
theorem Bh (y:B<=1000000) (h:ag w (ig t q m T k B O*F)):Calls Q 17 #[ay t.f] w (Ab (ig t q m T k B O) (I #[Z .i64 (t.n:Int),Z .i64 (k:Int),Z .i64 0]) F w):=by
 obtain ⟨s,g,i,j⟩:=eH h;refine (Ct g (by omega) j).mono ?_;rintro e w' ⟨s',rfl,d,r,o,l⟩;have u:s.Rd s':=by rcases r with h|⟨h,_⟩;exact h;cases h
 exact ⟨rfl,d,eJ o (by rw [u.B];exact i) l⟩
theorem ET {fd:Int} (h:ag w (ig t q m T k B O*F)):Calls Q 10 #[ay t.f,Z .i64 fd] w (Ab (ig t q m T k B (if (aM O fd).isSome then ug O fd else O)) (Z .i64 (if (aM O fd).isSome then 0 else 5)) F w):=by
 obtain ⟨s,g,i,j⟩:=eH h;refine (F6 g j).mono ?_;rintro e w' ⟨rfl,d,l⟩;exact ⟨rfl,d,eJ g i l⟩
def PJ (t:Pl) (q:Dk t.n) (m:Nat) (T:Tr) (k B:Nat) (O:kY) (p:List UInt8) (F:ai) (w:M) (e:Ending) (w':M):Prop:=
 aj w w'/\((gw T O p≠0/\e = K (I #[Z .i64 0,Z .i64 (gw T O p)])/\ag w' (ig t q m T k B O*F)) \/
  (gw T O p=0/\∃ g:Nat,(∀ j:Nat,j<g->(aM O (j:Int)).isSome=true)/\aM O (g:Int)=U/\e = K (I #[Z .i64 (g:Int),Z .i64 0])/\ag w' (ig t q m T k B (iE O g ((cm T p).2,0))*F)))
theorem J8 (A:B<=1000000) (z:O.length<=1000) (h:ag w (ig t q m T k B O*F)):Calls Q 11 #[ay t.f,W (str p)] w (PJ t q m T k B O p F w):=by
 obtain ⟨s,i,o,y⟩:=eH h;refine (nO i (by omega) z y).mono ?_;rintro e w' ⟨s',d,g,⟨l,rfl,j⟩|⟨l,u,a1,r,rfl,j⟩⟩
 .exact ⟨d,.inl ⟨l,rfl,eJ (i.rd g) (by rw [g.B];exact o) j⟩⟩
 .exact ⟨d,.inr ⟨l,u,a1,r,rfl,eJ (i.rd g) (by rw [g.B];exact o) j⟩⟩
def R4 (c:Int) (l:List UInt8) (X g:ai) (F:ai) (w:M) (e:Ending) (w':M):Prop:=
 aj w w'/\((c≠0/\e = K (I #[N U 0 0,Z .i64 c])/\ag w' (X*F))\/(c=0/\∃ u,e = K (I #[u,Z .i64 0])/\ag w' (bs 5 u l*(g*F))))
theorem Q3 {a c:Int} (z:B<=1000000) (y:gV T p a c=0) (h:ag w (ig t q m T k B O*F)):Calls Q 21 #[ay t.f,W (str p),Z .i64 a,Z .i64 c] w (R4 (gV T p a c) (nA T p a c) (ig t q m T k B O) (ig t q m T k B O) F w):=by
 obtain ⟨s,i,o,r⟩:=eH h;refine (Kb i (by omega) y r).mono ?_;rintro e w' ⟨s',d,g,⟨l,rfl,j⟩|⟨l,u,rfl,j⟩⟩
 .exact ⟨d,.inl ⟨l,rfl,eJ (i.rd g) (by rw [g.B];exact o) j⟩⟩
 .exact ⟨d,.inr ⟨l,u,rfl,(eJ (i.rd g) (by rw [g.B];exact o) (j.to (by ac_rfl:_=eG t s' m O*(bs 5 u (nA T p a c)*F)))).to (by ac_rfl)⟩⟩
def Ux (c:Int) (L:List aQ) (X:ai) (F:ai) (w:M) (e:Ending) (w':M):Prop:=
 aj w w'/\((c≠0/\e = K (I #[N U 0 0,Z .i64 c])/\ag w' (X*F))\/(c=0/\∃ u g,g.Perm L/\kn Ad g/\e = K (I #[u,Z .i64 0])/\ag w' (dJ u (g.map aQ.nm)*(X*F))))
theorem Im (E:B<=1000000) (A:mN T p=0) (C:(eX (T (cm T p).2)).length<=Ay) (h:ag w (ig t q m T k B O*F)):Calls Q 22 #[ay t.f,W (str p)] w (Ux (mN T p) (eX (T (cm T p).2)) (ig t q m T k B O) F w):=by
 obtain ⟨s,i,r,z⟩:=eH h;refine (Ah i (by omega) A C z).mono ?_;rintro e w' ⟨s',d,g,⟨l,rfl,j⟩|⟨l,u,o,a1,y,rfl,j⟩⟩
 .exact ⟨d,.inl ⟨l,rfl,eJ (i.rd g) (by rw [g.B];exact r) j⟩⟩
 .exact ⟨d,.inr ⟨l,u,o,a1,y,rfl,(eJ (i.rd g) (by rw [g.B];exact r) (j.to (by ac_rfl:_=eG t s' m O*(dJ u (o.map aQ.nm)*F)))).to (by ac_rfl)⟩⟩
def DK (t:Pl) (q:Dk t.n) (m:Nat) (T:Tr) (k B:Nat) (O:kY) (g:Int) (o:Nat × Nat) (R:Int->Tr->Nat->Prop) (F:ai) (w:M) (e:Ending) (w':M):Prop:=
 aj w w'/\∃ c,e = K (Z .i64 c)/\((c≠0/\(∃ T' k',R c T' k')/\ag w' (ig t q m T k B O*F))\/(c=0/\∃ T' k',R 0 T' k'/\ag w' (ig t q m T' k' (B+1) (iE O g o)*F)))
theorem Oo {f:AF} {fd:Int} {id at' vc:Nat} {va:Option Addr} {l:List UInt8} {D:ai} (hB:B<=1000000) (d0:kg k at' f l=0) (hy:aM O fd=V (id,at')) (A:T id=V (.file f)) (C:at'<=122880) (e0:l.length<=1000000000) (b0:l.length<=vc) (z:∀ i P,ag i (D*P)->Rd i (N va l.length vc) l) (h:ag w (ig t q m T k B O*(D*F))) :
  Calls Q 13 #[ay t.f,Z .i64 fd,N va l.length vc] w (DK t q m T k B O fd (id,at'+l.length) (gQ T k id at' f l) (D*F) w):=by
 obtain ⟨s,j,u,y⟩:=eH h;refine (Gz j (by omega) d0 hy A C e0 b0 z y).mono ?_;rintro e w' ⟨c,T',k',s',o,rfl,d,hr⟩;refine ⟨d,c,rfl,?_⟩;rcases hr with ⟨E,r,g⟩|⟨rfl,c0,hg,g⟩
 .exact .inl ⟨E,⟨T',k',o⟩,eJ (j.rd r) (by rw [r.B];exact u) g⟩
 .exact .inr ⟨rfl,T',k',o,eJ c0 (by have:=mQ.go hg;omega) g⟩
end
end Go.Proofs.Cl
namespace Go.SL
open Go.RowKit Go.Proofs.Cl
theorem OL (a b:List UInt8):str a++str b=str (a++b):=by
 unfold str;apply ByteArray.ext;simp
section
variable {T T':Tr} {d id x k:Nat} {nm:List UInt8} {kd:Int} {L R X:List aQ} {f:AF} {p:List UInt8} {ps qs:List (List UInt8)}
theorem N7:No T d id nm kd d=V (.dir (eX (T d)++[⟨id,nm⟩])):=bA _ _ _
theorem Pn (h:id≠d):No T d id nm kd id=V (lV kd):=(aJ _ _ h).trans (bA _ _ _)
theorem NH (h:x≠d) (g:x≠id):No T d id nm kd x=T x:=(aJ _ _ h).trans (aJ _ _ g)
theorem lF {i:Nat} (h:T x=V (.dir R)) (g:iX R nm=V i):aN T x [nm]=(0,(R.getD i aQ.no).nd):=by
 have e:dZ (T x) nm=(0,(R.getD i aQ.no).nd):=by rw [h,iU g]
 rw [gX (by rw [e]),e,GC]
theorem Ld {i j:Nat} {g:List UInt8} (h:T x=V (.dir R)) (o:iX R nm=V i) (l:T (R.getD i aQ.no).nd=V (.dir X)) (r:iX X g=V j):aN T x [nm,g]=(0,(X.getD j aQ.no).nd):=by
 have e:dZ (T x) nm=(0,(R.getD i aQ.no).nd):=by rw [h,iU o]
 rw [gX (by rw [e]),e];exact lF l r
theorem rS (i:ps≠[]) (l:aN T 1 ps.dropLast=(0,d)) (g:T d=V (.dir L)) (j:iX L (bW ps)=U):fh T ps=0:=by
 unfold fh;rw [if_neg i,l,if_neg (by simp),g,mn j];rfl
theorem mf (g:aN T 1 ps.dropLast=(0,d)):cK T ps=d:=by unfold cK;rw [g]
theorem tW (g:iX L nm=U) (j:L.length<3840) (i:aU (L.length+1)<=k+aU L.length):jQ k L nm=0:=by
 unfold jQ;rw [g,if_neg (by decide),if_neg (by omega),if_neg (by omega)]
theorem uD (r:aZ p=V ps) (o:ps≠[]) (j:aN T 1 ps.dropLast=(0,d)) (g:T d=V (.dir L)) (i:iX L (bW ps)=U) (l:L.length<3840) (u:1+aU (L.length+1)<=k+aU L.length) (y:0<k):jh T k p=0:=by
 have e:eX (T d)=L:=by rw [g];rfl
 unfold jh;rw [r];simp only;rw [rS o j g i,if_neg (by simp),mf j,e,oV,if_neg (show ¬ 122880<=32*L.length by omega),if_neg (by simp),if_neg (show ¬ k=0 by omega)];exact tW i l (by omega)
structure Made (n:Nat) (T T':Tr) (d id:Nat) (nm:List UInt8) (kd:Int) (L:List aQ):Prop where
 no:T id=none
 pos:0<id
 lt:id<n
 dir:T' d=some (.dir (L++[⟨id,nm⟩]))
 new:T' id=some (lV kd)
 pE:∀ x,x≠d->x≠id->T' x=T x
theorem tU {n k':Nat} {c:Int} (E:aZ p=V ps) (hw:aN T 1 ps.dropLast=(0,d)) (l:T d=V (.dir L)) (h:mF n T k kd p c T' k') (A:c=0):(∃ id,Made n T T' d id (bW ps) kd L)/\k'=RV k L:=by
 obtain ⟨-,j⟩:=h;obtain ⟨qs,r,id,o,g,e3,i,u,y,rfl,rfl⟩:=j A;obtain rfl:ps=qs:=by rw [E] at o;exact Option.some.inj o
 rw [mf hw] at g ⊢;obtain rfl:L=r:=by rw [l] at g;injection g with g;injection g
 have C:id≠d:=by rintro rfl;rw [l] at i;cases i
 refine ⟨⟨id,i,u,y,?_,Pn C,fun x z j=>NH z j⟩,rfl⟩;rw [N7,l];rfl
end
section
variable {T T1 T2 T4 T5:Tr} {a b k k':Nat} {c:Int}
abbrev pD:List UInt8:=[47,100]
abbrev LV:List UInt8:=[47,100,47,97]
abbrev pB:List UInt8:=[47,98]
abbrev U0:List UInt8:=[47,100,47,101]
abbrev qx:List UInt8:=[104,101,108,108,111]
theorem lR:aZ pD=V [[100]]:=by decide
theorem mY:aZ LV=V [[100],[97]]:=by decide
theorem yQ:aZ pB=V [[98]]:=by decide
theorem Kd:aZ U0=V [[100],[101]]:=by decide
theorem DQ:aZ [47]=V []:=by decide
theorem uq (a:Nat) (nm:List UInt8):iX [⟨a,nm⟩] nm=V 0:=by simp [iX]
structure UG (n:Nat) (T:Tr) (a:Nat):Prop where
 ne:a≠1
 root:T 1=some (.dir [⟨a,[100]⟩])
 da:T a=some (.dir [])
 pE:∀ x,x≠1->x≠a->T x=none
theorem St:jh eQ 18 pD=0:=uD lR (by simp) (d:=1) (L:=[]) rfl rfl rfl (by simp) (by decide) (by decide)
theorem Qh {n:Nat} (h:mF n eQ 18 2 pD c T1 k') (j:c=0):(∃ a,UG n T1 a)/\k'=16:=by
 obtain ⟨⟨a,m⟩,l⟩:=tU (d:=1) (L:=[]) lR rfl rfl h j;have ne:a≠1:=by intro e;have:=m.no;rw [e] at this;cases this
 refine ⟨⟨a,ne,m.dir,m.new,fun x g i=>(m.pE x g i).trans (if_neg g)⟩,by rw [l];decide⟩
structure Ns (n:Nat) (T:Tr) (a b:Nat) (R:List aQ) (f:AF):Prop where
 a1:a≠1
 b1:b≠1
 ba:b≠a
 root:T 1=some (.dir R)
 da:T a=some (.dir [⟨b,[97]⟩])
 fb:T b=some (.file f)
theorem Sm {n:Nat} (h:UG n T1 a):jh T1 16 LV=0:=uD mY (by simp) (lF h.root (uq a _)) h.da rfl (by simp) (by decide) (by decide)
theorem RE {n:Nat} (g:UG n T1 a) (h:mF n T1 16 1 LV c T2 k') (i:c=0):(∃ b,Ns n T2 a b [⟨a,[100]⟩] (kr 1))/\k'=14:=by
 obtain ⟨⟨b,m⟩,j⟩:=tU (d:=a) (L:=[]) mY (lF g.root (uq a _)) g.da h i;have ne:b≠1:=by intro e;have:=m.no;rw [e,g.root] at this;cases this
 have l:b≠a:=by intro e;have:=m.no;rw [e,g.da] at this;cases this
 exact ⟨⟨b,g.ne,ne,l,by rw [m.pE 1 (Ne.symm g.ne) (Ne.symm ne)];exact g.root,m.dir,m.new⟩,by rw [j];decide⟩
theorem wk {n:Nat} {f:AF} (h:Ns n T a b [⟨a,[100]⟩] f):aN T 1 [[100],[97]]=(0,b):=Ld h.root (uq a _) h.da (uq b _)
theorem yu {n:Nat} {f:AF} (h:Ns n T a b [⟨a,[100]⟩] f):cm T LV=(0,b):=(eM mY).trans (wk h)
theorem B0 {n:Nat} {f:AF} (h:Ns n T a b [⟨a,[100]⟩] f):(cm T LV).1=0/\T (cm T LV).2=V (.file f):=by rw [yu h];exact ⟨rfl,h.fb⟩
def uy:AF:=(kr 1).wr 0 qx
theorem P6:kg 14 0 (kr 1) qx=0:=by decide +kernel
theorem QK {n:Nat} (g:Ns n T a b [⟨a,[100]⟩] (kr 1)) (h:gQ T 14 b 0 (kr 1) qx c T4 k') (o:c=0):Ns n T4 a b [⟨a,[100]⟩] uy/\k'=13:=by
 obtain ⟨-,l⟩:=h;rcases l o with ⟨e,_⟩|⟨_,i,j⟩
 .cases e
 .rw [i,j]
  refine ⟨⟨g.a1,g.b1,g.ba,(aJ _ _ (Ne.symm g.b1)).trans g.root,(aJ _ _ (Ne.symm g.ba)).trans g.da,bA _ _ _⟩,by decide +kernel⟩
theorem PD {n:Nat} (h:Ns n T a b [⟨a,[100]⟩] uy):gT T 13 LV pB=0:=by
 have g:fh T [[98]]=0:=rS (d:=1) (by simp) rfl h.root (by simp [iX,bW]);unfold gT;rw [mY,yQ];simp only;rw [wk h,if_neg (by simp),h.fb];simp only;rw [g,if_neg (by simp),if_neg (by decide),mf (d:=1) rfl,h.root];exact tW (by simp [iX,bW,eX]) (by simp [eX]) (by simp [eX];decide)
def FH:AF:={ uy with lk:=2 }
theorem Rh {n:Nat} (g:Ns n T4 a b [⟨a,[100]⟩] uy) (h:BR T4 13 LV pB c T5 k') (y:c=0):Ns n T5 a b [⟨a,[100]⟩,⟨b,[98]⟩] FH/\k'=13:=by
 obtain ⟨-,u⟩:=h;obtain ⟨ps,qs,id,f,L,o,r,l,i,j,z,rfl,rfl⟩:=u y;obtain rfl:=Option.some.inj (mY.symm.trans o);obtain rfl:=Option.some.inj (yQ.symm.trans r);rw [wk g] at l;obtain rfl:b=id:=(Prod.mk.inj l).2;rw [mf (d:=1) rfl,g.root] at j;obtain rfl:[⟨a,[100]⟩]=L:=by injection j with j;injection j
 obtain rfl:uy=f:=by rw [g.fb] at i;injection i with i;injection i
 rw [mf (d:=1) rfl];refine ⟨⟨g.a1,g.b1,g.ba,(aJ _ _ (Ne.symm g.b1)).trans (bA _ _ _),?_,bA _ _ _⟩,(show 13+aU 1-aU 2=13 by decide)⟩;exact (aJ _ _ (Ne.symm g.ba)).trans ((aJ _ _ g.a1).trans g.da)
section
variable {n:Nat} (h:Ns n T a b [⟨a,[100]⟩,⟨b,[98]⟩] FH)
include h
theorem LS:cm T pB=(0,b):=(eM yQ).trans (lF (i:=1) h.root (by simp [iX,List.findIdx?_cons]))
theorem Tt:cm T pD=(0,a):=(eM lR).trans (lF (i:=0) h.root (by simp [iX,List.findIdx?_cons]))
theorem uJ:(cm T pB).1=0/\wg (T (cm T pB).2)=(1,2,5):=by
 rw [LS h];dsimp only;rw [h.fb];exact ⟨rfl,rfl⟩
theorem xX:gV T pB 1 3=0:=by
 unfold gV;rw [if_pos (by decide),LS h,if_neg (by simp),h.fb]
theorem Nb:nA T pB 1 3=[101,108,108]:=by
 unfold nA;rw [LS h];dsimp only;rw [h.fb];decide
theorem tZ:mN T [47]=0/\eX (T (cm T [47]).2)=[⟨a,[100]⟩,⟨b,[98]⟩]:=by
 have e:cm T [47]=(0,1):=eM DQ;unfold mN;rw [e];dsimp only;rw [if_neg (by simp),h.root];exact ⟨rfl,rfl⟩
omit h in
theorem GU {j:List aQ} (r:j.Perm [⟨a,[100]⟩,⟨b,[98]⟩]) (z:kn Ad j):j.map aQ.nm=[[98],[100]]:=by
 have u:=r.length_eq
 match j,u with
 | [x,y],_=>
  have l:=r.map aQ.nm;simp only [W2,List.map_nil] at l ⊢
  have o:x.nm≠y.nm:=by
   have:=l.nodup_iff.2 (by decide:[([100]:List UInt8),[98]].Nodup);simpa using this
  have A:x.nm=[100]\/x.nm=[98]:=by simpa using l.mem_iff.1 (List.mem_cons_self (a:=x.nm) (l:=[y.nm]))
  have C:y.nm=[100]\/y.nm=[98]:=by simpa using l.mem_iff.1 (show y.nm ∈ [x.nm,y.nm] by simp)
  rcases A with g|g <;> rcases C with i|i
  .exact absurd (g.trans i.symm) o
  .have:=(List.pairwise_cons.1 z).1 y (by simp)
   unfold Ad at this;rw [g,i] at this;exact absurd this (by decide)
  .rw [g,i]
  .exact absurd (g.trans i.symm) o
end
end
end Go.SL
namespace Go.Proofs.Cl
open Go.RowKit Go.SL Go.Proofs.Nn Go.Proofs.Ba Go.Proofs.Su Go.Proofs.Fs
attribute [local go_sem] Oper.semAt_some
section
variable {n:Nat} {x:Fx n} {b v pc qc fc k id:Nat} {T:Tr} {w:M} {F:ai} {p p1 p2:List UInt8} {ps qs:List (List UInt8)} {L:List aQ} {c:Int}
theorem CE {X g:ai} {e:Ending} {w':M} (i:c≠0) (j:e = .panicked (lG c)) (d:aj w w') (h:ag w' g):JB c X g w e w':=⟨d,.inr ⟨i,j,h⟩⟩
theorem BV {X:ai} (A:Tidy n T) (j:aZ p=V ps) (i:aN T 1 ps=(0,id)) (C:T id=V (.dir L)) (h:ag w (vA x b v T k*(az pc p*F))) :
  Calls Q 35 #[ay v,ay pc,ay fc] w (JB 8 X (vA x b v T k*(az pc p*F)) w):=by
 refine aH fun e0 HQ=>?_;have cp:w.cell? ⟨pc,0,U⟩=V (W (str p)):=h.ah.cell 0;have l:=ae h;obtain ⟨d0,z⟩:=cV j;have y:=ae (dz (w:=w) j);have HT:=ae A;have E:=ae z;have HW:=ae i;have HY:=ae C;clear h A j d0 z i C
 go_enter func35,ntmps35
 go_wp2_with fail
 refine y.out.mono ?_;rintro e w2 ⟨u,rfl,d2,r⟩;have g:=(r.under l.out).to (by ac_rfl:_=vA x b v T k*(dJ u ps*(az pc p*F)));have i:=eR HT.out E.out fR g;rw [HW.out] at i;have o:=ae i;clear cp y r g l i
 go_wp2_with fail
 refine o.out.mono ?_;rintro e w3 ⟨⟨-,rfl⟩|⟨hc,-⟩,d3,g⟩
 .have b0:=ae (lz HY.out g)
  obtain ⟨ua,uc,rfl⟩:=ee (g.to (by ac_rfl:_=dJ u ps*(vA x b v T k*(az pc p*F))));clear g o
  go_wp2_with fail
  refine b0.out.mono ?_;rintro e w7 (⟨c0,_⟩|⟨-,rfl,d7,h7⟩)
  .exact absurd c0 (by show ¬ (2:Int)=1;decide)
  .exact ⟨rfl,HQ.out _ _ (CE (by decide) rfl ((d2.trans d3).trans d7) (h7.to (aF _ _ _)).right)⟩
 .exact absurd rfl hc
theorem BP {X:ai} (ht:Tidy n T) (y:aZ p=V ps) (i0:ps≠[]) (j:aN T 1 ps=(0,id)) (hy:T id=V (.dir L)) (hL:L≠[]) (h:ag w (vA x b v T k*(az pc p*F))) :
  Calls Q 49 #[ay v,ay pc] w (JB 11 X (vA x b v T k*(az pc p*F)) w):=by
 refine aH fun u0 HQ=>?_;have cp:w.cell? ⟨pc,0,U⟩=V (W (str p)):=h.ah.cell 0;have b0:=ae h;obtain ⟨r0,hl⟩:=cV y;have hk:=ae (dz (w:=w) y);have r:¬ (ps.length:Int)=0:=by have:=List.length_pos_iff.2 i0;omega
 have u:(0:Int)<((dR 1 L).sz:Int):=by have:=List.length_pos_iff.2 hL;show (0:Int)<((32*L.length:Nat):Int);omega
 have HT:=ae ht;have HL:=ae hl;have HW:=ae j;have HY:=ae hy;have c0:=ae r;have d0:=ae u;clear h ht y r0 hl j hy i0 hL r u
 go_enter func49,ntmps49
 go_wp2_with fail
 refine hk.out.mono ?_;rintro e w2 ⟨l0,rfl,d2,h2⟩;have i:=(h2.under b0.out).to (by ac_rfl:_=vA x b v T k*(dJ l0 ps*(az pc p*F)));have j:=eR HT.out HL.out fR i;rw [HW.out] at j;have Hw:=ae j;clear cp hk h2 i b0 j
 go_wp2_with fail
 refine Hw.out.mono ?_;rintro e w3 ⟨⟨-,rfl⟩|⟨hc,-⟩,d3,i⟩
 .have h0:=ae (jH HY.out i)
  obtain ⟨ua,uc,rfl⟩:=ee (i.to (by ac_rfl:_=dJ l0 ps*(vA x b v T k*(az pc p*F))));clear i Hw
  go_wp2_with fail
  refine h0.out.mono ?_;rintro e g ⟨z,rfl,m0,n0,s0,o0,d7,h7⟩;obtain ⟨hX,k0,g0⟩:=lA m0;have o:=h7.alloc (Y kX 73 (0,0));have Hz:=ae o.heap;have l:=o.setRow (cs':=ints z.l);have A:((g.alloc (Y kX 73 (0,0))).setRow g.heap.size (ints z.l)).cell? ⟨g.heap.size,0,U⟩=V (Z .i64 2):=by rw [show (2:Int)=z.kd from n0.symm];exact l.cell 0
  have C:((g.alloc (Y kX 73 (0,0))).setRow g.heap.size (ints z.l)).cell? ⟨g.heap.size,2,U⟩=V (Z .i64 ((dR 1 L).sz:Int)):=by rw [show ((dR 1 L).sz:Int)=z.sz from o0.symm];exact l.cell 2
  have HE:=ae (l.to (by ac_rfl:_=(dJ (N ua ps.length uc) ps*pt g.heap.size (Y (ints z.l) 73 (0,0)))*(vA x b v T k*(az pc p*F)))).right;have E:=ae ((((d2.trans d3).trans d7).alloc (Y kX 73 (0,0))).setRow g.heap.size (ints z.l));have f0:=ae k0;have e0:=ae g0;have HX:=ae hX;have N0:=ae A;have N2:=ae C;clear h0 o l hX k0 g0 A C d7 h7 m0 n0 s0 o0;unfold kX at *
  go_upto_region 3 with (refine wpList_store_row (by exact rfl) 73 (.tmp 5) (.tmp 13) (by exact rfl) g.heap.size (ints z.l) (by exact rfl) (by exact rfl) 73 _ (by with_reducible exact Hz.out) e0.out (by rw [HX.out];rfl) f0.out ?_)
  have A:=N0.out;have C:=N2.out;have r:=c0.out;have u:=d0.out;have p0:=ae fun w=>cT w 11 (by decide);have q0:=ae (HQ.out _ _ (CE (X:=X) (c:=11) (by decide) rfl E.out HE.out));clear Hz f0 e0 HX N0 N2 c0 d0 E HE;generalize ((dR 1 L).sz:Int)=sz at *;generalize ps.length=ln at *
  go_wp2_with fail
  refine (p0.out _).mono ?_;rintro e w9 ⟨rfl,rfl⟩;exact ⟨rfl,q0.out⟩
 .exact absurd rfl hc
theorem yA {X:ai} (ht:Tidy n T) (z:aZ p1=V ps) (A:aZ p2=V qs) (y:ps≠[]) (j:aN T 1 ps=(0,id)) (hy:T id=V (.dir L)) (hb:nD ps qs=true) (h:ag w (vA x b v T k*(az pc p1*(az qc p2*F)))) :
  Calls Q 57 #[ay v,ay pc,ay qc] w (JB 11 X (vA x b v T k*(az pc p1*(az qc p2*F))) w):=by
 refine aH fun F0 HQ=>?_;have k0:w.cell? ⟨pc,0,U⟩=V (W (str p1))/\w.cell? ⟨qc,0,U⟩=V (W (str p2)):=⟨h.ah.cell 0,h.au.cell 0⟩
 have b0:=ae h;obtain ⟨r0,hl⟩:=cV z;obtain ⟨s0,f0⟩:=cV A;have hk:=ae (dz (w:=w.drew) z);have e0:=ae fun w'=>dz (w:=w') A;have r:¬ (ps.length:Int)=0:=by have:=List.length_pos_iff.2 y;omega
 have HT:=ae ht;have HL:=ae hl;have l0:=ae f0;have HW:=ae j;have HY:=ae hy;have c0:=ae r;have m0:=ae y;have HB:=ae hb;clear h ht z A r0 s0 hl f0 j hy y r hb
 go_enter func57,ntmps57
 go_wp2_with fail
 go_region_held3 (fun w'=>w'.cell? ⟨pc,0,U⟩=V (W (str p1))/\w'.cell? ⟨qc,0,U⟩=V (W (str p2)))
  (first|exact k0|exact k1|exact k2|go_keep)
  (first
   | (go_at_call 32;(with_reducible refine (e0.out _).mono ?_);rintro e w5 ⟨u2,rfl,d5,l⟩;have g:=l.under o;have k2:w5.cell? ⟨pc,0,U⟩=V (W (str p1))/\w5.cell? ⟨qc,0,U⟩=V (W (str p2)):=⟨g.aC.cell 0,g.aK.cell 0⟩)
   | (go_at_call 32;(with_reducible refine hk.out.mono ?_);rintro e w4 ⟨u0,rfl,d4,h4⟩;have o:=h4.under b0.out.drew;have k1:w4.cell? ⟨pc,0,U⟩=V (W (str p1))/\w4.cell? ⟨qc,0,U⟩=V (W (str p2)):=⟨o.au.cell 0,o.aC.cell 0⟩))
 rename_i n0;have i:=g.to (by ac_rfl:_=vA x b v T k*(dJ u0 ps*(dJ u2 qs*(az pc p1*(az qc p2*F)))));obtain ⟨C,E,rfl⟩:=ee i.ah;obtain ⟨va,vc,rfl⟩:=ee i.au;have j:=eR HT.out HL.out fR i;rw [HW.out] at j;have Hw:=ae j;have D5:=ae (((aj.refl w).drew.trans d4).trans d5);have r:=c0.out;clear n0 k0 k1 k2 h4 o l g i d4 d5 hk e0 b0 j c0
 go_wp2_with fail
 refine Hw.out.mono ?_;rintro e w6 ⟨⟨-,rfl⟩|⟨hc,-⟩,d6,l⟩
 .have g:=l.to (by ac_rfl:_=dJ (N C ps.length E) ps*(dJ (N va qs.length vc) qs*(vA x b v T k*(az pc p1*(az qc p2*F)))))
  have u:=Ip m0.out HL.out l0.out g;rw [HB.out] at u;have d0:=ae u;have ND:=ae fun (w':M) (h':ag w' (vA x b v T k*(dJ (N C ps.length E) ps*(dJ (N va qs.length vc) qs*(az pc p1*(az qc p2*F))))))=>jH HY.out h';have D6:=ae (D5.out.trans d6);clear l g u Hw d6 D5 r
  go_wp2_with fail
  refine d0.out.mono ?_;rintro e w8 ⟨rfl,d8,i⟩;have hn:=ae (ND.out w8 (i.to (by ac_rfl)));have D8:=ae (D6.out.trans d8);clear d0 i d8 ND D6
  go_wp2_with fail
  refine hn.out.mono ?_;rintro e w9 ⟨i0,rfl,g0,h0,x0,D0,d9,h9⟩;obtain ⟨q0,-,-⟩:=Aa g0 w9;rw [show i0.kd=2 from h0] at q0;have o0:=ae (HQ.out _ _ (CE (X:=X) (c:=11) (by decide) rfl (D8.out.trans d9) (h9.to (by ac_rfl:_=(dJ (N C ps.length E) ps*dJ (N va qs.length vc) qs)*(vA x b v T k*(az pc p1*(az qc p2*F))))).right));have p0:=ae fun w=>cT w 11 (by decide);generalize ints i0.l=yl at *;clear hn g0 h0 x0 D0 d9 h9 D8
  go_wp2_with fail
  refine (p0.out _).mono ?_;rintro e G0 ⟨rfl,rfl⟩;exact ⟨rfl,o0.out⟩
 .exact absurd rfl hc
end
section
variable {t:Pl} {q:Dk t.n} {s:Ds} {T:Tr} {k m B id:Nat} {O:kY} {w:M} {F:ai} {p p1 p2:List UInt8} {ps qs:List (List UInt8)} {L:List aQ}
theorem refused {c:Int} {fs:ai} {g:M} {i:ai} {v:G} {f:FuncId} (r:c≠0) (u:mQ t q s T k) (o:s.B<=B)
  (h:Calls Q f #[ay t.f,v] g fun e w'=>∃ s',e = K (Z .i64 c)/\aj g w'/\s.Rd s'/\ag w' (eG t s' m O*((if c=0 then emp else i)*F))) :
  Calls Q f #[ay t.f,v] g fun e w'=>e = K (Z .i64 c)/\aj g w'/\ag w' (i*(ig t q m T k B O*F)):=by
 refine h.mono ?_;rintro e w' ⟨s',rfl,d,l,j⟩;rw [if_neg r] at j;exact ⟨rfl,d,(eJ (u.rd l) (by rw [l.B];exact o) j).to (aF _ _ _)⟩
theorem FN (E:B<=1000000) (z:aZ p=V ps) (A:aN T 1 ps=(0,id)) (C:T id=V (.dir L)) (h:ag w (ig t q m T k B O*F)) :
  Calls Q 12 #[ay t.f,W (str p)] w (Ab (ig t q m T k B O) (Z .i64 8) F w):=by
 refine aH fun e0 l=>?_;obtain ⟨s,i,g,u⟩:=eH h;have j:=(u.alloc (Y #[ay t.f] 25 (0,0))).alloc (Y #[W (str p)] 9 (0,0));simp only [E2] at j;have r:=ae (((aj.refl w).alloc (Y #[ay t.f] 25 (0,0))).alloc (Y #[W (str p)] 9 (0,0)))
 have y:=ae (refused (c:=8) (B:=B) (fs:=emp) (by decide) i g (kE i (by omega) 35 #[ay (w.heap.size+1),ay w.heap.size] (az (w.heap.size+1) p) 8 emp (az (w.heap.size+1) p) (enters func35 (by kernel_rfl) rfl)
  (fun x v b w1 d0 c0=>BV i.ty z A C c0) ((j.to (by unfold az;ac_rfl:_=pt w.heap.size (Y #[ay t.f] 25 (0,0))*(eG t s m O*(az (w.heap.size+1) p*F)))).right)))
 clear h j i g u z A C E
 go_enter func12,ntmps12
 go_wp2_with fail
 refine y.out.mono ?_;rintro e w2 ⟨rfl,o,g⟩;have b0:=ae (l.out _ _ ⟨rfl,r.out.trans o,g.right⟩);clear y r o g l
 go_wp2_with fail
 exact b0.out
theorem G8 (hB:B<=1000000) (C:aZ p=V ps) (A:ps≠[]) (E:aN T 1 ps=(0,id)) (hy:T id=V (.dir L)) (y:L≠[]) (h:ag w (ig t q m T k B O*F)) :
  Calls Q 18 #[ay t.f,W (str p)] w (Ab (ig t q m T k B O) (Z .i64 11) F w):=by
 refine aH fun e0 j=>?_;obtain ⟨s,i,g,r⟩:=eH h;have u:=r.alloc (Y #[W (str p)] 9 (0,0));have o:=ae ((aj.refl w).alloc (Y #[W (str p)] 9 (0,0)))
 have z:=ae (refused (c:=11) (B:=B) (fs:=emp) (by decide) i g (kE i (by omega) 49 #[ay w.heap.size] (az w.heap.size p) 11 emp (az w.heap.size p) (enters func49 (by kernel_rfl) rfl)
  (fun x v b w1 d0 c0=>BP i.ty C A E hy y c0) (u.to (aF _ _ _))))
 clear h u i g r C E hy hB A y
 go_enter func18,ntmps18
 go_wp2_with fail
 refine z.out.mono ?_;rintro e w2 ⟨rfl,l,g⟩;have b0:=ae (j.out _ _ ⟨rfl,o.out.trans l,g.right⟩);clear z o l g j
 go_wp2_with fail
 exact b0.out
theorem Cz (hB:B<=1000000) (C:aZ p1=V ps) (E:aZ p2=V qs) (A:ps≠[]) (hw:aN T 1 ps=(0,id)) (hy:T id=V (.dir L)) (y:nD ps qs=true) (h:ag w (ig t q m T k B O*F)) :
  Calls Q 23 #[ay t.f,W (str p1),W (str p2)] w (Ab (ig t q m T k B O) (Z .i64 11) F w):=by
 refine aH fun e0 l=>?_;obtain ⟨s,i,g,u⟩:=eH h;have j:=(u.alloc (Y #[W (str p1)] 9 (0,0))).alloc (Y #[W (str p2)] 9 (0,0));simp only [E2] at j;have r:=ae (((aj.refl w).alloc (Y #[W (str p1)] 9 (0,0))).alloc (Y #[W (str p2)] 9 (0,0)))
 have z:=ae (refused (c:=11) (B:=B) (fs:=emp) (by decide) i g (kE (O:=O) (m:=m) i (by omega) 57 #[ay w.heap.size,ay (w.heap.size+1)] (az w.heap.size p1*az (w.heap.size+1) p2) 11 emp (az w.heap.size p1*az (w.heap.size+1) p2) (enters func57 (by kernel_rfl) rfl)
  (fun x v b w1 b0 d0=>(yA (x:=x) (b:=b) (v:=v) (k:=k) (F:=ez t m O*b0) i.ty C E A hw hy y (d0.to (by ac_rfl))).mono fun e w' hq=>by simpa only [ax] using hq) (j.to (by unfold az;ac_rfl))))
 clear h j i g u C hw hy hB A y E
 go_enter func23,ntmps23
 go_wp2_with fail
 refine z.out.mono ?_;rintro e w2 ⟨rfl,o,g⟩;have c0:=ae (l.out _ _ ⟨rfl,r.out.trans o,g.right⟩);clear z r o g l
 go_wp2_with fail
 exact c0.out
end
end Go.Proofs.Cl

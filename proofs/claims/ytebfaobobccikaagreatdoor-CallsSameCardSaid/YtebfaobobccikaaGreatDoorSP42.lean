/- Steps. -/
import Derived.Test.YtebfaobobccikaaGreatDoorSP41
import Derived.Test.YtebfaobobccikaaGreatDoorSP31
set_option linter.all false
set_option maxRecDepth 99999
set_option maxHeartbeats 0
open Go.SL
open Go.Value renaming int->W,slice->U,pointer->H,string->Z,tuple->I
open Go.Obj renaming cells->V
open Go.Ending renaming returned->K
open Go renaming World->M,Value->G
open Go.Proofs.Tryz renaming prog->N
open Option renaming some->Y,none->Q
open Bool renaming true->Z'
open Go.Proofs.Tryz
open Go.World renaming size_alloc->E2,block_lt_of_cell?->O2
open List renaming length_map->H2,getElem?_eq_getElem->M2,setIfInBounds_toArray->P2,set_cons_zero->R2,length_append->S2,length_singleton->W2,take_of_length_le->X2,map_cons->Y2
open Nat renaming le_refl->K2
open Option renaming isSome_none->Z2
namespace Go.SL
def nH (T:Tr) (p:List UInt8):Int:=if (bG T p).1≠0 then (bG T p).1 else match T (bG T p).2 with
 | some (.dir _)=>0
 | _=>8
end Go.SL
namespace Go.Proofs.Cl
open RowKit SL Proofs.Nn Proofs.Ba Proofs.Su Proofs.Fs
attribute [local go_sem] Oper.semAt_some
def gK (a:Nat) (v:G):ai:=pt a (V #[v] 31 (0,0))
def AP (a:Nat) (l:List (List UInt8)):ai:=ex fun u=>dh u l*gK a u
theorem rO {w:M} {a:Nat} {l:List (List UInt8)} {F:ai}:ag w (AP a l*F)↔∃ u,ag w (dh u l*(gK a u*F)):=by
 unfold AP;rw [ag.aw];exact exists_congr fun u=>by rw [ax]
def wW (a:Nat) (L:List aN):ai:=ex fun g:List aN=>fact (g.Perm L/\kU Cu g)*AP a (g.map aN.nm)
section
variable {n:Nat} {x:Fx n} {b v pc rc k:Nat} {T:Tr} {w:M} {F:ai} {p:List UInt8}
def Q6 (rc:Nat) (v:G) (g:List aN) (j:ai) (w0:M) (u:G) (wr:M):Prop:=
 ∃ i:Nat,i<=g.length/\u = W .i64 (i:Int)/\aj w0 wr/\ag wr (AP rc ((g.take i).map aN.nm)*(il v g*j))
theorem Qf (ht:Tidy n T) (p0:nH T p=0) (Y0:(dM (T (bG T p).2)).length<=Dv) (h:ag w (vA x b v T k*(ay pc p*(gK rc (U Q 0 0)*F)))) :
  Calls N 39 #[az v,az pc,az rc] w (Jk (nH T p) (vA x b v T k*(ay pc p*(wW rc (dM (T (bG T p).2))*F))) (vA x b v T k*(ay pc p*(gK rc (U Q 0 0)*F))) w):=by
 refine aH fun g1 HQ=>?_;have y:=h.to (by unfold vA;ac_rfl:_=ea x b (ft T) k*(pt v (bN b n)*(ay pc p*(gK rc (U Q 0 0)*F))));have k0:w.cell? ⟨v,0,Q⟩=Y (az b)/\w.cell? ⟨v,1,Q⟩=Y (W .i64 (n:Int))/\w.cell? ⟨pc,0,Q⟩=Y (Z (str p)):=⟨y.ah.cell 0,y.ah.cell 1,y.au.cell 0⟩
 have x0:=ae Y0;clear Y0;have r0:=ae h;have HT:=ae ht
 have f1:Hid (∀ e,e≠0->e=nH T p->∀ (w':M),aj w w'->ag w' (vA x b v T k*(ay pc p*(gK rc (U Q 0 0)*F)))->g1 (.panicked (lG e)) w'):=fun e hc he w' d C=>
  HQ.out _ _ ⟨d,.inr ⟨by rw [<- he];exact hc,by rw [he],C⟩⟩
 clear h y
 cases C:aU p with
 | none=>
  exact absurd ((by unfold nH;rw [su C];rfl:(1:Int)=nH T p).trans p0) (by decide)
 | some ps=>
  obtain ⟨o1,hl⟩:=cU C;have h0:=dN (T:=T) C;have u0:(dM (T (aQ T 1 ps).2)).length<=Dv:=by have:=x0.out;rw [h0] at this;exact this
  have s0:=ae u0;clear u0 x0;have hk:=ae (df (w:=w.drew) C);have o:=fun y=>ht.walk ps ht.root.choose_spec y;have hw:=ae fun (u:G) (w':M) (h':ag w' (vA x b v T k*(dh u ps*(ay pc p*(gK rc (U Q 0 0)*F)))))=>fm HT.out hl fE h';have e0:=ae (show nH T p=if (aQ T 1 ps).1≠0 then (aQ T 1 ps).1 else match T (aQ T 1 ps).2 with|some (.dir _)=>0|_=>8 by unfold nH;rw [h0]);rw [h0] at HQ;have HY:=ae o;clear ht C hl o1 h0 o;generalize aQ T 1 ps=pw at *;obtain ⟨wc,id⟩:=pw;dsimp only at hw HY e0 HQ s0
  by_cases hc:wc=0
  .subst hc
   obtain ⟨s1,o⟩:=HY.out rfl
   cases s1 with
   | file f=>
    have b0:(8:Int)=nH T p:=by rw [e0.out,if_neg (by decide),o]
    exact absurd (b0.trans p0) (by decide)
   | dir L=>
    have b0:nH T p=0:=by rw [e0.out,if_neg (by decide),o]
    have hE:=HT.out.ow _ _ o;have q1:L.length<=Dv:=by have:=s0.out;rw [o] at this;exact this
    have S0:=ae fun (u:G) (w':M) (h':ag w' (ea x b (ft T) k*(pt v (bN b n)*(ay pc p*(dh u ps*(gK rc (U Q 0 0)*F))))))=>IT h' (lh o) hE.ok q1 hE.nd;have L0:=ae cV;have HL:=ae hE.len;rw [b0,o] at HQ;clear o HY e0 f1 hE b0
    go_enter func39,ntmps39
    go_wp2_with fail
    go_region_held3 (fun w'=>w'.cell? ⟨v,0,Q⟩=Y (az b)/\w'.cell? ⟨v,1,Q⟩=Y (W .i64 (n:Int))/\w'.cell? ⟨pc,0,Q⟩=Y (Z (str p)))
     (first|exact k0|exact k1|exact k2|exact k3|go_keep)
     (first
     | (go_at_call 31;refine hk.out.mono ?_;rintro e w4 ⟨u,rfl,d4,h4⟩;have h5:=(h4.under r0.out.drew).to (by ac_rfl:_=vA x b v T k*(dh u ps*(ay pc p*(gK rc (U Q 0 0)*F))));have h6:=h5.to (by unfold vA;ac_rfl:_=pt v (bN b n)*(ay pc p*(ea x b (ft T) k*(dh u ps*(gK rc (U Q 0 0)*F)))));have k1:w4.cell? ⟨v,0,Q⟩=Y (az b)/\w4.cell? ⟨v,1,Q⟩=Y (W .i64 (n:Int))/\w4.cell? ⟨pc,0,Q⟩=Y (Z (str p)):=⟨h6.cell 0,h6.cell 1,h6.ah.cell 0⟩;have d1:=ae (hw.out u w4 h5))
     | (go_at_call 32;refine d1.out.mono ?_;rintro e w5 ⟨he,d5,h7⟩;obtain rfl:=he.elim (fun h=>h.2) (fun h=>absurd rfl h.1);have h8:=h7.to (by unfold vA;ac_rfl:_=ea x b (ft T) k*(pt v (bN b n)*(ay pc p*(dh u ps*(gK rc (U Q 0 0)*F)))));have k2:w5.cell? ⟨v,0,Q⟩=Y (az b)/\w5.cell? ⟨v,1,Q⟩=Y (W .i64 (n:Int))/\w5.cell? ⟨pc,0,Q⟩=Y (Z (str p)):=⟨h8.ah.cell 0,h8.ah.cell 1,h8.au.cell 0⟩;have T0:=ae (S0.out u w5 h8))
     | (go_at_call 40;refine T0.out.mono ?_;rintro e w6 ⟨u2,g,rfl,pW,sW,d6,h9⟩;have k3:w6.cell? ⟨v,0,Q⟩=Y (az b)/\w6.cell? ⟨v,1,Q⟩=Y (W .i64 (n:Int))/\w6.cell? ⟨pc,0,Q⟩=Y (Z (str p)):=⟨h9.au.cell 0,h9.au.cell 1,h9.aA.cell 0⟩;obtain ⟨E,j,rfl⟩:=aF h9))
    rename_i i1;have D6:=ae ((((aj.refl w).drew.trans d4).trans d5).trans d6);have H9:=ae (h9.to (by unfold vA;ac_rfl:_=il (U E g.length j) g*(gK rc (U Q 0 0)*(vA x b v T k*(ay pc p*(dh u ps*F))))));have j1:g.length<=3840:=by rw [pW.length_eq];exact HL.out
    have PW:=ae pW;have SW:=ae sW;clear i1 k0 k1 k2 k3 h4 h5 h6 h7 h8 h9 d4 d5 d6 d1 T0 S0 hw hk he r0 HL pW sW
    go_wp2_with fail
    refine (L0.out _).mono ?_;rintro e w7 ⟨rfl,rfl⟩;clear L0
    go_wp2_with fail
    have hZ:=H9.out.to (by ac_rfl:_=gK rc (U Q 0 0)*(il (U E g.length j) g*(vA x b v T k*(ay pc p*(dh u ps*F)))));obtain ⟨r,hz⟩:∃ r,vA x b v T k*(ay pc p*(dh u ps*F))=r:=⟨_,rfl⟩
    rw [hz] at hZ;have y:Q6 rc (U E g.length j) g r w (W .i64 0) w6:=⟨0,Nat.zero_le _,rfl,D6.out,rO.2 ⟨U Q 0 0,hZ.fq 9 1⟩⟩
    have o0:=ae y;have HZ:=ae hz.symm;obtain ⟨z,hN⟩:∃ z,g.length=z:=⟨_,rfl⟩
    have HN:=ae hN;have v1:(z:Int)<=3840:=by omega
    clear hZ y hz j1 H9 D6;rw [hN];clear hN
    go_loopw [24] (fun u wr=>Q6 rc (U E g.length j) g r w u wr) (fun u _=>z-(intOf u).toNat)
    case atStart=>exact o0.out
    case round=>
     obtain ⟨i,hi,rfl,m0,d0⟩:=hrel;rw [HN.out] at hi
     by_cases w1:i<z
     .have x1:(i:Int)<(z:Int):=by omega
      have q0:i<g.length:=by have:=HN.out;omega
      obtain ⟨v',A⟩:=rO.1 d0;obtain ⟨pa,n0,rfl⟩:=aF A;have h2:ag wr (sl 80 2 (U E g.length j) g.length (bC g)*(AP rc ((g.take i).map aN.nm)*r)):=d0.to (by unfold il;ac_rfl);obtain ⟨g0,c,e,e1,e2,l1,l2⟩:=oX h2 q0;simp only [Value.slice.injEq] at e;obtain ⟨rfl,-,rfl⟩:=e;have c1:(g.take (i+1)).map aN.nm=(g.take i).map aN.nm++[(g[i]).nm]:=by rw [List.take_add_one,List.map_append,M2 q0];rfl
      have n1:((g.take i).map aN.nm).length=i:=by rw [H2,List.length_take];omega
      generalize g[i]=x at *;have A1:(z:Int)<=(j:Int):=by have:=HN.out;omega
      have hA:=(A.alloc (V #[W .i64 (x.nd:Int),Z (str x.nm)] 80 (0,0))).alloc (V #[Z (str x.nm)] 9 (0,0));simp only [E2] at hA;generalize hl:(g.take i).map aN.nm=l at *;have c0:wr.cell? ⟨rc,0,Q⟩=Y (U pa l.length n0):=A.ah.cell 0;have y1:rc<wr.heap.size:=O2 wr _ c0;have z1:g0<wr.heap.size:=O2 wr _ e1
      have hR:pP ((wr.alloc (V #[W .i64 (x.nd:Int),Z (str x.nm)] 80 (0,0))).alloc (V #[Z (str x.nm)] 9 (0,0))) 1 (U (Y ⟨wr.heap.size+1,0,Q⟩) 1 1) 1 [Z (str x.nm)]:=
       ⟨rfl,.inr ⟨_,_,rfl,fun r1 u hu=>by
        rw [Addr.add_lit,Nat.zero_add];exact (hA.cell r1).trans (by simpa using hu)⟩⟩
      obtain ⟨i0,N0,hz,X0,K0⟩:=info_parts rH;have H0:=hA.to (by unfold dh;ac_rfl:_=sl 9 1 (U pa l.length n0) l.length (strs l)*(gK rc (U pa l.length n0)*(il (U (Y ⟨g0,0,Q⟩) g.length j) g*(pt (wr.heap.size+1) (V #[Z (str x.nm)] 9 (0,0))*(pt wr.heap.size (V #[W .i64 (x.nd:Int),Z (str x.nm)] 80 (0,0))*r)))));obtain ⟨v2,w',W0,f0,Z0⟩:=ag.append (P:=N) (ty:=31) underlying31 N0 hz X0 K0 rfl H0 hR (by intro u hu;rw [List.mem_singleton.1 hu];rfl) (by unfold maxLen;omega) (by omega);obtain ⟨aa,ac,rfl⟩:=aF f0;have h1:w'.cell? ⟨rc,0,Q⟩=Y (U pa l.length n0):=f0.ah.cell 0;have t1:w'.frozen? ⟨rc,0,Q⟩=false:=f0.ah.frozen 0;have l0:=f0.ah.setCell 0 (U aa (l.length+1) ac);simp only [P2,R2] at l0;have e:strs l++[Z (str x.nm)]=strs (l++[x.nm]):=by unfold strs;rw [List.map_append];rfl
      rw [e] at l0
      have V0:ag (w'.setCell ⟨rc,0,Q⟩ (U aa (l.length+1) ac)) (AP rc ((g.take (i+1)).map aN.nm)*(il (U (Y ⟨g0,0,Q⟩) g.length j) g*r)):=by
       rw [c1];refine rO.2 ⟨U aa (l.length+1) ac,?_⟩;unfold dh;rw [S2,W2];exact (l0.to (by unfold gK;ac_rfl:_=(pt (wr.heap.size+1) (V #[Z (str x.nm)] 9 (0,0))*pt wr.heap.size (V #[W .i64 (x.nd:Int),Z (str x.nm)] 80 (0,0)))*(sl 9 1 (U aa (l.length+1) ac) (l.length+1) (strs (l++[x.nm]))*(gK rc (U aa (l.length+1) ac)*(il (U (Y ⟨g0,0,Q⟩) g.length j) g*r))))).right
      have D0:=ae V0;have G0:=ae ((((m0.alloc (V #[W .i64 (x.nd:Int),Z (str x.nm)] 80 (0,0))).alloc (V #[Z (str x.nm)] 9 (0,0))).trans Z0).setCell ⟨rc,0,Q⟩ (U aa (l.length+1) ac));have F0:=ae W0;have Hi:=ae hi;clear d0 A h2 hA hR N0 hz X0 K0 H0 W0 f0 Z0 l0 V0 e c1 hl m0 o0 hi q0 l1 n1;obtain ⟨ll,R0⟩:∃ ll,l.length=ll:=⟨_,rfl⟩
      rw [R0] at F0 D0 G0 c0 h1;clear R0;have D1:(j:Int)<=9223372036854775807:=by omega
      clear l2
      go_wp2_with (at_builtin;refine wpList_append_run F0.out _ _ rfl rfl rfl rfl rfl ?_)
      refine ⟨⟨i+1,by have:=HN.out;omega,by go_num,G0.out,D0.out⟩,by simp [intOf];omega⟩
     .obtain rfl:i=z:=by omega
      have A:ag wr (AP rc (g.map aN.nm)*(il (U E g.length j) g*r)):=by rw [X2 (by rw [HN.out];exact K2 _)] at d0;exact d0
      rw [HZ.out] at A
      have h2:ag wr (wW rc L*(vA x b v T k*(ay pc p*F))):=by
       unfold wW;rw [ag.aw];refine ⟨g,?_⟩;rw [ax];exact ag.aq.2 ⟨⟨PW.out,SW.out⟩,(A.to (by ac_rfl:_=(il (U E g.length j) g*dh u ps)*(AP rc (g.map aN.nm)*(vA x b v T k*(ay pc p*F))))).right⟩
      have m1:=ae (HQ.out (K (I #[])) wr ⟨m0,.inl ⟨rfl,rfl,h2.to (by ac_rfl)⟩⟩);clear A h2 HQ d0 m0 o0
      go_wp2_with fail
      go_end0
      exact m1.out
  .have b0:wc=nH T p:=by rw [e0.out,if_pos hc]
   exact absurd (b0.trans p0) hc
end
section
variable {t:Pl} {q:Dk t.n} {s s':Ds} {T:Tr} {k m:Nat} {O:jT} {w:M} {F:ai} {p:List UInt8}
def WE (t:Pl) (m:Nat) (s:Ds) (O:jT) (c:Int) (L:List aN) (F:ai) (w:M) (e:Ending) (w':M):Prop:=
 ∃ s',aj w w'/\s.Rd s'/\((c≠0/\e = K (I #[U Q 0 0,W .i64 c])/\ag w' (dJ t s' m O*F)) \/
  (c=0/\∃ u g,g.Perm L/\kU Cu g/\e = K (I #[u,W .i64 0])/\ag w' (dh u (g.map aN.nm)*(dJ t s' m O*F))))
theorem BI (C:mW t q s T k) (hB:s.B<=1000000) (b0:nH T p=0) (d0:(dM (T (bG T p).2)).length<=Dv) (h:ag w (dJ t s m O*F)) :
  Calls N 12 #[az t.f,Z (str p)] w (WE t m s O (nH T p) (dM (T (bG T p).2)) F w):=by
 refine aH fun e0 l=>?_;have z:=((h.alloc (V #[Z (str p)] 9 (0,0))).alloc (V #[U Q 0 0] 31 (0,0)))
 simp only [E2] at z;have dA:=ae (((aj.refl w).alloc (V #[Z (str p)] 9 (0,0))).alloc (V #[U Q 0 0] 31 (0,0)))
 have hd:=ae fun (pc rc:Nat) (w':M) (h':ag w' (dJ t s m O*((ay pc p*gK rc (U Q 0 0))*F)))=>
  jw C hB 39 #[az pc,az rc] (ay pc p*gK rc (U Q 0 0)) (nH T p) (ay pc p*wW rc (dM (T (bG T p).2))) (ay pc p*gK rc (U Q 0 0)) (enters func39 (by kernel_rfl) rfl)
   (fun x v b w1 c0 hw=>(Qf (x:=x) (b:=b) (v:=v) (k:=k) (pc:=pc) (rc:=rc) (F:=dG t m O*c0) (p:=p) C.ty b0 d0 (hw.to (by ac_rfl))).mono fun e w' hq=>by simpa only [ax] using hq) h'
 have HA:=ae z;clear b0;unfold WE at l;clear h z hB C;generalize nH T p=cc at *;generalize dM (T (bG T p).2)=L at *
 go_enter func12,ntmps12
 go_wp2_with fail
 generalize (w.alloc (V #[Z (str p)] 9 (0,0))).alloc (V #[U Q 0 0] 31 (0,0))=w1 at *;generalize w.heap.size=pc at *;refine (hd.out pc (pc+1) _ (HA.out.to (by unfold ay gK;ac_rfl))).mono ?_;rintro e w2 ⟨s',rfl,d2,u,j⟩;have o:=ae (dA.out.trans d2);clear hd dA HA d2
 by_cases A:cc=0
 .subst A
  rw [if_pos rfl] at j;have h3:=j.to (by unfold wW;ac_rfl:_=(ex fun g:List aN=>fact (g.Perm L/\kU Cu g)*AP (pc+1) (g.map aN.nm))*(dJ t s' m O*(ay pc p*F)));obtain ⟨g,y⟩:=ag.aw.1 h3;rw [ax] at y;obtain ⟨⟨pW,sW⟩,h5⟩:=ag.aq.1 y;obtain ⟨f0,r⟩:=rO.1 h5;obtain ⟨ua,uc,rfl⟩:=aF r;have t0:w2.cell? ⟨pc+1,0,Q⟩=Y (U ua (g.map aN.nm).length uc):=r.ah.cell 0;have E:=ae (l.out _ _ ⟨s',o.out,u,.inr ⟨rfl,_,g,pW,sW,rfl,(r.to (by ac_rfl:_=(gK (pc+1) (U ua (g.map aN.nm).length uc)*ay pc p)*(dh (U ua (g.map aN.nm).length uc) (g.map aN.nm)*(dJ t s' m O*F)))).right⟩⟩);clear j h3 y h5 r l u o pW sW;generalize (g.map aN.nm).length=ln at *
  go_wp2_with fail
  exact E.out
 .rw [if_neg A] at j
  have E:=ae (l.out _ _ ⟨s',o.out,u,.inl ⟨A,rfl,(j.to (by ac_rfl:_=(ay pc p*gK (pc+1) (U Q 0 0))*(dJ t s' m O*F))).right⟩⟩);clear j l u o
  go_wp2_with fail
  exact E.out
end
end Go.Proofs.Cl
namespace Go.SL
open RowKit
def zj (T:Tr) (d id:Nat) (nm:List UInt8) (f:AF) (L:List aN):Tr:=Go.SL.du (ee T d (L++[⟨id,nm⟩])) id (Y (.file { f with lk:=f.lk+1 }))
theorem Tidy.JW {n id:Nat} {T:Tr} {f:AF} (h:Tidy n T) (g:T id=Y (.file f)):0<=f.lk:=by
 have:=h.ref id;rw [g] at this;simp only [DB] at this;omega
theorem Tidy.QZ {n id:Nat} {T:Tr} {f:AF} (h:Tidy n T) (g:T id=Y (.file f)):id≠1:=by
 rintro rfl;obtain ⟨L,j⟩:=h.root;rw [j] at g;cases g
theorem Tidy.link {n d id:Nat} {T:Tr} {L:List aN} {nm:List UInt8} {f:AF} (h:Tidy n T) (j:T id=Y (.file f)) (l:T d=Y (.dir L)) (E:0<id) (c0:n<=3840) (y:cL nm=Z') (A:gn L nm=Q) (u:L.length<3840):Tidy n (zj T d id nm f L):=by
 have z:id≠d:=by rintro rfl;rw [j] at l;cases l
 have b0:=h.lt j;have o:=h.w.add l ((h.ow _ _ l).snoc (id:=id) (by omega) (by omega) y A u);have C:ee T d (L++[⟨id,nm⟩]) id=Y (.file f):=by unfold ee;rw [aE _ _ z];exact j
 have r:=o.leaf (y':=Y (.file { f with lk:=f.lk+1 })) C rfl rfl (h.QZ j) (fun L e=>by cases e) (fun g e=>by cases e;exact (h.files _ _ j:f.kd=1));refine r.tidy fun x=>?_
 by_cases e:x=id
 .subst e;simp [DB];omega
 .simp [e]
def gI (T:Tr) (k:Nat) (p1 p2:List UInt8):Int:=match aU p1,aU p2 with
 | some ps,Y qs=>if (aQ T 1 ps).1≠0 then (aQ T 1 ps).1 else match T (aQ T 1 ps).2 with
  | some (.file f)=>if dR T qs≠0 then dR T qs else if 60000<=f.lk then 9 else jh k (dM (T (aZ T qs))) (bE qs)
  | _=>8
 | _,_=>1
def yx (T:Tr) (k:Nat) (p1 p2:List UInt8) (c:Int) (T':Tr) (k':Nat):Prop:=
 c=gI T k p1 p2/\(c=0->∃ ps qs id f L,aU p1=Y ps/\aU p2=Y qs/\aQ T 1 ps=(0,id)/\T id=Y (.file f)/\T (aZ T qs)=Y (.dir L)/\gn L (bE qs)=Q /\
  T'=zj T (aZ T qs) id (bE qs) f L/\k'=k+aJ L.length-aJ (L.length+1))
end Go.SL
namespace Go.Proofs.Cl
open RowKit SL Proofs.Nn Proofs.Ba Proofs.Su Proofs.Fs
attribute [local go_sem] Oper.semAt_some
section
variable {n:Nat} {x:Fx n} {b v pc qc k:Nat} {T:Tr} {w:M} {F:ai} {p1 p2:List UInt8}
theorem KJ (hn:n<=3840) (ht:Tidy n T) (z1:∀ id o0,T id=Y o0->0<id) (b0:gI T k p1 p2=0) (h:ag w (vA x b v T k*(ay pc p1*(ay qc p2*F)))) :
  Calls N 45 #[az v,az pc,az qc] w (Tf x b v (yx T k p1 p2) (ay pc p1*(ay qc p2*F)) w):=by
 refine aH fun g2 HQ=>?_;have k0:w.cell? ⟨pc,0,Q⟩=Y (Z (str p1))/\w.cell? ⟨qc,0,Q⟩=Y (Z (str p2)):=⟨h.ah.cell 0,h.au.cell 0⟩
 have V0:=ae h;have j:=ae ht;clear h ht
 cases hs:aU p1 with
 | none=>
  have o:(1:Int)=gI T k p1 p2:=by unfold gI;rw [hs]
  exact absurd (o.trans b0) (by decide)
 | some ps=>
  cases e0:aU p2 with
  | none=>
   have o:(1:Int)=gI T k p1 p2:=by unfold gI;rw [hs,e0]
   exact absurd (o.trans b0) (by decide)
  | some qs=>
   obtain ⟨X1,hl⟩:=cU hs;obtain ⟨x1,m1⟩:=cU e0;have hk:=ae (df (w:=w.drew) hs);have l1:=ae fun w'=>df (w:=w') e0
   have d0:=ae (show gI T k p1 p2=if (aQ T 1 ps).1≠0 then (aQ T 1 ps).1 else match T (aQ T 1 ps).2 with
    | some (.file f)=>if dR T qs≠0 then dR T qs else if 60000<=f.lk then 9 else jh k (dM (T (aZ T qs))) (bE qs)
    | _=>8 by unfold gI;rw [hs,e0])
   have r:=fun h0=>j.out.walk ps j.out.root.choose_spec h0;have HY:=ae r;have HL:=ae hl;have O1:=ae m1;have R1:=ae x1;have S1:=ae z1
   have r0:=ae fun (id:Nat) (f:AF) (L:List aN) (e1:aQ T 1 ps=(0,id)) (e2:T id=Y (.file f)) (e3:T (aZ T qs)=Y (.dir L)) (e4:gn L (bE qs)=Q) (e5:gI T k p1 p2=0) (e6:Tidy n (zj T (aZ T qs) id (bE qs) f L)) (w':M) (d:aj w w') (Y1:ag w' (vA (x.more 8) b v (zj T (aZ T qs) id (bE qs) f L) (k+aJ L.length-aJ (L.length+1))*(ay pc p1*(ay qc p2*F))))=>
    HQ.out (K (I #[])) w' ⟨0,_,_,8,⟨e5.symm,fun _=>⟨ps,qs,id,f,L,hs,e0,e1,e2,e3,e4,rfl,rfl⟩⟩,fun _=>e6,.inl ⟨rfl,rfl⟩,d,by decide,Y1⟩
   clear hs e0 HQ X1 hl x1 m1 r z1
   go_enter func45,ntmps45
   go_wp2_with fail
   go_region_held3 (fun w'=>w'.cell? ⟨pc,0,Q⟩=Y (Z (str p1))/\w'.cell? ⟨qc,0,Q⟩=Y (Z (str p2)))
    (first|exact k0|exact k1|exact k2|go_keep)
    (first
     | (go_at_call 31;(with_reducible refine (l1.out _).mono ?_);rintro e w5 ⟨u2,rfl,d5,h6⟩;have y:=h6.under h5;have k2:w5.cell? ⟨pc,0,Q⟩=Y (Z (str p1))/\w5.cell? ⟨qc,0,Q⟩=Y (Z (str p2)):=⟨y.aA.cell 0,y.aM.cell 0⟩)
     | (go_at_call 31;(with_reducible refine hk.out.mono ?_);rintro e w4 ⟨g0,rfl,d4,h4⟩;have h5:=h4.under V0.out.drew;have k1:w4.cell? ⟨pc,0,Q⟩=Y (Z (str p1))/\w4.cell? ⟨qc,0,Q⟩=Y (Z (str p2)):=⟨h5.au.cell 0,h5.aA.cell 0⟩))
   rename_i V1;have h8:=y.to (by ac_rfl:_=vA x b v T k*(dh g0 ps*(dh u2 qs*(ay pc p1*(ay qc p2*F)))));have hw:=ae (fm j.out HL.out fE h8);have D5:=ae (((aj.refl w).drew.trans d4).trans d5);clear V1 k0 k1 k2 h4 h5 h6 y h8 d4 d5 hk l1 V0 HL;obtain ⟨pw,A1⟩:∃ pw,aQ T 1 ps=pw:=⟨_,rfl⟩
   rw [A1] at hw HY d0 r0;clear A1;obtain ⟨wc,id⟩:=pw;dsimp only at hw HY d0
   go_wp2_with fail
   refine hw.out.mono ?_;rintro e w6 ⟨he,d6,h6⟩;clear hw;have D6:=ae (D5.out.trans d6);clear D5 d6;rcases he with ⟨rfl,rfl⟩|⟨o,rfl⟩
   .obtain ⟨o0,r⟩:=HY.out rfl
    have f1:=ae (lS r h6);clear h6
    go_wp2_with fail
    refine f1.out.mono ?_;rintro e u hq;rcases hq with ⟨f0,z,rfl,K1,b2,L1,c2,d7,y⟩|⟨f0,rfl,d7,y⟩
    .cases o0 with
     | dir L=>exact absurd f0 (by show ¬ (2:Int)=1;decide)
     | file f=>
      have c0:gI T k p1 p2=if dR T qs≠0 then dR T qs else if 60000<=f.lk then 9 else jh k (dM (T (aZ T qs))) (bE qs):=by rw [d0.out,if_neg (by decide),r]
      have p0:=ae c0;obtain ⟨hX,y1,j1⟩:=mn K1;have A:=y.alloc (V ny 65 (0,0));have Hz:=ae A.heap;have hE:=A.setRow (cs':=ints z.l);have n1:((u.alloc (V ny 65 (0,0))).setRow u.heap.size (ints z.l)).cell? ⟨u.heap.size,1,Q⟩=Y (W .i64 f.lk):=by rw [show f.lk=z.lk from L1.symm];exact hE.cell 1
      have HE:=ae (hE.to (by ac_rfl:_=vA x b v T k*(dh u2 qs*(pt u.heap.size (V (ints z.l) 65 (0,0))*(dh g0 ps*(ay pc p1*(ay qc p2*F)))))));have D7:=ae (((D6.out.trans d7).alloc (V ny 65 (0,0))).setRow u.heap.size (ints z.l));have Z0:=ae y1;have Y0:=ae j1;have HX:=ae hX;have N1:=ae n1;have f2:=ae f0;have E:=ae r;clear f1 A hE hX y1 j1 n1 d7 y K1 b2 L1 c2 r HY d0 c0 f0 D6;unfold ny at *
      go_upto_region 3 with (refine wpList_store_row (by exact rfl) 65 (.tmp 7) (.tmp 18) (by exact rfl) u.heap.size (ints z.l) (by exact rfl) (by exact rfl) 65 _ (by with_reducible exact Hz.out) Y0.out (by rw [HX.out];rfl) Z0.out ?_)
      generalize Z1:(u.alloc (V #[W .i64 0,W .i64 0,W .i64 0,W .i64 0,W .i64 0,W .i64 0,W .i64 0,W .i64 0,W .i64 0,W .i64 0,W .i64 0,W .i64 0,W .i64 0,W .i64 0,W .i64 0,W .i64 0,W .i64 0,W .i64 0,W .i64 0,W .i64 0] 65 (0,0))).setRow u.heap.size (ints z.l)=w8 at *;generalize u.heap.size=nb at *;have g1:=ae (qF j.out O1.out (fun i2 P hW=>dI hW) fE HE.out);clear Z1 Hz Z0 Y0 HX
      go_wp2_with fail
      refine g1.out.mono ?_;rintro e g ⟨he,d9,h9⟩;have n1:g.cell? ⟨nb,1,Q⟩=Y (W .i64 f.lk):=(h9.au.cell 1).trans ((HE.out.au.cell 1).symm.trans N1.out);have D9:=ae (D7.out.trans d9);clear g1 HE N1 D7 d9;rcases he with ⟨K0,rfl⟩|⟨o,rfl⟩
      .obtain ⟨w1,L,C,hp⟩:=sM j.out K0
       have n0:=Ad R1.out w1;have c0:gI T k p1 p2=if 60000<=f.lk then 9 else jh k L (bE qs):=by rw [p0.out,if_neg (by rw [K0];simp),C];rfl
       have i0:=ae c0;have u0:=ae fun e5 e6=>r0.out id f L rfl E.out C hp e5 e6;have hE:=j.out.ow _ _ C;have L0:=S1.out _ _ E.out;have l2:=j.out.lt E.out;have D1:=fun hl=>j.out.link E.out C L0 hn n0 hp hl;have x0:=ae D1;obtain ⟨d,H0⟩:∃ d,aZ T qs=d:=⟨_,rfl⟩
       obtain ⟨nm,R0⟩:∃ nm,bE qs=nm:=⟨_,rfl⟩
       rw [H0,R0] at u0 x0 ⊢;rw [R0] at i0 n0 hp;rw [H0] at C;have A:=h9.alloc (V #[W .i64 (d:Int),Z (str nm)] 83 (0,0));have dB:=ae (D9.out.alloc (V #[W .i64 (d:Int),Z (str nm)] 83 (0,0)));have E1:=bV g (V #[W .i64 (d:Int),Z (str nm)] 83 (0,0)) _ _ n1;have hC:=A.to (by ac_rfl:_=vA x b v T k*(pt g.heap.size (V #[W .i64 (d:Int),Z (str nm)] 83 (0,0))*(dh u2 qs*(pt nb (V (ints z.l) 65 (0,0))*(dh g0 ps*(ay pc p1*(ay qc p2*F)))))));have s0:(g.alloc (V #[W .i64 (d:Int),Z (str nm)] 83 (0,0))).cell? ⟨g.heap.size,0,Q⟩=Y (W .i64 (d:Int)):=A.cell 0;have s1:(g.alloc (V #[W .i64 (d:Int),Z (str nm)] 83 (0,0))).cell? ⟨g.heap.size,1,Q⟩=Y (Z (str nm)):=A.cell 1;have ha:=ae (vD (child:=id) L0 (by omega) C hE n0 hC);have HB:=ae hC;have HD:=ae C;have HP:=ae hp;have r1:=j.out.JW E.out;have j2:=ae fun w=>dg w 9 (by decide);have m2:nb<g.heap.size:=O2 g _ n1;clear A hC h9 C hE n0 hp c0 H0 R0 K0 w1 p0 r0 L0 D1 n1
       by_cases m0:60000<=f.lk
       .exact absurd ((by rw [i0.out,if_pos m0]:gI T k p1 p2=9).symm.trans b0) (by decide)
       .have q1:f.lk<60000:=by omega
        have q0:=ae (show gI T k p1 p2=jh k L nm by rw [i0.out,if_neg m0]);clear i0;obtain ⟨lk,N0⟩:∃ lk,f.lk=lk:=⟨_,rfl⟩
        rw [N0] at E1 m0 q1 r1;have W0:=ae N0;clear N0
        go_wp2_with fail
        generalize g.alloc (V #[W .i64 (d:Int),Z (str nm)] 83 (0,0))=n2 at *;generalize g.heap.size=sp at *;refine ha.out.mono ?_;rintro e H1 hq;rcases hq with ⟨l,rfl,D0,F0⟩|⟨l,rfl,D0,F0⟩
        .have o1:L.length<3840:=by
          unfold jh at l;rw [HP.out] at l;simp only [Z2,Bool.false_eq_true,if_false] at l
          split at l
          .exact absurd l (by decide)
          .omega
         have i1:id≠d:=by rintro rfl;have h1:=E.out;have h2:=HD.out;rw [h1] at h2;cases h2
         have d1:ft (ee T d (L++[⟨id,nm⟩])) id=Y f:=jD (by unfold ee;rw [aE _ _ i1];exact E.out);have S0:wrap64 (f.lk+1)=f.lk+1:=by have:=W0.out;unfold wrap64;omega
         have l0:=F0.to (by unfold vA;ac_rfl:_=ea (x.more 5) b (ft (ee T d (L++[⟨id,nm⟩]))) (k+aJ L.length-aJ (L.length+1))*(pt v (bN b n)*(pt sp (V #[W .i64 (d:Int),Z (str nm)] 83 (0,0))*(dh u2 qs*(pt nb (V (ints z.l) 65 (0,0))*(dh g0 ps*(ay pc p1*(ay qc p2*F))))))));have v0:H1.cell? ⟨v,0,Q⟩=Y (az b):=l0.ah.cell 0;have v1:H1.cell? ⟨v,1,Q⟩=Y (W .i64 (n:Int)):=l0.ah.cell 1;have t1:=ae (GU l0 d1 1 (by rw [S0];have:=W0.out;omega));have HW:=ae S0;have U1:=ae cV;have X0:=ae (u0.out (by rw [q0.out,l]) (x0.out o1));have T0:=ae (dB.out.trans D0);clear F0 l0 d1 S0 i1 o1 l D0 dB ha HB E1 s0 s1 m0 q1 r1 u0 x0 q0
         go_wp2_with fail
         refine t1.out.mono ?_;rintro e a2 ⟨rfl,c1,G0⟩;rw [HW.out,show du (ft (ee T d (L++[⟨id,nm⟩]))) id (Y { f with lk:=f.lk+1 })=ft (zj T d id nm f L) from qG (ee T d (L++[⟨id,nm⟩])) id (.file { f with lk:=f.lk+1 })] at G0;have W1:=ae (X0.out a2 (T0.out.trans c1) (G0.to (by unfold vA;ac_rfl:_=(pt sp (V #[W .i64 (d:Int),Z (str nm)] 83 (0,0))*(dh u2 qs*(pt nb (V (ints z.l) 65 (0,0))*dh g0 ps)))*(vA (x.more 8) b v (zj T d id nm f L) (k+aJ L.length-aJ (L.length+1))*(ay pc p1*(ay qc p2*F))))).right);clear t1 G0 c1 T0 X0 v0 v1
         go_wp2_with fail
         refine (U1.out _).mono ?_;rintro e o2 ⟨rfl,rfl⟩
         go_wp2_with fail
         go_end0
         exact W1.out
        .exact absurd (q0.out.symm.trans b0) l
      .exact absurd ((by rw [p0.out,if_pos o]:gI T k p1 p2=_).symm.trans b0) o
    .have c0:(8:Int)=gI T k p1 p2:=by
      rw [d0.out,if_neg (by decide),r]
      cases o0 with
      | dir L=>rfl
      | file f=>exact absurd (j.out.files _ _ r) f0
     exact absurd (c0.trans b0) (by decide)
   .exact absurd ((by rw [d0.out,if_pos o]:gI T k p1 p2=_).symm.trans b0) o
end
section
variable {t:Pl} {q:Dk t.n} {s s':Ds} {T:Tr} {k m:Nat} {O:jT} {w:M} {F:ai} {p1 p2:List UInt8}
theorem mW.pos (h:mW t q s T k):∀ id y,T id=Y y->0<id:=fun id y g=>(h.at_.has.wf (f:=y.af) (by unfold ft;rw [g];rfl)).2.1
theorem LM (g:mW t q s T k) (y:s.B<=1000000) (C:gI T k p1 p2=0) (h:ag w (dJ t s m O*F)) :
  Calls N 15 #[az t.f,Z (str p1),Z (str p2)] w (O4 t q m s O (yx T k p1 p2) F w):=by
 refine aH fun d0 o=>?_;have j:=(h.alloc (V #[Z (str p1)] 9 (0,0))).alloc (V #[Z (str p2)] 9 (0,0));simp only [E2] at j;have r:=ae (((aj.refl w).alloc (V #[Z (str p1)] 9 (0,0))).alloc (V #[Z (str p2)] 9 (0,0)))
 have A:=ae fun (pc qc:Nat) (w':M) (h':ag w' (dJ t s m O*((ay pc p1*ay qc p2)*F)))=>
  l9 g y 45 #[az pc,az qc] (ay pc p1*ay qc p2) (yx T k p1 p2) (enters func45 (by kernel_rfl) rfl)
   (fun x v b w1 b0 hw=>(KJ (x:=x) (b:=b) (v:=v) (k:=k) (pc:=pc) (qc:=qc) (F:=dG t m O*b0) (p1:=p1) (p2:=p2) g.hn g.ty g.pos C (hw.to (by ac_rfl))).mono fun e w' hq=>by simpa only [ax] using hq) h'
 have l:=ae j;clear C;clear h j g y
 go_enter func15,ntmps15
 go_wp2_with fail
 generalize (w.alloc (V #[Z (str p1)] 9 (0,0))).alloc (V #[Z (str p2)] 9 (0,0))=w1 at *;generalize w.heap.size=pc at *;refine (A.out pc (pc+1) _ (l.out.to (by unfold ay;ac_rfl))).mono ?_;rintro e w2 ⟨c,T',k',s',z,rfl,d2,E,u⟩;have c0:=ae (o.out _ _ ⟨c,T',k',s',z,rfl,r.out.trans d2,E,(u.to (by ac_rfl:_=(ay pc p1*ay (pc+1) p2)*(dJ t s' m O*F))).right⟩);clear A r l d2 E z u o
 go_wp2_with fail
 exact c0.out
end
end Go.Proofs.Cl
namespace Go.SL
def MX (O:List (Int × (Nat × Nat))) (id:Nat):Bool:=O.any fun p=>p.2.1 == id
end Go.SL
namespace Go.Proofs.Cl
open RowKit SL Proofs.Nn Proofs.Ba Proofs.Su Proofs.Fs
attribute [local go_sem] Oper.semAt_some
section
variable {t:Pl} {m id:Nat} {O:jT} {w:M} {F:ai}
theorem QP {a c:Nat × Nat} (h:DG a=DG c):a.1=c.1:=by
 unfold DG at h;injection h with h
 have g:=congrArg (fun x:Array G=>x[0]?) h;simp at g;omega
def NR (m:Nat) (o:Obj) (O:jT) (id r:Nat) (j:ai) (w0:M) (k:Nat) (wr:M):Prop:=
 ∃ D g,O.length<=D.length+k/\Iter m o (lZ O) D g/\(∀ x:Int × (Nat × Nat),(x.1,DG x.2) ∈ D->x.2.1≠id)/\ag wr (pt r g*(pt m o*j))/\aj w0 wr
theorem FN (h:ag w (dG t m O*F)):Calls N 35 #[az t.f,W .i64 (id:Int)] w fun e w'=>e = K (.bool (MX O id))/\aj w w'/\ag w' (dG t m O*F):=by
 refine aH fun S0 HQ=>?_;have c1:=la h;have h1:ag w (mp m (lZ O)*(pt t.f (iD t (.map (Y m)))*F)):=h.to (by unfold dG;ac_rfl);obtain ⟨o,ho,hb,j⟩:=h1.oq;obtain ⟨it,H0,n0⟩:=lB (P:=N) underlying89 hb ho;have u:=ae fun (b:Bool) (x0:b=MX O id) (w':M) (d:aj w w') (hs:ag w' (pt m o*(pt t.f (iD t (.map (Y m)))*F)))=>HQ.out (K (.bool b)) w' ⟨by rw [x0],d,(hs.uy ho).to (by unfold dG;ac_rfl)⟩;generalize hZ:pt t.f (iD t (.map (Y m)))*F=f0 at *;have h0:NR m o O id w.heap.size f0 w O.length (w.alloc it):=⟨[],it,by simp,n0,fun x g=>(by cases g),j.alloc it,(aj.refl w).alloc it⟩
 have l0:=ae h0;clear h h1 j hb hZ n0 h0 ho HQ
 go_enter func35,ntmps35
 go_wp2_with fail
 go_loopg [] O.length (fun k wr=>NR m o O id w.heap.size f0 w k wr)
 case atStart=>exact l0.out
 case round=>
  obtain ⟨D,V0,e0,c0,y,l,z⟩:=hrel;clear H0 l0 c1;have b0:wr.heap[m]?=Y o:=l.ah.heap;have HD:=ae y;have R0:=ae e0;rcases l.next (P:=N) b0 c0 with ⟨s0,q0⟩|⟨p,L0,w2,j,r0,q0,i0,d0,k0,m0,D0⟩
  .have p0:false=MX O id:=by
    symm;unfold MX;rw [List.any_eq_false];intro x g;have:=y x (s0.mem_iff.2 (List.mem_map.2 ⟨x,g,rfl⟩));simpa using this
   have g0:=ae (u.out false p0 wr z l.right);clear s0 l z b0 c0 y e0 u p0
   go_wp2_with fail
   exact g0.out
  .obtain ⟨x,g,K0⟩:=List.mem_map.1 j
   obtain ⟨x1,A,x3⟩:=x;subst K0;dsimp only at q0 D0;have E:=i0.alloc (V #[W .i64 (A:Int),W .i64 (x3:Int)] 93 (0,0));have C:=(z.trans k0).alloc (V #[W .i64 (A:Int),W .i64 (x3:Int)] 93 (0,0))
   by_cases hq:A=id
   .have u0:Z'=MX O id:=by
     symm;unfold MX;rw [List.any_eq_true];exact ⟨_,g,by simpa using hq⟩
    have g0:=ae (u.out Z' u0 _ C E.right.right);clear b0 c0 y e0 u u0 E C l i0 z k0 j r0 d0 m0 g HD;subst hq
    go_wp2_with fail
    exact g0.out
   .have T0:¬ (A:Int)=(id:Int):=by omega
    have o0:=Al d0;rw [S2,W2] at o0;have G0:(lZ O).length=O.length:=H2 _
    have HN:=ae (show NR m o O id w.heap.size f0 w (gk-1) (w2.alloc (V #[W .i64 (A:Int),W .i64 (x3:Int)] 93 (0,0))) from ⟨_,L0,by rw [S2,W2];omega,d0,fun N0 r=>by
     rcases List.mem_append.1 r with r|r
     .exact HD.out N0 r
     .rw [List.mem_singleton] at r
      have:=QP (congrArg Prod.snd r);dsimp only at this;rw [this];exact hq,E.right,C⟩)
    have F0:gk-1<gk:=by omega
    clear b0 c0 y e0 u E C l i0 z k0 j r0 d0 m0 g hq o0 G0
    go_wp2_with fail
    go_roundg (gk-1)
    case measure=>exact F0
    case rel=>exact HN.out
end
end Go.Proofs.Cl
namespace Go.SL
def gh (T:Tr) (O:List (Int × (Nat × Nat))) (p:List UInt8):Int:=match aU p with
 | none=>1
 | some ps=>if (aQ T 1 ps).1≠0 then (aQ T 1 ps).1 else match T (aQ T 1 ps).2 with
  | some (.file f)=>if f.lk=1/\MX O (aQ T 1 ps).2=Z' then 10 else 0
  | _=>8
def rL (T:Tr) (k:Nat) (O:List (Int × (Nat × Nat))) (p:List UInt8) (c:Int) (T':Tr) (k':Nat):Prop:=
 c=gh T O p/\(c=0->∃ ps id f L i,aU p=Y ps/\ps≠[]/\aQ T 1 ps=(0,id)/\T id=Y (.file f)/\T (aZ T ps)=Y (.dir L)/\gn L (bE ps)=Y i /\
  ((1<f.lk/\T'=BT T (aZ T ps) id L i f/\k'=k+aJ L.length-aJ (L.length-1))\/(f.lk=1/\T'=GV T (aZ T ps) id L i/\k'=k+aJ L.length-aJ (L.length-1)+bh f.pr)))
end Go.SL
namespace Go.Proofs.Cl
open RowKit SL Proofs.Nn Proofs.Ba Proofs.Su Proofs.Fs
attribute [local go_sem] Oper.semAt_some
section
variable {t:Pl} {x:Fx t.n} {b v pc fc k m:Nat} {T:Tr} {O:jT} {w:M} {F:ai} {p:List UInt8}
theorem E0 (ht:Tidy t.n T) (z1:∀ id f,T id=Y (.file f)->f.lk<=65535) (h:ag w (vA x b v T k*(ay pc p*(bg t fc*(dG t m O*F))))) :
  Calls N 30 #[az v,az pc,az fc] w (Tf x b v (rL T k O p) (ay pc p*(bg t fc*(dG t m O*F))) w):=by
 refine aH fun X1 HQ=>?_;have cp:w.cell? ⟨pc,0,Q⟩=Y (Z (str p)):=h.ah.cell 0;have T0:=ae h;have r:=ae ht;have j1:=ae z1
 have k0:Hid (∀ c,c≠0->c=gh T O p->∀ (w':M),aj w w'->ag w' (vA x b v T k*(ay pc p*(bg t fc*(dG t m O*F))))->X1 (.panicked (lG c)) w'):=fun c hc he w' d A=>
  HQ.out _ _ ⟨c,T,k,0,⟨he,fun h=>absurd h hc⟩,fun h=>absurd h hc,.inr ⟨hc,rfl⟩,d,by decide,uF (ag.tZ (x:=x) 0 (A.to (by unfold vA;ac_rfl:_=ea x b (ft T) k*(pt v (bN b t.n)*(ay pc p*(bg t fc*(dG t m O*F))))))|>.to (by ac_rfl))⟩
 clear h ht z1
 cases A:aU p with
 | none=>
  have hk:=ae (lR (w:=w) A);have hc:(1:Int)=gh T O p:=by unfold gh;rw [A]
  have HC:=ae hc;clear A HQ hc
  go_enter func30,ntmps30
  go_wp2_with fail
  refine hk.out.mono ?_;rintro e w2 ⟨rfl,d2,h2⟩;exact ⟨rfl,k0.out 1 (by decide) HC.out _ d2 (h2.ei T0.out)⟩
 | some ps=>
  obtain ⟨a2,hl⟩:=cU A;have hk:=ae (df (w:=w) A)
  have g0:=ae (show gh T O p=if (aQ T 1 ps).1≠0 then (aQ T 1 ps).1 else match T (aQ T 1 ps).2 with
   | some (.file f)=>if f.lk=1/\MX O (aQ T 1 ps).2=Z' then 10 else 0
   | _=>8 by unfold gh;rw [A])
  have g:=fun h0=>r.out.walk ps r.out.root.choose_spec h0;have x1:=fun c1=>yA (T:=T) (ps:=ps) c1;have E1:ps=[]->(aQ T 1 ps).2=1:=fun e=>by rw [e];rfl
  have HY:=ae g;have HL:=ae hl;have K0:=ae x1;have N0:=ae E1
  have V0:=ae fun (id:Nat) (f:AF) (L:List aN) (i:Nat) (c1:ps≠[]) (e1:aQ T 1 ps=(0,id)) (e2:T id=Y (.file f)) (e3:T (aZ T ps)=Y (.dir L)) (e4:gn L (bE ps)=Y i) (e5:gh T O p=0) (T':Tr) (k':Nat) (e6:Tidy t.n T') (e7:(1<f.lk/\T'=BT T (aZ T ps) id L i f/\k'=k+aJ L.length-aJ (L.length-1))\/(f.lk=1/\T'=GV T (aZ T ps) id L i/\k'=k+aJ L.length-aJ (L.length-1)+bh f.pr)) (d1:Nat) (hj:d1<=24) (w':M) (d:aj w w') (b2:ag w' (vA (x.more d1) b v T' k'*(ay pc p*(bg t fc*(dG t m O*F)))))=>
   HQ.out (K (I #[])) w' ⟨0,_,_,d1,⟨e5.symm,fun _=>⟨ps,id,f,L,i,A,c1,e1,e2,e3,e4,e7⟩⟩,fun _=>e6,.inl ⟨rfl,rfl⟩,d,hj,b2⟩
  clear A HQ a2 hl g x1 E1
  go_enter func30,ntmps30
  go_wp2_with fail
  refine hk.out.mono ?_;rintro e w2 ⟨f1,rfl,d2,h2⟩;have h3:=(h2.under T0.out).to (by ac_rfl:_=vA x b v T k*(dh f1 ps*(ay pc p*(bg t fc*(dG t m O*F)))));have hw:=ae (fm r.out HL.out fE h3);clear cp hk h2 h3 T0;obtain ⟨pw,D1⟩:∃ pw,aQ T 1 ps=pw:=⟨_,rfl⟩
  rw [D1] at hw HY g0 V0 K0 N0;clear D1;obtain ⟨wc,id⟩:=pw;dsimp only at hw HY g0 K0 N0
  go_wp2_with fail
  refine hw.out.mono ?_;rintro e w3 ⟨he,d3,h3⟩;clear hw;have D3:=ae (d2.trans d3);clear d2 d3;rcases he with ⟨rfl,rfl⟩|⟨hc,rfl⟩
  .obtain ⟨K1,g⟩:=HY.out rfl
   have s1:=ae (lS g h3);obtain ⟨u,y,rfl⟩:=dI (h3.to (by ac_rfl:_=dh f1 ps*(vA x b v T k*(ay pc p*(bg t fc*(dG t m O*F))))));clear h3
   go_wp2_with fail
   refine s1.out.mono ?_;rintro e E hq;rcases hq with ⟨S0,z,rfl,L1,g2,O1,i2,d7,h7⟩|⟨S0,rfl,d7,h7⟩
   .cases K1 with
    | dir L=>exact absurd S0 (by show ¬ (2:Int)=1;decide)
    | file f=>
     have hps:ps≠[]:=fun e=>by have h1:=N0.out e;rw [h1] at g;obtain ⟨L,hL⟩:=r.out.root;rw [hL] at g;cases g
     have i0:=ae (show gh T O p=if f.lk=1/\MX O id=Z' then 10 else 0 by rw [g0.out,if_neg (by decide),g]);obtain ⟨H1,L,i,hi,hd,hp,R0⟩:=K0.out hps (by first|rfl|trivial)
     have Z0:1<=f.lk:=by
      have hp:=vt (r.out.lt hd) hd (List.getElem_mem hi);rw [R0] at hp;have:=r.out.ref id;rw [g] at this;simp only [DB] at this;omega
     have X0:=j1.out _ _ g;have q0:=ae (V0.out id f L i hps rfl g hd hp);have L0:=ae (r.out.less hd hi R0 g);have G0:=ae fun (e:f.lk=1)=>r.out.gone hd hi R0 g rfl e;have t1:id≠aZ T ps:=by intro e;rw [e,hd] at g;cases g
     have r1:ft (ee T (aZ T ps) (jN L i)) id=Y f:=jD (by unfold ee;rw [aE _ _ t1];exact g);have o0:=ae r1;obtain ⟨hX,A1,w1⟩:=mn L1;have hB:=h7.alloc (V ny 65 (0,0));have Hz:=ae hB.heap;have hE:=hB.setRow (cs':=ints z.l);have n1:((E.alloc (V ny 65 (0,0))).setRow E.heap.size (ints z.l)).cell? ⟨E.heap.size,1,Q⟩=Y (W .i64 f.lk):=by rw [show f.lk=z.lk from O1.symm];exact hE.cell 1
     have o1:=hE.to (by ac_rfl:_=vA x b v T k*(dh (U u ps.length y) ps*(pt E.heap.size (V (ints z.l) 65 (0,0))*(ay pc p*(bg t fc*(dG t m O*F))))));have HE:=ae o1;have F0:=ae fun (w':M) (h':ag w' (vA x b v T k*(dh (U u ps.length y) ps*(pt E.heap.size (V (ints z.l) 65 (0,0))*(ay pc p*(bg t fc*(dG t m O*F)))))))=>tM r.out HL.out hps fE H1 hd hp h';have D7:=ae (((D3.out.trans d7).alloc (V ny 65 (0,0))).setRow E.heap.size (ints z.l));have m1:=ae A1;have l1:=ae w1;have HX:=ae hX;have N1:=ae n1;have j2:¬ (ps.length:Int)=0:=by have:=List.length_pos_iff.2 hps;omega
     clear s1 hB hE o1 hX A1 w1 n1 d7 h7 L1 g2 O1 i2 g HY g0 D3 S0 hps H1 hd hp R0 r1 t1 V0 K0 N0 r hi j1;unfold ny at *
     go_upto_region 3 with (refine wpList_store_row (by exact rfl) 65 (.tmp 6) (.tmp 14) (by exact rfl) E.heap.size (ints z.l) (by exact rfl) (by exact rfl) 65 _ (by with_reducible exact Hz.out) l1.out (by rw [HX.out];rfl) m1.out ?_)
     generalize c2:(E.alloc (V #[W .i64 0,W .i64 0,W .i64 0,W .i64 0,W .i64 0,W .i64 0,W .i64 0,W .i64 0,W .i64 0,W .i64 0,W .i64 0,W .i64 0,W .i64 0,W .i64 0,W .i64 0,W .i64 0,W .i64 0,W .i64 0,W .i64 0,W .i64 0] 65 (0,0))).setRow E.heap.size (ints z.l)=w8 at *;generalize E.heap.size=C at *;clear c2 Hz m1 l1 HX HL;have H0:=ae fun (w':M) (h':ag w' (dG t m O*(vA x b v T k*((dh (U u ps.length y) ps*(pt C (V (ints z.l) 65 (0,0))*(ay pc p*bg t fc)))*F))))=>FN (id:=id) h';have f0:w8.cell? ⟨fc,0,Q⟩=Y (az t.f):=HE.out.aM.cell 0;have n1:=N1.out;have k1:=ae cV;generalize hD:aZ T ps=d at *;generalize ps.length=ln at *
     by_cases j:f.lk=1
     .rw [j] at N1 n1
      have hH:=HE.out.to (by ac_rfl:_=dG t m O*(vA x b v T k*((dh (U u ln y) ps*(pt C (V (ints z.l) 65 (0,0))*(ay pc p*bg t fc)))*F)));have D0:=ae (H0.out w8 hH)
      cases hb:MX O id with
      | true=>
       have q1:(10:Int)=gh T O p:=by rw [i0.out,if_pos ⟨j,hb⟩]
       have R1:=ae q1;rw [hb] at D0;have Y1:=ae fun w=>dg w 10 (by decide);clear q1 hb j i0 q0 L0 G0 o0 H0 hH F0 Z0 X0
       go_wp2_with fail
       refine D0.out.mono ?_;rintro e w9 ⟨rfl,d9,l⟩
       go_wp2_with fail
       refine (Y1.out _).mono ?_;rintro e c0 ⟨rfl,rfl⟩;exact ⟨rfl,k0.out 10 (by decide) R1.out _ (D7.out.trans d9) (l.to (by ac_rfl:_=(dh (U u ln y) ps*pt C (V (ints z.l) 65 (0,0)))*(vA x b v T k*(ay pc p*(bg t fc*(dG t m O*F)))))).right⟩
      | false=>
       have o:gh T O p=0:=by rw [i0.out,if_neg];rintro ⟨-,h⟩;rw [hb] at h;cases h
       rw [hb] at D0;have d0:=ae o;have p0:=ae j;clear hb i0 H0 hH Z0 X0 k0 o j
       go_wp2_with fail
       refine D0.out.mono ?_;rintro e w9 ⟨rfl,d9,l⟩;have l0:=l.to (by ac_rfl:_=vA x b v T k*(dh (U u ln y) ps*(pt C (V (ints z.l) 65 (0,0))*(ay pc p*(bg t fc*(dG t m O*F))))));have D9:=ae (D7.out.trans d9);have o:=d0.out;have j:=p0.out;clear l d9 D0 D7 n1 f0 d0 p0;have i1:=ae l0;have d0:=ae o;have p0:=ae j;clear l0 o j
       go_wp2_with fail
       have l0:=i1.out;have o:=d0.out;have j:=p0.out;clear i1 d0 p0;refine (F0.out _ l0).mono ?_;rintro e c0 ⟨he,s0,l⟩;obtain rfl:=he.elim (fun h=>h.2) (fun h=>absurd rfl h.1);have n1:c0.cell? ⟨C,1,Q⟩=Y (W .i64 1):=(l.au.cell 1).trans ((HE.out.au.cell 1).symm.trans N1.out);have b0:=l.to (by unfold vA;ac_rfl:_=ea (x.more 9) b (ft (ee T d (jN L i))) (k+aJ L.length-aJ (L.length-1))*(pt v (bN b t.n)*(dh (U u ln y) ps*(pt C (V (ints z.l) 65 (0,0))*(ay pc p*(bg t fc*(dG t m O*F)))))));have v0:c0.cell? ⟨v,0,Q⟩=Y (az b):=b0.ah.cell 0;have v1:c0.cell? ⟨v,1,Q⟩=Y (W .i64 (t.n:Int)):=b0.ah.cell 1;have x0:=ae (Tj b0 o0.out);have r0:=ae (q0.out o _ _ (G0.out j) (.inr ⟨j,rfl,rfl⟩) 10 (by decide));have n0:=ae (D9.out.trans s0);clear F0 l b0 s0 he HE N1 q0 L0 G0 o0 D9 j
       go_wp2_with fail
       refine x0.out.mono ?_;rintro e g1 ⟨rfl,u0,e0⟩;rw [Me] at e0;have W0:=ae (r0.out g1 (n0.out.trans u0) (e0.to (by unfold vA;ac_rfl:_=(dh (U u ln y) ps*pt C (V (ints z.l) 65 (0,0)))*(vA (x.more 10) b v (GV T d id L i) (k+aJ L.length-aJ (L.length-1)+bh f.pr)*(ay pc p*(bg t fc*(dG t m O*F)))))).right);clear x0 e0 u0 n0 r0 v0 v1
       go_wp2_with fail
       refine (k1.out _).mono ?_;rintro e f2 ⟨rfl,rfl⟩
       go_wp2_with fail
       go_end0
       exact W0.out
     .have y1:1<f.lk:=by omega
      have o:gh T O p=0:=by rw [i0.out,if_neg fun h=>j h.1]
      have m0:wrap64 (f.lk+-1)=f.lk-1:=by unfold wrap64;omega
      have W1:=ae m0;have d0:=ae o;have U1:=ae (q0.out o _ _ L0.out (.inl ⟨y1,rfl,rfl⟩) 12 (by decide));have D9:=D7;obtain ⟨lk,Y0⟩:∃ lk,f.lk=lk:=⟨_,rfl⟩
      have S1:=ae Y0;rw [Y0] at n1 j y1 Z0 X0 N1;clear Y0 m0 o i0 H0 k0
      go_wp2_with fail
      have l0:=HE.out;have o:=d0.out;have m0:=W1.out;refine (F0.out _ l0).mono ?_;rintro e c0 ⟨he,s0,l⟩;obtain rfl:=he.elim (fun h=>h.2) (fun h=>absurd rfl h.1);have n1:c0.cell? ⟨C,1,Q⟩=Y (W .i64 lk):=(l.au.cell 1).trans ((HE.out.au.cell 1).symm.trans N1.out);have b0:=l.to (by unfold vA;ac_rfl:_=ea (x.more 9) b (ft (ee T d (jN L i))) (k+aJ L.length-aJ (L.length-1))*(pt v (bN b t.n)*(dh (U u ln y) ps*(pt C (V (ints z.l) 65 (0,0))*(ay pc p*(bg t fc*(dG t m O*F)))))));have v0:c0.cell? ⟨v,0,Q⟩=Y (az b):=b0.ah.cell 0;have v1:c0.cell? ⟨v,1,Q⟩=Y (W .i64 (t.n:Int)):=b0.ah.cell 1;have x0:=ae (GU b0 o0.out (-1) (by rw [m0];have:=S1.out;omega));have r0:=U1;have n0:=ae (D9.out.trans s0);have V1:=ae m0;clear F0 l b0 s0 he HE N1 q0 L0 G0 o0 D9 m0
      go_wp2_with fail
      refine x0.out.mono ?_;rintro e g1 ⟨rfl,u0,e0⟩;rw [V1.out,show du (ft (ee T d (jN L i))) id (Y { f with lk:=f.lk-1 })=ft (BT T d id L i f) from qG (ee T d (jN L i)) id (.file { f with lk:=f.lk-1 })] at e0;have W0:=ae (r0.out g1 (n0.out.trans u0) (e0.to (by unfold vA;ac_rfl:_=(dh (U u ln y) ps*pt C (V (ints z.l) 65 (0,0)))*(vA (x.more 12) b v (BT T d id L i f) (k+aJ L.length-aJ (L.length-1))*(ay pc p*(bg t fc*(dG t m O*F)))))).right);clear x0 e0 u0 n0 r0 v0 v1
      go_wp2_with fail
      refine (k1.out _).mono ?_;rintro e f2 ⟨rfl,rfl⟩
      go_wp2_with fail
      go_end0
      exact W0.out
   .have Z1:(8:Int)=gh T O p:=by
     rw [g0.out,if_neg (by decide),g]
     cases K1 with
     | dir L=>rfl
     | file f=>exact absurd (r.out.files _ _ g) S0
    exact ⟨rfl,k0.out 8 (by decide) Z1 _ (D3.out.trans d7) (h7.to (by ac_rfl:_=dh (U u ps.length y) ps*(vA x b v T k*(ay pc p*(bg t fc*(dG t m O*F)))))).right⟩
  .exact ⟨rfl,k0.out _ hc (by rw [g0.out,if_pos hc]) _ D3.out (h3.to (by ac_rfl:_=dh f1 ps*(vA x b v T k*(ay pc p*(bg t fc*(dG t m O*F)))))).right⟩
end
section
variable {t:Pl} {q:Dk t.n} {s s':Ds} {T:Tr} {k m:Nat} {O:jT} {w:M} {F:ai} {p:List UInt8}
theorem Ei (g:mW t q s T k) (y:s.B<=1000000) (h:ag w (dJ t s m O*F)) :
  Calls N 10 #[az t.f,Z (str p)] w (O4 t q m s O (rL T k O p) F w):=by
 refine aH fun c0 o=>?_;have j:=(h.alloc (V #[az t.f] 25 (0,0))).alloc (V #[Z (str p)] 9 (0,0));simp only [E2] at j;have r:=ae (((aj.refl w).alloc (V #[az t.f] 25 (0,0))).alloc (V #[Z (str p)] 9 (0,0)))
 have A:=ae fun (pc fc:Nat) (w':M) (h':ag w' (dJ t s m O*((ay pc p*bg t fc)*F)))=>
  l9 g y 30 #[az pc,az fc] (ay pc p*bg t fc) (rL T k O p) (enters func30 (by kernel_rfl) rfl)
   (fun x v b w1 E hw=>(E0 (x:=x) (b:=b) (v:=v) (k:=k) (m:=m) (O:=O) (pc:=pc) (fc:=fc) (F:=E) (p:=p) g.ty (fun id f hT=>(g.at_.has.wf (jD hT)).1.Kx) (hw.to (by ac_rfl))).mono fun e w' hq=>by simpa only [ax] using hq) h'
 have l:=ae j;clear h j g y
 go_enter func10,ntmps10
 go_wp2_with fail
 generalize (w.alloc (V #[az t.f] 25 (0,0))).alloc (V #[Z (str p)] 9 (0,0))=w1 at *;generalize w.heap.size=fc at *;refine (A.out (fc+1) fc _ (l.out.to (by unfold ay bg;ac_rfl))).mono ?_;rintro e w2 ⟨c,T',k',s',z,rfl,d2,C,u⟩;have b0:=ae (o.out _ _ ⟨c,T',k',s',z,rfl,r.out.trans d2,C,(u.to (by ac_rfl:_=(ay (fc+1) p*bg t fc)*(dJ t s' m O*F))).right⟩);clear A r l d2 C z u o
 go_wp2_with fail
 exact b0.out
end
end Go.Proofs.Cl
namespace Go.SL
def iH (ps qs:List (List UInt8)):Bool:=decide (ps.length<qs.length) && decide (ps=qs.take ps.length)
end Go.SL
namespace Go.Proofs.Cl
open RowKit SL Proofs.Nn Proofs.Ba Proofs.Su Proofs.Fs
attribute [local go_sem] Oper.semAt_some
section
variable {w:M} {F:ai} {ps qs:List (List UInt8)} {u1 u2:G}
theorem str_inj {a c:List UInt8} (h:str a=str c):a=c:=by
 have:=congrArg (fun x:ByteArray=>x.data.toList) h;simpa [str] using this
theorem tJ:∀ {a c:List (List UInt8)},a.map str=c.map str->a=c
 | [],[],_=>rfl
 | [],_ :: _,h=>by simp at h
 | _ :: _,[],h=>by simp at h
 | x :: a,y :: c,h=>by
  simp only [Y2,List.cons.injEq] at h;rw [str_inj h.1,tJ h.2]
theorem rD {u:G} (C:ps≠[]) (h:ag w (dh u ps*F)):∃ g c,u = U (Y ⟨g,0,Q⟩) ps.length c/\ps.length<=c/\c<=9223372036854775807/\∀ j,j<(ps.map str).length->w.cell? ⟨g,0+j,Q⟩=Y (Z ((ps.map str).getD j ByteArray.empty)):=by
 have hp:=List.length_pos_iff.2 C;rcases ag.dm (show ag w (sl 9 1 u ps.length (strs ps)*F) from h) with ⟨_,h0,_⟩|⟨g,o,E,rfl,r,y,h5,z,A⟩
 .omega
 .refine ⟨g,o,rfl,r,by unfold maxLen at y;omega,fun j l=>?_⟩
  rw [H2] at l
  have e:(strs ps)[j]?=Y (Z ((ps.map str).getD j ByteArray.empty)):=by
   unfold strs;rw [List.getElem?_map,M2 l,List.getD,List.getElem?_map,M2 l]
   rfl
  rw [Nat.zero_add,A.cell,<- e,<- z,List.getElem?_take,if_pos (by omega),Array.getElem?_toList]
theorem ya (b0:ps≠[]) (e0:ps.length<=1000) (f0:qs.length<=1000) (h:ag w (dh u1 ps*(dh u2 qs*F))) :
  Calls N 56 #[u1,u2] w fun e w'=>e = K (.bool (iH ps qs))/\aj w w'/\ag w' (dh u1 ps*(dh u2 qs*F)):=by
 refine aH fun i0 g=>?_;have l:=ae h;have hp:=List.length_pos_iff.2 b0
 by_cases j:ps.length<qs.length
 .have g0:qs≠[]:=fun e=>by rw [e] at j;simp at j
  obtain ⟨g1,c1,rfl,k1,l1,z1⟩:=rD b0 h;obtain ⟨g2,r,rfl,k2,l2,z2⟩:=rD g0 h.ah;have u:=Tryz.slices_Equal_string g1 0 ps.length c1 g2 0 ps.length r (ps.map str) (qs.map str) w (by rw [H2];exact K2 _) (by rw [H2];omega) (by omega) (by omega) z1 z2
  have hd:decide ((ps.map str).take ps.length=(qs.map str).take ps.length)=iH ps qs:=by
   unfold iH;rw [decide_eq_true j,Bool.true_and];refine decide_eq_decide.2 ⟨fun e=>?_,fun e=>?_⟩
   .rw [X2 (by rw [H2];exact K2 _),<- List.map_take] at e
    exact tJ e
   .rw [X2 (by rw [H2];exact K2 _),<- List.map_take,<- e]
  rw [hd] at u;have o:=ae u;have z:(ps.length:Int)<(qs.length:Int):=by omega
  have hc:(ps.length:Int)<=(r:Int):=by omega
  have k0:(r:Int)<=9223372036854775807:=by omega
  have h0:(0:Int)<=(ps.length:Int):=by omega
  clear h u hd z1 z2 j hp l1 l2 k1 k2;generalize iH ps qs=bb at *;obtain ⟨A,c0⟩:∃ A,ps.length=A:=⟨_,rfl⟩
  obtain ⟨C,d0⟩:∃ C,qs.length=C:=⟨_,rfl⟩
  rw [c0] at o l z hc h0 g ⊢;rw [d0] at l z g ⊢;clear c0 d0 e0 f0
  go_enter func56,ntmps56
  go_wp2_with fail
  refine o.out.mono ?_;rintro e w2 ⟨rfl,nq,rfl⟩;have y:=ae (g.out _ (w.drewN nq) ⟨rfl,(aj.refl w).trans ⟨rfl,rfl,rfl,K2 _⟩,l.out⟩);clear o l g
  go_wp2_with fail
  exact y.out
 .have E:iH ps qs=false:=by unfold iH;rw [decide_eq_false j];rfl
  rw [E] at g;have y:=ae (g.out _ _ ⟨rfl,aj.refl w,h⟩);obtain ⟨a1,n1,rfl⟩:=dI h;obtain ⟨a2,n2,rfl⟩:=dI h.ah;have z:¬ (ps.length:Int)<(qs.length:Int):=by omega
  clear h g l j E hp;generalize ps.length=A at *;generalize qs.length=C at *
  go_enter func56,ntmps56
  go_wp2_with fail
  exact y.out
end
end Go.Proofs.Cl
namespace Go.SL
open RowKit
def hU (T:Tr) (d:Nat) (i:Nat):Tr:=ee T d (jN (dM (T d)) i)
def nX (T:Tr) (k d:Nat):Nat:=k+aJ (dM (T d)).length-aJ ((dM (T d)).length-1)
def FW (T:Tr) (d id:Nat) (nm:List UInt8):Tr:=ee T d (dM (T d)++[⟨id,nm⟩])
def Uo (T:Tr) (k d:Nat):Nat:=k+aJ (dM (T d)).length-aJ ((dM (T d)).length+1)
def vo:Option tX->Bool
 | some (.dir _)=>Z'
 | _=>false
def iX (T:Tr) (ps:List (List UInt8)):Nat:=(gn (dM (T (aZ T ps))) (bE ps)).getD 0
def nA (T:Tr) (k:Nat) (p1 p2:List UInt8):Int:=match aU p1,aU p2 with
 | some ps,Y qs=>if ps=[] then 11 else if (aQ T 1 ps).1≠0 then (aQ T 1 ps).1 else
  if iH ps qs=Z'/\vo (T (aQ T 1 ps).2)=Z' then 11 else if dR T qs≠0 then dR T qs else
  jh (nX T k (aZ T ps)) (dM (hU T (aZ T ps) (iX T ps) (aZ T qs))) (bE qs)
 | _,_=>1
def JI (T:Tr) (k:Nat) (p1 p2:List UInt8) (c:Int) (T':Tr) (k':Nat):Prop:=
 c=nA T k p1 p2/\(c=0->∃ ps qs,aU p1=Y ps/\aU p2=Y qs/\ps≠[]/\(aQ T 1 ps).1=0 /\
  T'=FW (hU T (aZ T ps) (iX T ps)) (aZ T qs) (aQ T 1 ps).2 (bE qs)/\k'=Uo (hU T (aZ T ps) (iX T ps)) (nX T k (aZ T ps)) (aZ T qs))
section
variable {n d d2 id i:Nat} {T:Tr} {L L2:List aN} {nm:List UInt8}
theorem Tidy.rename (h:Tidy n T) (c0:n<=3840) (o:T d=Y (.dir L)) (C:i<L.length) (r:(L[i]).nd=id) (h0:0<id) (b0:id<n) (j:hU T d i d2=Y (.dir L2)) (hn:cL nm=Z') (hp:gn L2 nm=Q) (E:L2.length<3840):Tidy n (FW (hU T d i) d2 id nm):=by
 have g:hU T d i=ee T d (jN L i):=by unfold hU;rw [o];rfl
 have l:=h.w.rm o C;have A:nz L2:=l.ow _ _ (by rw [<- g];exact j);have z:=l.add (d:=d2) (L:=L2) (id:=id) (nm:=nm) (by rw [<- g];exact j) (A.snoc (by omega) (by omega) hn hp E);have u:FW (hU T d i) d2 id nm=ee (ee T d (jN L i)) d2 (L2++[⟨id,nm⟩]):=by unfold FW;rw [j,g];rfl
 rw [u];refine z.tidy fun x=>?_
 by_cases e:x=id
 .subst e;simp [r]
 .have y:¬ x=(L[i]).nd:=by rw [r];exact e
  simp [e,y]
theorem Oq (l:T d=Y (.dir L)) (j:T d2=Y (.dir L2)):∃ g,hU T d i d2=Y (.dir g):=by
 unfold hU ee
 by_cases e:d2=d
 .exact ⟨_,by rw [e,aW]⟩
 .exact ⟨L2,by rw [aE _ _ e];exact j⟩
end
end Go.SL
namespace Go.Proofs.Cl
open RowKit SL Proofs.Nn Proofs.Ba Proofs.Su Proofs.Fs
attribute [local go_sem] Oper.semAt_some
section
variable {n:Nat} {x:Fx n} {b v pc qc k:Nat} {T:Tr} {w:M} {F:ai} {p1 p2:List UInt8}
theorem DY (hn:n<=3840) (ht:Tidy n T) (N1:∀ id F0,T id=Y F0->0<id) (h:ag w (vA x b v T k*(ay pc p1*(ay qc p2*F)))) :
  Calls N 55 #[az v,az pc,az qc] w (Tf x b v (JI T k p1 p2) (ay pc p1*(ay qc p2*F)) w):=by
 refine aH fun f2 HQ=>?_;have k0:w.cell? ⟨pc,0,Q⟩=Y (Z (str p1))/\w.cell? ⟨qc,0,Q⟩=Y (Z (str p2)):=⟨h.ah.cell 0,h.au.cell 0⟩
 have l0:=ae h;have E:=ae ht
 have A:Hid (∀ c,c≠0->c=nA T k p1 p2->∀ (w':M),aj w w'->ag w' (vA x b v T k*(ay pc p1*(ay qc p2*F)))->f2 (.panicked (lG c)) w'):=fun c g he w' d z=>
  HQ.out _ _ ⟨c,T,k,0,⟨he,fun h=>absurd h g⟩,fun h=>absurd h g,.inr ⟨g,rfl⟩,d,by decide,uF (ag.tZ (x:=x) 0 (z.to (by unfold vA;ac_rfl:_=ea x b (ft T) k*(pt v (bN b n)*(ay pc p1*(ay qc p2*F)))))|>.to (by ac_rfl))⟩
 clear h ht
 cases z:aU p1 with
 | none=>
  have hk:=ae (lR (w:=w.drew) z);have g:(1:Int)=nA T k p1 p2:=by unfold nA;rw [z]
  have HC:=ae g;clear z HQ g
  go_enter func55,ntmps55
  go_wp2_with fail
  refine wp_region_held_drew (S:=fun w'=>w'.cell? ⟨pc,0,Q⟩=Y (Z (str p1))/\w'.cell? ⟨qc,0,Q⟩=Y (Z (str p2))) (by kernel_rfl) k0 (fun u0=>?_);refine tk 0 ?_;refine tk 2 ?_;refine tr 1 fun N0 hK=>?_
  go_simp
  go_wp2_with (go_at_call 31;refine hk.out.mono ?_;rintro e w4 ⟨rfl,d4,h4⟩;exact ⟨rfl,A.out 1 (by decide) HC.out _ ((aj.refl w).drew.trans d4) (h4.ei l0.out.drew)⟩)
 | some ps=>
  cases e0:aU p2 with
  | none=>
   have hk:=ae (df (w:=w.drew) z);have x0:=ae fun w'=>lR (w:=w') e0;have g:(1:Int)=nA T k p1 p2:=by unfold nA;rw [z,e0]
   have HC:=ae g;clear z e0 HQ g
   go_enter func55,ntmps55
   go_wp2_with fail
   refine wp_region_held_drew (S:=fun w'=>w'.cell? ⟨pc,0,Q⟩=Y (Z (str p1))/\w'.cell? ⟨qc,0,Q⟩=Y (Z (str p2))) (by kernel_rfl) k0 (fun u0=>?_);refine tk 0 ?_;refine tk 2 ?_;refine tr 1 fun N0 hK=>?_
   go_simp
   go_wp2_with (go_at_call 31;refine hk.out.mono ?_;rintro e w4 ⟨S1,rfl,d4,h4⟩)
   have h5:=h4.under l0.out.drew;have k1:w4.cell? ⟨pc,0,Q⟩=Y (Z (str p1))/\w4.cell? ⟨qc,0,Q⟩=Y (Z (str p2)):=⟨h5.au.cell 0,h5.aA.cell 0⟩
   refine hK.out _ _ k1 (fun u0=>?_);clear hK N0;refine tr 3 fun N0 hK=>?_
   go_simp
   go_wp2_with (go_at_call 31;refine (x0.out _).mono ?_;rintro e w5 ⟨rfl,d5,h6⟩;exact ⟨rfl,A.out 1 (by decide) HC.out _ (((aj.refl w).drew.trans d4).trans d5) (h6.ei h5).right⟩)
  | some qs=>
   obtain ⟨D0,hl⟩:=cU z;obtain ⟨K1,D1⟩:=cU e0;have hk:=ae (df (w:=w.drew) z);have x0:=ae fun w'=>df (w:=w') e0
   have n0:=ae (show nA T k p1 p2=if ps=[] then 11 else if (aQ T 1 ps).1≠0 then (aQ T 1 ps).1 else
    if iH ps qs=Z'/\vo (T (aQ T 1 ps).2)=Z' then 11 else if dR T qs≠0 then dR T qs else
    jh (nX T k (aZ T ps)) (dM (hU T (aZ T ps) (iX T ps) (aZ T qs))) (bE qs) by unfold nA;rw [z,e0])
   have hy:=fun h0=>E.out.walk ps E.out.root.choose_spec h0;have HY:=ae hy;have HL:=ae hl;have K0:=ae D1;have a2:=ae K1;have c2:=ae N1;have d0:=ae fun X0=>yA (T:=T) (ps:=ps) X0
   have c0:=ae fun (X0:ps≠[]) (e1:(aQ T 1 ps).1=0) (e5:nA T k p1 p2=0) (e6:Tidy n (FW (hU T (aZ T ps) (iX T ps)) (aZ T qs) (aQ T 1 ps).2 (bE qs))) (w':M) (d:aj w w') (c1:ag w' (vA (x.more 14) b v (FW (hU T (aZ T ps) (iX T ps)) (aZ T qs) (aQ T 1 ps).2 (bE qs)) (Uo (hU T (aZ T ps) (iX T ps)) (nX T k (aZ T ps)) (aZ T qs))*(ay pc p1*(ay qc p2*F))))=>
    HQ.out (K (I #[])) w' ⟨0,_,_,14,⟨e5.symm,fun _=>⟨ps,qs,z,e0,X0,e1,rfl,rfl⟩⟩,fun _=>e6,.inl ⟨rfl,rfl⟩,d,by decide,c1⟩
   have g1:=ae fun (c:Int) (g:c≠0) (he:c=nA T k p1 p2) (d1:Nat) (hj:d1<=24) (T':Tr) (k':Nat) (w':M) (d:aj w w') (c1:ag w' (vA (x.more d1) b v T' k'*(ay pc p1*(ay qc p2*F))))=>HQ.out (.panicked (lG c)) w' ⟨c,T',k',d1,⟨he,fun h=>absurd h g⟩,fun h=>absurd h g,.inr ⟨g,rfl⟩,d,hj,c1⟩;clear z e0 HQ D0 hl K1 D1 hy N1
   go_enter func55,ntmps55
   go_wp2_with fail
   go_region_held3 (fun w'=>w'.cell? ⟨pc,0,Q⟩=Y (Z (str p1))/\w'.cell? ⟨qc,0,Q⟩=Y (Z (str p2)))
    (first|exact k0|exact k1|exact k2|go_keep)
    (first
     | (go_at_call 31;(with_reducible refine (x0.out _).mono ?_);rintro e w5 ⟨u2,rfl,d5,h6⟩;have h7:=h6.under h5;have k2:w5.cell? ⟨pc,0,Q⟩=Y (Z (str p1))/\w5.cell? ⟨qc,0,Q⟩=Y (Z (str p2)):=⟨h7.aA.cell 0,h7.aM.cell 0⟩)
     | (go_at_call 31;(with_reducible refine hk.out.mono ?_);rintro e w4 ⟨S1,rfl,d4,h4⟩;have h5:=h4.under l0.out.drew;have k1:w4.cell? ⟨pc,0,Q⟩=Y (Z (str p1))/\w4.cell? ⟨qc,0,Q⟩=Y (Z (str p2)):=⟨h5.au.cell 0,h5.aA.cell 0⟩))
   rename_i u0;have j:=h7.to (by ac_rfl:_=vA x b v T k*(dh S1 ps*(dh u2 qs*(ay pc p1*(ay qc p2*F)))));obtain ⟨l,o,rfl⟩:=dI j.ah;obtain ⟨r,u,rfl⟩:=dI j.au;have hw:=ae (fm E.out HL.out fE j);have D5:=ae (((aj.refl w).drew.trans d4).trans d5);have H8:=ae j;clear u0 k0 k1 k2 h4 h5 h6 h7 j d4 d5 hk x0 l0
   by_cases hps:ps=[]
   .have f1:=ae (show (11:Int)=nA T k p1 p2 by rw [n0.out,if_pos hps])
    have S0:=ae fun w=>dg w 11 (by decide);have m2:=ae (A.out 11 (by decide) f1.out _ D5.out (H8.out.to (by ac_rfl:_=(dh (U l ps.length o) ps*dh (U r qs.length u) qs)*(vA x b v T k*(ay pc p1*(ay qc p2*F))))).right);have j2:(ps.length:Int)=0:=by rw [hps];rfl
    clear f1 c0 A d0 n0 H8 hw HY HL K0 D5 hps;generalize ps.length=ln at *
    go_wp2_with fail
    refine (S0.out _).mono ?_;rintro e w9 ⟨rfl,rfl⟩;exact ⟨rfl,m2.out⟩
   .have j2:¬ (ps.length:Int)=0:=by have:=List.length_pos_iff.2 hps;omega
    have b0:=ae (show _=_ from n0.out.trans (if_neg hps));have o0:=ae hps;clear hps n0;obtain ⟨pw,O1⟩:∃ pw,aQ T 1 ps=pw:=⟨_,rfl⟩
    rw [O1] at hw HY b0 c0 d0;clear O1;obtain ⟨wc,id⟩:=pw;dsimp only at hw HY b0 d0 c0
    go_wp2_with fail
    refine hw.out.mono ?_;rintro e w6 ⟨he,d6,h6⟩;clear hw;have D6:=ae (D5.out.trans d6);clear D5 d6 H8;rcases he with ⟨rfl,rfl⟩|⟨g,rfl⟩
    .obtain ⟨F0,hy⟩:=HY.out rfl
     have BL:=ae fun (w':M) (h':ag w' (dh (U l ps.length o) ps*(dh (U r qs.length u) qs*(vA x b v T k*(ay pc p1*(ay qc p2*F))))))=>ya o0.out HL.out K0.out h';have ND:=ae fun (w':M) (h':ag w' (vA x b v T k*(dh (U l ps.length o) ps*(dh (U r qs.length u) qs*(ay pc p1*(ay qc p2*F))))))=>jc hy h';have h7:=h6.to (by ac_rfl:_=dh (U l ps.length o) ps*(dh (U r qs.length u) qs*(vA x b v T k*(ay pc p1*(ay qc p2*F)))));have H7:=ae h7;have H0:=ae hy
     have A1:F0.af.kd=if vo (T id)=Z' then 2 else 1:=by
      rw [hy]
      cases F0 with
      | dir L=>rfl
      | file f=>exact E.out.files _ _ hy
     have m0:=ae A1;clear h6 h7 A1 hy HY;obtain ⟨cc,r1⟩:∃ cc,(iH ps qs && vo (T id))=cc:=⟨_,rfl⟩
     have f0:=ae r1;clear r1
     go_upto_region 4 with (fail)
     go_cut [28] from 19 to 28 (fun u28 wx=>u28 = .bool cc/\aj w wx/\ag wx (vA x b v T k*(dh (U l ps.length o) ps*(dh (U r qs.length u) qs*(ay pc p1*(ay qc p2*F))))))
     case first=>
      have i0:=ae (BL.out _ H7.out)
      cases hb:iH ps qs with
      | false=>
       have jX:cc=false:=by rw [<- f0.out,hb];rfl
       rw [hb] at i0;subst jX;clear BL ND c0 b0 f0 hb m0 d0 A
       go_wp2_with fail
       refine i0.out.mono ?_;rintro e w8 ⟨rfl,d8,j⟩;have HF:=ae (show aj w w8/\ag w8 (vA x b v T k*(dh (U l ps.length o) ps*(dh (U r qs.length u) qs*(ay pc p1*(ay qc p2*F))))) from ⟨D6.out.trans d8,j.to (by ac_rfl)⟩);clear i0 j d8
       go_wp2_with fail
       go_meet
       exact ⟨rfl,HF.out⟩
      | true=>
       have jX:cc=vo (T id):=by rw [<- f0.out,hb];rfl
       rw [hb] at i0;clear BL c0 b0 f0 hb d0 A
       go_wp2_with fail
       refine i0.out.mono ?_;rintro e w8 ⟨rfl,d8,j⟩;have hn:=ae (ND.out w8 (j.to (by ac_rfl)));have D8:=ae (D6.out.trans d8);have h1:=ae jX;clear i0 j d8 ND jX
       go_wp2_with fail
       refine hn.out.mono ?_;rintro e w9 ⟨t2,rfl,V1,W1,r2,s2,d9,h9⟩;obtain ⟨T0,-,-⟩:=ss V1 w9;rw [W1,m0.out,<- h1.out] at T0;have HF:=ae (show aj w w9/\ag w9 (vA x b v T k*(dh (U l ps.length o) ps*(dh (U r qs.length u) qs*(ay pc p1*(ay qc p2*F))))) from ⟨D8.out.trans d9,h9⟩);generalize ints t2.l=yl at *;clear hn V1 W1 r2 s2 d9 h9 D8 h1 m0 H0
       cases cc with
       | true=>
        rw [if_pos rfl] at T0
        go_wp2_with fail
        go_meet
        exact ⟨rfl,HF.out⟩
       | false=>
        rw [if_neg (by decide)] at T0
        go_wp2_with fail
        go_meet
        exact ⟨rfl,HF.out⟩
     case rest=>
      obtain ⟨rfl,d7,j⟩:=hcut
      cases cc with
      | true=>
       have g0:(11:Int)=nA T k p1 p2:=by rw [b0.out,if_neg (by decide),if_pos (by simpa using f0.out)]
       have g2:=ae (A.out 11 (by decide) g0 _ d7 (j.to (by ac_rfl:_=(dh (U l ps.length o) ps*dh (U r qs.length u) qs)*(vA x b v T k*(ay pc p1*(ay qc p2*F))))).right);have S0:=ae fun w=>dg w 11 (by decide);clear g0 j d7 c0 b0 d0 A
       go_wp2_with fail
       refine (S0.out _).mono ?_;rintro e w9 ⟨rfl,rfl⟩;exact ⟨rfl,g2.out⟩
      | false=>
       have L0:=ae (show nA T k p1 p2=if dR T qs≠0 then dR T qs else jh (nX T k (aZ T ps)) (dM (hU T (aZ T ps) (iX T ps) (aZ T qs))) (bE qs) by rw [b0.out,if_neg (by decide),if_neg (by have:=f0.out;simpa using this)]);have v1:=ae (qF E.out K0.out (fun v2 P hW=>dI hW) fE (j.to (by ac_rfl:_=vA x b v T k*(dh (U r qs.length u) qs*(dh (U l ps.length o) ps*(ay pc p1*(ay qc p2*F)))))));have D7:=ae d7;clear j d7 b0 f0 H7 BL ND m0 D6
       go_wp2_with fail
       refine v1.out.mono ?_;rintro e w9 ⟨he,d9,h9⟩;have D9:=ae (D7.out.trans d9);clear v1 d9 D7;rcases he with ⟨V0,rfl⟩|⟨g,rfl⟩
       .obtain ⟨E1,L2,t1,n2⟩:=sM E.out V0
        have Y0:=Ad a2.out E1;obtain ⟨R1,L,i,hi,hd,hp,w1⟩:=d0.out o0.out (by first|rfl|trivial);have W0:iX T ps=i:=by unfold iX;rw [hd];show (gn L (bE ps)).getD 0=i;rw [hp];rfl
        have Z0:hU T (aZ T ps) i=ee T (aZ T ps) (jN L i):=by unfold hU;rw [hd];rfl
        have D0:nX T k (aZ T ps)=k+aJ L.length-aJ (L.length-1):=by unfold nX;rw [hd];rfl
        obtain ⟨y,hM⟩:=Oq (i:=i) hd t1;have H1:nA T k p1 p2=jh (nX T k (aZ T ps)) y (bE qs):=by rw [L0.out,if_neg (by rw [V0];simp),W0,hM];rfl
        have x1:=c2.out _ _ H0.out;have i2:=E.out.lt H0.out;have l1:=ae fun (e1:gn y (bE qs)=Q) (e2:y.length<3840)=>E.out.rename hn hd hi w1 x1 i2 hM Y0 e1 e2;have o1:nz y:=(E.out.w.rm hd hi).ow _ _ (by rw [<- Z0];exact hM);rw [W0] at c0;have j1:=ae (c0.out o0.out (by first|rfl|trivial));have y1:Uo (hU T (aZ T ps) i) (nX T k (aZ T ps)) (aZ T qs)=nX T k (aZ T ps)+aJ y.length-aJ (y.length+1):=by unfold Uo;rw [hM];rfl
        have z1:FW (hU T (aZ T ps) i) (aZ T qs) id (bE qs)=ee (hU T (aZ T ps) i) (aZ T qs) (y++[⟨id,bE qs⟩]):=by unfold FW;rw [hM];rfl
        have X1:=ae y1;have Y1:=ae z1;have m1:=ae fun (w':M) (P:ai) (h':ag w' (vA x b v T k*(dh (U l ps.length o) ps*P)))=>tM E.out HL.out o0.out fE R1 hd hp h';have hB:=h9.alloc (V #[W .i64 (aZ T qs:Nat),Z (str (bE qs))] 83 (0,0));have dB:=ae (D9.out.alloc (V #[W .i64 (aZ T qs:Nat),Z (str (bE qs))] 83 (0,0)));have hC:=hB.to (by ac_rfl:_=vA x b v T k*(dh (U l ps.length o) ps*(pt w9.heap.size (V #[W .i64 (aZ T qs:Nat),Z (str (bE qs))] 83 (0,0))*(dh (U r qs.length u) qs*(ay pc p1*(ay qc p2*F))))));have HC:=ae hC;have HM:=ae hM;have HE:=ae o1;have HN:=ae Y0;have i1:=ae H1;have b2:=ae Z0;have Z1:=ae D0;clear hB hC h9 t1 n2 hd hp w1 R1 W0 Z0 D0 hM H1 o1 Y0 y1 z1 c0 L0 d0 V0 E1 D9 hi
        go_wp2_with fail
        generalize w9.alloc (V #[W .i64 (aZ T qs:Nat),Z (str (bE qs))] 83 (0,0))=o2 at *;generalize w9.heap.size=sp at *;refine (m1.out o2 _ HC.out).mono ?_;rintro e U1 ⟨he,n1,g0⟩;obtain rfl:=he.elim (fun h=>h.2) (fun h=>absurd rfl h.1);rw [<- b2.out,<- Z1.out] at g0;have q0:=g0.to (by ac_rfl:_=vA (x.more 9) b v (hU T (aZ T ps) i) (nX T k (aZ T ps))*(pt sp (V #[W .i64 (aZ T qs:Nat),Z (str (bE qs))] 83 (0,0))*((dh (U l ps.length o) ps*dh (U r qs.length u) qs)*(ay pc p1*(ay qc p2*F)))));have s0:U1.cell? ⟨sp,0,Q⟩=Y (W .i64 (aZ T qs:Nat)):=q0.ah.cell 0;have s1:U1.cell? ⟨sp,1,Q⟩=Y (Z (str (bE qs))):=q0.ah.cell 1;have ha:=ae (vD (x:=x.more 9) (child:=id) x1 (by omega) HM.out HE.out HN.out q0);have G0:=ae (dB.out.trans n1);clear he g0 q0 n1 dB HC m1;generalize aZ T qs=d2 at *;generalize bE qs=nm at *
        go_wp2_with fail
        refine ha.out.mono ?_;rintro e q2 hq;rcases hq with ⟨C,rfl,p0,r0⟩|⟨C,rfl,p0,r0⟩
        .have L1:gn y nm=Q:=by
          cases hp:gn y nm with
          | none=>rfl
          | some q=>unfold jh at C;rw [hp] at C;exact absurd C (show ¬ (6:Int)=0 by decide)
         have l2:y.length<3840:=by
          unfold jh at C;rw [L1] at C;simp only [Z2,Bool.false_eq_true,if_false] at C
          split at C
          .exact absurd C (by decide)
          .omega
         have q1:=l1.out L1 l2;have R0:=(r0.to (by ac_rfl:_=(pt sp (V #[W .i64 (d2:Int),Z (str nm)] 83 (0,0))*(dh (U l ps.length o) ps*dh (U r qs.length u) qs))*(vA (x.more 14) b v (ee (hU T (aZ T ps) i) d2 (y++[⟨id,nm⟩])) (nX T k (aZ T ps)+aJ y.length-aJ (y.length+1))*(ay pc p1*(ay qc p2*F))))).right;rw [<- Y1.out,<- X1.out] at R0;have h2:=ae (j1.out (i1.out.trans C) q1 q2 (G0.out.trans p0) R0);clear ha r0 R0 q1 p0 G0 j1 l1 g1 A s0 s1
         go_wp2_with fail
         go_end0
         exact h2.out
        .exact ⟨rfl,g1.out _ C i1.out.symm 9 (by decide) _ _ _ (G0.out.trans p0) (r0.to (by ac_rfl:_=(pt sp (V #[W .i64 (d2:Int),Z (str nm)] 83 (0,0))*(dh (U l ps.length o) ps*dh (U r qs.length u) qs))*(vA (x.more 9) b v (hU T (aZ T ps) i) (nX T k (aZ T ps))*(ay pc p1*(ay qc p2*F))))).right⟩
       .exact ⟨rfl,A.out _ g (by rw [L0.out,if_pos g]) _ D9.out (h9.to (by ac_rfl:_=(dh (U l ps.length o) ps*dh (U r qs.length u) qs)*(vA x b v T k*(ay pc p1*(ay qc p2*F))))).right⟩
    .exact ⟨rfl,A.out _ g (by rw [b0.out,if_pos g]) _ D6.out (h6.to (by ac_rfl:_=(dh (U l ps.length o) ps*dh (U r qs.length u) qs)*(vA x b v T k*(ay pc p1*(ay qc p2*F))))).right⟩
end
section
variable {t:Pl} {q:Dk t.n} {s s':Ds} {T:Tr} {k m:Nat} {O:jT} {w:M} {F:ai} {p1 p2:List UInt8}
theorem EE (g:mW t q s T k) (y:s.B<=1000000) (h:ag w (dJ t s m O*F)) :
  Calls N 20 #[az t.f,Z (str p1),Z (str p2)] w (O4 t q m s O (JI T k p1 p2) F w):=by
 refine aH fun c0 o=>?_;have j:=(h.alloc (V #[Z (str p1)] 9 (0,0))).alloc (V #[Z (str p2)] 9 (0,0));simp only [E2] at j;have r:=ae (((aj.refl w).alloc (V #[Z (str p1)] 9 (0,0))).alloc (V #[Z (str p2)] 9 (0,0)))
 have A:=ae fun (pc qc:Nat) (w':M) (h':ag w' (dJ t s m O*((ay pc p1*ay qc p2)*F)))=>
  l9 g y 55 #[az pc,az qc] (ay pc p1*ay qc p2) (JI T k p1 p2) (enters func55 (by kernel_rfl) rfl)
   (fun x v b w1 E hw=>(DY (x:=x) (b:=b) (v:=v) (k:=k) (pc:=pc) (qc:=qc) (F:=dG t m O*E) (p1:=p1) (p2:=p2) g.hn g.ty g.pos (hw.to (by ac_rfl))).mono fun e w' hq=>by simpa only [ax] using hq) h'
 have l:=ae j;clear h j g y
 go_enter func20,ntmps20
 go_wp2_with fail
 generalize (w.alloc (V #[Z (str p1)] 9 (0,0))).alloc (V #[Z (str p2)] 9 (0,0))=w1 at *;generalize w.heap.size=pc at *;refine (A.out pc (pc+1) _ (l.out.to (by unfold ay;ac_rfl))).mono ?_;rintro e w2 ⟨c,T',k',s',z,rfl,d2,C,u⟩;have b0:=ae (o.out _ _ ⟨c,T',k',s',z,rfl,r.out.trans d2,C,(u.to (by ac_rfl:_=(ay pc p1*ay (pc+1) p2)*(dJ t s' m O*F))).right⟩);clear A r l d2 C z u o
 go_wp2_with fail
 exact b0.out
end
section
variable {t:Pl} {S:Hp} {J:Jr} {D D':aC} {fc m:Nat}
theorem MN (C:J.flush D=(0,J,D')) (hJ:J.Ok) (d0:D'.Ok) :
  Ty t S (.map (Y m)) J D 126 #[az fc] (bg t fc) (fun c c0 G'=>c=0/\c0=⟨0,[],[],(J,D')⟩/\G'=bg t fc):=by
 intro v b j o g;refine aH fun h0 r=>?_;have y:ag j (Qc t.s t.j t.d t.n t.P S (J,D)*(aB 176 5 xD b (zF t S).rd 0 [] []*(pt t.f (iD t (.map (Y m)))*(pt v (bN b t.n)*(ak xD*(bg t fc*o)))))):=g.to (by unfold cI;show _=(zF t S).RI (J,D)*_;ac_rfl);obtain ⟨g0,z⟩:=nV y;have f0:j.cell? ⟨fc,0,Q⟩=Y (az t.f):=(g.to (by unfold bg;ac_rfl:_=pt fc (V #[az t.f] 25 (0,0))*(pt t.f (iD t (.map (Y m)))*(pt v (bN b t.n)*(cI (zF t S) xD b ⟨0,[],[],(J,D)⟩*(ak xD*o)))))).cell 0;have s0:j.cell? ⟨t.f,0,Q⟩=Y (az t.s):=g.cell 0;have E:=ae (N8 j S t.s t.j t.d t.n t.P J D _ z g0.2);have b0:=ae cV;have HF:=ae C;clear g y z C
 go_enter func126,ntmps126
 go_wp2_with fail
 refine E.out.mono ?_;rintro e w2 ⟨rfl,l,u⟩;rw [HF.out] at l ⊢;have A:=Be (x:=(J,D')) hJ d0 l;have e0:=ae (r.out (K (I #[])) w2 ⟨0,xD,⟨0,[],[],(J,D')⟩,bg t fc,⟨rfl,rfl,rfl⟩,.inl ⟨rfl,rfl⟩,u,A.to (by unfold cI;show (zF t S).RI (J,D')*_=_;ac_rfl)⟩);clear l A r E u
 go_wp2_with fail
 refine (b0.out _).mono ?_;rintro e w3 ⟨rfl,rfl⟩
 go_wp2_with fail
 go_end0
 exact e0.out
end
section
variable {t:Pl} {q:Dk t.n} {s:Ds} {T:Tr} {k m:Nat} {O:jT} {w:M} {F:ai}
def UK (t:Pl) (q:Dk t.n) (m:Nat) (s:Ds) (T:Tr) (k:Nat) (O:jT) (F:ai) (w:M) (e:Ending) (w':M):Prop:=
 e = K (W .i64 0)/\aj w w'/\mW t q ⟨s.J,s.D.aK,s.has,s.B+1⟩ T k/\ag w' (dJ t ⟨s.J,s.D.aK,s.has,s.B+1⟩ m O*F)
theorem PB (g:mW t q s T k) (C:s.B<=1000000) (h:ag w (dJ t s m O*F)) :
  Calls N 68 #[az t.f] w (UK t q m s T k O F w):=by
 refine aH fun e0 y=>?_;obtain ⟨J,D,has,B⟩:=s;have r:q.Q B J D has:=g.at_.q;have j:=q.inv r;have E:mW t q ⟨J,D.aK,has,B+1⟩ T k:=⟨⟨q.flush r C,g.at_.has⟩,g.ty,g.h4,g.hn⟩
 have A:=h.alloc (V #[az t.f] 25 (0,0));have z:=ae ((aj.refl w).alloc (V #[az t.f] 25 (0,0)));obtain ⟨S,hS⟩:=zx (A.to (by unfold dJ;ac_rfl:_=lL t ⟨J,D,has,B⟩*(pt t.f (iD t (.map (Y m)))*(pt w.heap.size (V #[az t.f] 25 (0,0))*(mp m (lZ O)*F)))))
 have hd:=ae (Ff t _ S J D (.map (Y m)) 126 #[az w.heap.size] (bg t w.heap.size) (mp m (lZ O)*F) (fun c o l=>c=0/\o=⟨0,[],[],(J,D.aK)⟩/\l=bg t w.heap.size) j.ok j.Kw (enters func126 (by kernel_rfl) rfl) (MN j.flush j.ok j.aK.Kw)
  (by rintro c o l ⟨-,rfl,-⟩ - - d0;exact absurd rfl d0) (hS.to (by unfold bg;ac_rfl)))
 have u:=ae E;clear h A hS g r j C E
 go_enter func68,ntmps68
 go_wp2_with fail
 refine hd.out.mono ?_;rintro e w2 ⟨c,o,l,S',J',D',⟨rfl,rfl,rfl⟩,-,rfl,d2,hs,-,b0⟩;have e:=b0 (.inr rfl);simp only [Prod.mk.injEq] at e;obtain ⟨rfl,rfl⟩:=e;have c0:=ae (y.out _ _ ⟨rfl,z.out.trans d2,u.out,((my (s:=⟨J,D.aK,has,B+1⟩) (hs.to (by ac_rfl))).to (by unfold dJ;ac_rfl:lL t ⟨J,D.aK,has,B+1⟩*(pt t.f (iD t (.map (Y m)))*(bg t w.heap.size*(mp m (lZ O)*F)))=bg t w.heap.size*(dJ t ⟨J,D.aK,has,B+1⟩ m O*F))).right⟩);clear hd d2 hs b0 y u z
 go_wp2_with fail
 exact c0.out
end
theorem PY (w:M) (r o:Addr) :
    CallsD N 113 #[H (Y r),H (Y o)] .returning w fun e u w'=>e = K (I #[])/\u = .returning/\w=w':=by
  have j:=vq w;refine callsD_of_wpS func113 rfl fun g y l=>?_;apply wpS_seq;apply wpS_region
  simp only [ntmps113,List.size_toArray,List.length_cons,List.length_nil,Nat.reduceAdd,Nat.reduceSub,Array.replicate_succ,
     Array.replicate_zero,List.push_toArray,List.append_toArray,List.nil_append,List.cons_append]
  simp [wpOpsS,go_sem,recoverD,l,Exit.thenS];refine j.mono ?_;rintro e z ⟨rfl,rfl⟩;refine wpS_of_wp ?_
  go_wp2
  cases g
  simp_all [bodyPostS,results,Tryz.results113]
theorem EZ {w:M} {g:Array G} {a b:Nat} {v e:G} (j:g[6]?=Y (az a)) (l:g[7]?=Y (az b)) (o:w.cell? ⟨a,0,Q⟩=Y v) (r:w.cell? ⟨b,0,Q⟩=Y e) :
  (results Tryz.f62 g).run N w = .ok (I #[v,e]) w:=by
 have u:g.getD 6 undef=az a:=by simp [j]
 have y:g.getD 7 undef=az b:=by simp [l]
 simp [results,Tryz.results62,j,l,go_sem,o,r]
theorem J9 {w:M} {g:Array G} {a b:Nat} {v e:G} {R:Ending->M->Prop} (j:g[6]?=Y (az a)) (l:g[7]?=Y (az b)) (r:w.cell? ⟨a,0,Q⟩=Y v) (y:w.cell? ⟨b,0,Q⟩=Y e) (o:R (K (I #[v,e])) w) :
  bodyPostD N Tryz.f62 R Exit.ret { tmps:=g,defers:=[{ target:=.fn (.func 113) #[H (Y ⟨a,0,Q⟩),H (Y ⟨b,0,Q⟩)],args:=#[] }] } w:=by
 refine leaves_cons (f:=113) (args:=#[H (Y ⟨a,0,Q⟩),H (Y ⟨b,0,Q⟩)]) (by simp) (by simp [go_sem]) ?_;refine (PY w ⟨a,0,Q⟩ ⟨b,0,Q⟩).mono ?_;rintro e u z ⟨rfl,rfl,rfl⟩;exact ⟨_,EZ j l r y,o⟩
section
variable {t:Pl} {S:Hp} {J:Jr} {D:aC} {mv:G} {M1:gZ (Jr × aC)}
theorem DX (h4:4<=t.n) (hn:t.n<=3840) (u:ed (jy (zF t S).ask) ⟨0,[],[],(J,D)⟩=(.ok (),M1)) :
  Ty t S mv J D 66 #[] emp (fun c C y=>c=0/\C=M1/\y=emp):=by
 intro v b l z g;refine aH fun c0 o=>?_;have v0:l.cell? ⟨v,0,Q⟩=Y (az b):=g.ah.cell 0;have v1:l.cell? ⟨v,1,Q⟩=Y (W .i64 (t.n:Int)):=g.ah.cell 1;have j:=ae (JU (zF t S) (MV t S) t.n h4 hn b ⟨0,[],[],(J,D)⟩ l xD _ (g.to (by ac_rfl:_=cI (zF t S) xD b ⟨0,[],[],(J,D)⟩*(ak xD*(pt t.f (iD t mv)*(pt v (bN b t.n)*(emp*z)))))));rw [u] at j;have A:=ae cV;clear g u
 go_enter func66,ntmps66
 go_wp2_with fail
 refine j.out.mono ?_;rintro e w2 ⟨E,-,d2,rfl,r⟩;have b0:=ae (o.out (K (I #[])) w2 ⟨0,E,M1,emp,⟨rfl,rfl,rfl⟩,.inl ⟨rfl,rfl⟩,d2,r.to (by ac_rfl)⟩);have hc:Rs.code (.ok ():Rs Unit)=0:=rfl;rw [hc];clear r o j d2 v0 v1
 go_wp2_with fail
 refine (A.out _).mono ?_;rintro e w3 ⟨rfl,rfl⟩
 go_wp2_with fail
 go_end0
 exact b0.out
end
structure Lq (n P B:Nat) (J:Jr) (D:aC) (has:Has):Prop where
 inv:fY J D has
 jn:J.n=(n:Int)
 bound:tD J
 jP:J.P=P
 sq:J.sq<=(B:Int)
theorem Lq.AH {n P B:Nat} {J:Jr} {D:aC} {has:Has} {L:Bl} (z:5*n+240<=2*P) (h:Lq n P B J D has) (y:B<=1000000) (r:Batch (n:Int) L):∃ j D',fg J D Z' L=(0,j,D')/\Lq n P (B+1) j D' (nF has L):=by
 have g:Batch J.n L:=by rw [h.jn];exact r
 have u:J.sq<281474976710655:=by have:=h.sq;omega
 have o:=Fp h.inv h.bound (by rw [h.jn,h.jP];omega) g;obtain ⟨D',l⟩:=Dl h.inv g u o;refine ⟨_,D',l.run,l.inv,?_,FJ h.inv h.bound g o,h.jP,?_⟩
 .show J.n=_;exact h.jn
 .show J.sq+1<=_;have:=h.sq;omega
def V3 (n P:Nat) (j:5*n+240<=2*P):Dk n:=
 ⟨Lq n P,fun h=>h.inv,fun h=>h.jn,fun h r=>⟨h.inv.cr r,h.jn,h.bound,h.jP,h.sq⟩,fun h g _ l=>h.AH j g l,fun h g=>⟨h.inv.aK,h.jn,h.bound,h.jP,by have:=h.sq;omega⟩⟩
def sQ:Has:=fun _=>Q
theorem yP {n:Nat} (o:2<=n):Tidy n eU:=by
 have g:∀ id L,eU id=Y (.dir L)->L=[]:=by
  intro id L h;unfold eU at h
  split at h
  .injection h with h;injection h with h;exact h.symm
  .cases h
 refine ⟨⟨[],rfl⟩,fun id L h=>?_,fun id f h=>?_,fun id=>?_,fun id h=>?_⟩
 .rw [g _ _ h];exact nz.nil
 .unfold eU at h
  split at h
  .injection h with h;cases h
  .cases h
 .have e:refs n eU id=0:=by
   unfold refs
   have:∀ l:List Nat,(l.map fun d=>(dM (eU d)).countP fun e=>e.nd == id).sum=0:=by
    intro l
    induction l with
    | nil=>rfl
    | cons a l j=>
     rw [Y2,List.sum_cons,j];have:dM (eU a)=[]:=by unfold eU;split <;> rfl
     rw [this];rfl
   exact this _
  rw [e];unfold eU
  split
  .rename_i h;subst h;rfl
  .rfl
 .unfold eU;rw [if_neg (by omega)]
theorem OI:ft eU=fun id=>if id=1 then Y (fh 2) else Q:=by
 funext id;unfold ft eU
 split
 .show Y (tX.dir []).af=_
  have:=GR (kd:=2) (.inr rfl);rw [show nD 2 = .dir [] from rfl] at this;rw [this]
 .rfl
section
variable {t:Pl} {q:Dk t.n} {w:M} {F:ai} {J:Jr} {D:aC} {m:Nat}
def Sy (t:Pl) (q:Dk t.n) (m:Nat) (F:ai) (w:M) (e:Ending) (w':M):Prop:=
 ∃ s,e = K (I #[])/\aj w w'/\s.B<=3/\mW t q s eU (t.n-2)/\ag w' (dJ t s m []*F)
theorem Pc (h4:4<=t.n) (hn:t.n<=3840) (E:q.Q 1 J D sQ) (h:ag w (pt t.f (iD t (.map (Y m)))*(mp m (lZ [])*(lL t ⟨J,D,sQ,1⟩*F)))) :
  Calls N 29 #[az t.f,.func (.func 66) #[] #[]] w fun e w'=>∃ s,e = K (W .i64 0)/\aj w w'/\s.B<=2/\mW t q s eU (t.n-2)/\ag w' (dJ t s m []*F):=by
 have hG:Go.SL.Good t.n (jQ sQ) (IJ J D) ⟨0,[],[],(J,D)⟩:=⟨rfl,IJ.start J D,fun i l _ h=>absurd h (by simp [aP]),fun i l _ h=>absurd h (by simp [aP]),fun p hp=>absurd hp (by simp)⟩
 obtain ⟨M1,he,A⟩:=FP (y4 E) (by omega) h4 hn hG
 have e0:M1.W.length<=24:=by
  have:=(Ck (ask:=RU)).run he;simp at this;omega
 rw [<- OI] at A;obtain ⟨S,hS⟩:=zx (h.to (by ac_rfl:_=lL t ⟨J,D,sQ,1⟩*(pt t.f (iD t (.map (Y m)))*(mp m (lZ [])*F))));have hi:=q.inv E
 have b0:(M1.W.map Prod.fst).Nodup->M1.W≠[]->∃ r j D',M1.s=(J,{ D with cr:=r })/\q.Q 1 J { D with cr:=r } sQ/\Batch (t.n:Int) (iF M1.W)/\fg J { D with cr:=r } Z' (iF M1.W)=(0,j,D')/\q.Q 2 j D' (nF sQ (iF M1.W)):=by
  intro C y;obtain ⟨u,r,z⟩:=A.gL.inv;have hb:=zg A C e0 (List.length_pos_iff.2 y);obtain ⟨j,D',e3,e4⟩:=q.AH (q.cr E r) (by decide) hb;exact ⟨r,j,D',Prod.ext u z,q.cr E r,hb,e3,e4⟩
 refine (Ff t w S J D (.map (Y m)) 66 #[] emp (mp m (lZ [])*F) (fun c o G'=>c=0/\o=M1/\G'=emp) hi.ok hi.Kw (enters func66 (by kernel_rfl) rfl) (DX h4 hn he) ?_ (hS.to (by rw [cW];ac_rfl))).mono ?_
 .rintro c o G' ⟨rfl,rfl,rfl⟩-C y
  obtain ⟨r,j,D',u,z,e3,e4,-⟩:=b0 C y;refine ⟨sQ,j,D',?_,?_,e3,?_⟩
  .rw [u];exact q.inv z
  .rw [u];exact q.jn z
  .rw [u];exact e4
 .rintro e w' ⟨c,o,G',S',j,D',⟨rfl,rfl,rfl⟩,C,rfl,d,hs,c0,d0⟩
  by_cases y:o.W=[]
  .obtain ⟨u,r,z⟩:=A.gL.inv
   have e:=d0 (.inr y);rw [e] at u z;have hr:Ds.Rd ⟨J,D,sQ,1⟩ ⟨j,D',sQ,1⟩:=⟨u,⟨r,z⟩,rfl,rfl⟩
   refine ⟨⟨j,D',sQ,1⟩,rfl,d,Nat.le_succ 1,⟨Rw.rd (s:=⟨J,D,sQ,1⟩) ⟨E,uh A y⟩ hr,yP (by omega),h4,hn⟩,?_⟩;exact (my (s:=⟨j,D',sQ,1⟩) (hs.to (by rw [cW];ac_rfl))).to (by unfold dJ;ac_rfl:lL t ⟨j,D',sQ,1⟩*(pt t.f (iD t (.map (Y m)))*(mp m (lZ [])*F))=_)
  obtain ⟨r',J2,D2,f1,f2,f3,f4,f5⟩:=b0 C y;have g:=c0 rfl y;rw [f1] at g;have g:fg J { D with cr:=r' } Z' (iF o.W)=(0,j,D'):=g;rw [g] at f4;simp only [Prod.mk.injEq,true_and] at f4;obtain ⟨rfl,rfl⟩:=f4;refine ⟨⟨j,D',nF sQ (iF o.W),2⟩,rfl,d,K2 2,⟨⟨f5,xk A C⟩,yP (by omega),h4,hn⟩,?_⟩;exact (my (s:=⟨j,D',nF sQ (iF o.W),2⟩) (hs.to (by rw [cW];ac_rfl))).to (by unfold dJ;ac_rfl:lL t ⟨j,D',nF sQ (iF o.W),2⟩*(pt t.f (iD t (.map (Y m)))*(mp m (lZ [])*F))=_)
theorem Io (g:4<=t.n) (E:t.n<=3840) (hq:q.Q 1 J D sQ) (h:ag w (pt t.f (iD t (.map (Y m)))*(mp m (lZ [])*(lL t ⟨J,D,sQ,1⟩*F)))) :
  Calls N 65 #[az t.f] w (Sy t q m F w):=by
 refine aH fun d0 r=>?_;have e0:=nB N;have C:=ae (Pc g E hq h);have u:=ae cV;clear h hq g E
 go_enter func65,ntmps65
 go_wp2_with fail
 refine C.out.mono ?_;rintro e w2 ⟨s,rfl,d2,A,j,z⟩;have b0:=ae (PB j (by omega) z);have l:=ae d2;have o:=ae A;clear C d2 j z A
 go_wp2_with fail
 refine (u.out _).mono ?_;rintro e w3 ⟨rfl,rfl⟩
 go_wp2_with fail
 refine b0.out.mono ?_;rintro e w4 ⟨rfl,y,j,g⟩;have c0:=ae (r.out (K (I #[])) _ ⟨_,rfl,l.out.trans y,(show s.B+1<=3 by have:=o.out;omega),j,g⟩);clear b0 y j g r l o
 go_wp2_with fail
 refine (u.out _).mono ?_;rintro e w5 ⟨rfl,rfl⟩
 go_wp2_with fail
 go_end0
 exact c0.out
def Rb (l:FuncId) (fc:Array G) (j:ai) (X:Nat->ai):Prop:=
 ∀ (w:M) (g:ai),ag w (j*g)->Calls N l fc w fun e w'=>∃ s,e = K (I #[az s,W .i64 0])/\aj w w'/\ag w' (X s*g)
def RO (o:FuncId) (l:Array G) (X:Nat->ai) (j:Nat->Nat->Nat->ai):Prop:=
 ∀ (s f m:Nat) (w:M) (g:ai),ag w (pt f (V #[az s,.map (Y m)] 91 (0,0))*(mp m []*(X s*g)))->Calls N o (#[az f]++l) w fun e w'=>e = K (I #[])/\aj w w'/\ag w' (j s f m*g)
def Uj (g:Nat->Nat->Nat->ai) (F:ai) (w:M) (e:Ending) (w':M):Prop:=
 ∃ s f m,e = K (I #[az f,W .i64 0])/\aj w w'/\ag w' (g s f m*F)
theorem Kg (w:M):(Instr.makeMap 89 Q).run N w = .ok (.map (Y w.heap.size)) (w.alloc (.map #[] 0)):=by
 simp [Instr.makeMap,run_underlying underlying89]
theorem JQ {dv:Nat} {y z:FuncId} {fc gc:Array G} {c0:ai} {X:Nat->ai} {d0:Nat->Nat->Nat->ai} (q0:∀ (u:Array G) (w:M),(callFunc y u).run N w = .ok (.enter y u) w) (r0:∀ (u:Array G) (w:M),(callFunc z u).run N w = .ok (.enter z u) w)
  (hF:Rb y fc c0 X) (hT:RO z gc X d0) (h:ag w (c0*F)):Calls N 62 #[az dv,.func (.func y) #[] fc,.func (.func z) #[] gc] w (Uj d0 F w):=by
 refine aH fun p0 HQ=>?_;have u0:=nB N;have H0:=(h.alloc (V #[H Q] 25 (0,0))).alloc (V #[W .i64 0] 28 (0,0));have D0:=((aj.refl w).alloc (V #[H Q] 25 (0,0))).alloc (V #[W .i64 0] 28 (0,0));rw [E2] at H0;have HF:=ae hF;have HT:=ae hT;clear h hF hT
 go_enter_defers func62,ntmps62
 go_wp2_with fail
 generalize (w.alloc (V #[H Q] 25 (0,0))).alloc (V #[W .i64 0] 28 (0,0))=w1 at *;generalize w.heap.size+1=j at *;generalize w.heap.size=fb at *;have h0:=ae (HF.out w1 _ (H0.to (by ac_rfl:_=c0*(pt j (V #[W .i64 0] 28 (0,0))*(pt fb (V #[H Q] 25 (0,0))*F)))));have D1:=ae D0;clear H0 D0 HF
 go_wp2_with fail
 refine h0.out.mono ?_;rintro e w2 ⟨s,rfl,d2,h2⟩;have A:=h2.to (by ac_rfl:_=pt j (V #[W .i64 0] 28 (0,0))*(pt fb (V #[H Q] 25 (0,0))*(X s*F)));have e0:w2.cell? ⟨j,0,Q⟩=Y (W .i64 0):=A.cell 0;have ef:w2.frozen? ⟨j,0,Q⟩=false:=A.frozen 0;have h4:=A.setCell 0 (W .i64 0);have D4:=ae ((D1.out.trans d2).setCell ⟨j,0,Q⟩ (W .i64 0));have r:=ae (h4.to (by ac_rfl:_=pt fb (V #[H Q] 25 (0,0))*(pt j (V #[W .i64 0] 28 (0,0))*(X s*F))));have l0:=ae cV;have g0:=ae Kg;clear h0 D1 d2 h2 A h4
 go_wp2_with fail
 refine (l0.out _).mono ?_;rintro e w3 ⟨rfl,rfl⟩;generalize w2.setCell ⟨j,0,Q⟩ (W .i64 0)=g at *;have f0:g.cell? ⟨fb,0,Q⟩=Y (H Q):=r.out.cell 0;have n0:g.frozen? ⟨fb,0,Q⟩=false:=r.out.frozen 0;have s0:fb<g.heap.size:=r.out.lt;have o0:=g0.out;have H5:=((((r.out.setCell 0 (az (g.heap.size+1))).alloc (.map #[] 0)).uy isMap_empty).alloc (V #[az s,.map (Y g.heap.size)] 91 (0,0)))
 have D5:=(((D4.out.setCell ⟨fb,0,Q⟩ (az (g.heap.size+1))).alloc (.map #[] 0)).alloc (V #[az s,.map (Y g.heap.size)] 91 (0,0)))
 have k0:(g.setCell ⟨fb,0,Q⟩ (az (g.heap.size+1))).heap.size=g.heap.size:=World.size_setCell ..;rw [E2,k0] at H5;have D6:=ae D5;have ht:=ae (HT.out s (g.heap.size+1) g.heap.size _ _ (H5.to (by show _=pt (g.heap.size+1) (V #[az s,.map (Y g.heap.size)] 91 (0,0))*(mp g.heap.size []*(X s*(pt fb (V #[az (g.heap.size+1)] 25 (0,0))*(pt j (V #[W .i64 0] 28 (0,0))*F))));simp only [P2,R2];ac_rfl)));generalize i0:g.heap.size+1=l at ht D6;have m0:=ae i0;clear H5 D5 r D4 g0 e0 ef i0 k0
 go_wp2_with fail
 rw [m0.out];refine ht.out.mono ?_;rintro e E ⟨rfl,d6,h6⟩;have o:=h6.to (by ac_rfl:_=pt fb (V #[az l] 25 (0,0))*(pt j (V #[W .i64 0] 28 (0,0))*(d0 s l g.heap.size*F)));have a0:E.cell? ⟨fb,0,Q⟩=Y (az l):=o.cell 0;have a1:E.frozen? ⟨fb,0,Q⟩=false:=o.frozen 0;have b0:(E.setCell ⟨fb,0,Q⟩ (az l)).cell? ⟨j,0,Q⟩=Y (W .i64 0):=(o.setCell 0 (az l)).ah.cell 0;have b1:(E.setCell ⟨fb,0,Q⟩ (az l)).frozen? ⟨j,0,Q⟩=false:=(o.setCell 0 (az l)).ah.frozen 0;have h8:=(o.setCell 0 (az l)).ah.setCell 0 (W .i64 0);have H8:=ae h8;have D8:=ae (((D6.out.trans d6).setCell ⟨fb,0,Q⟩ (az l)).setCell ⟨j,0,Q⟩ (W .i64 0));clear ht h6 o h8 D6 d6 f0 n0 o0 HT
 go_wp2_with fail
 have C:=H8.out;simp only [P2,R2] at C;exact J9 rfl rfl (C.ah.cell 0) (C.cell 0) (HQ.out _ _ ⟨s,l,g.heap.size,rfl,D8.out,C.right.right⟩)
end
end Go.Proofs.Cl
namespace Go.Proofs.Cl
open RowKit SL Proofs.Nn Proofs.Ba Proofs.Su Proofs.Fs
def fu (t:Pl) (q:Dk t.n) (m:Nat) (T:Tr) (k B:Nat) (O:jT):ai:=ex fun s:Ds=>fact (mW t q s T k/\s.B<=B)*dJ t s m O
section
variable {t:Pl} {q:Dk t.n} {s:Ds} {T:Tr} {k m B:Nat} {O:jT} {w:M} {F:ai} {p p1 p2:List UInt8} {R:Int->Tr->Nat->Prop} {e:Ending} {w':M}
theorem eF (h:ag w (fu t q m T k B O*F)):∃ s,mW t q s T k/\s.B<=B/\ag w (dJ t s m O*F):=by
 obtain ⟨s,g⟩:=ag.aw.1 h;obtain ⟨⟨j,l⟩,o⟩:=ag.aq.1 (g.to (ax _ _ _));exact ⟨s,j,l,o⟩
theorem et (j:mW t q s T k) (g:s.B<=B) (h:ag w (dJ t s m O*F)):ag w (fu t q m T k B O*F):=
 ag.aw.2 ⟨s,(ag.aq.2 ⟨⟨j,g⟩,h⟩:ag w (fact _*_)).to (ax _ _ _).symm⟩
theorem As {B':Nat} (o:B<=B') (h:ag w (fu t q m T k B O*F)):ag w (fu t q m T k B' O*F):=by
 obtain ⟨s,g,l,j⟩:=eF h;exact et g (by omega) j
theorem mW.go {s':Ds} {wr:Bool} (g:s.Go t.n wr s'):s'.B<=s.B+1:=by
 rcases g with h|⟨_,r,L,_,_,_,h⟩
 .rw [h.B];omega
 .omega
def Qi (t:Pl) (q:Dk t.n) (m:Nat) (T:Tr) (k B:Nat) (O:jT) (R:Int->Tr->Nat->Prop) (F:ai) (w:M) (e:Ending) (w':M):Prop:=
 aj w w'/\∃ c,e = K (W .i64 c)/\((c≠0/\(∃ T' k',R c T' k')/\ag w' (fu t q m T k B O*F))\/(c=0/\∃ T' k',R 0 T' k'/\ag w' (fu t q m T' k' (B+1) O*F)))
theorem Km (y:mW t q s T k) (o:s.B<=B) (h:O4 t q m s O R F w e w'):Qi t q m T k B O R F w e w':=by
 obtain ⟨c,T',k',s',j,u,d,C,g⟩:=h;refine ⟨d,c,u,?_⟩;rcases C with ⟨r,l⟩|⟨rfl,z,A⟩
 .exact .inl ⟨r,⟨T',k',j⟩,et (y.rd l) (by rw [l.B];exact o) g⟩
 .exact .inr ⟨rfl,T',k',j,et z (by have:=mW.go A;omega) g⟩
theorem Qi.ok (h:Qi t q m T k B O R F w e w') (l:∀ c T' k',R c T' k'->c=0):∃ T' k',R 0 T' k'/\e = K (W .i64 0)/\aj w w'/\ag w' (fu t q m T' k' (B+1) O*F):=by
 obtain ⟨d,c,rfl,⟨o,⟨T',k',g⟩,_⟩|⟨rfl,T',k',g,j⟩⟩:=h
 .exact absurd (l _ _ _ g) o
 .exact ⟨T',k',g,rfl,d,j⟩
theorem re (u:B<=1000000) (o:gp T k p=0) (h:ag w (fu t q m T k B O*F)):Calls N 11 #[az t.f,Z (str p)] w (Qi t q m T k B O (lY t.n T k 1 p) F w):=by
 obtain ⟨s,g,j,l⟩:=eF h;exact (ES g (by omega) o l).mono fun e w' r=>Km g j r
theorem Gd (u:B<=1000000) (o:gp T k p=0) (h:ag w (fu t q m T k B O*F)):Calls N 9 #[az t.f,Z (str p)] w (Qi t q m T k B O (lY t.n T k 2 p) F w):=by
 obtain ⟨s,g,j,l⟩:=eF h;exact (JN g (by omega) o l).mono fun e w' r=>Km g j r
theorem LW (u:B<=1000000) (o:gI T k p1 p2=0) (h:ag w (fu t q m T k B O*F)):Calls N 15 #[az t.f,Z (str p1),Z (str p2)] w (Qi t q m T k B O (yx T k p1 p2) F w):=by
 obtain ⟨s,g,j,l⟩:=eF h;exact (LM g (by omega) o l).mono fun e w' r=>Km g j r
theorem Ma (r:B<=1000000) (h:ag w (fu t q m T k B O*F)):Calls N 10 #[az t.f,Z (str p)] w (Qi t q m T k B O (rL T k O p) F w):=by
 obtain ⟨s,g,j,l⟩:=eF h;exact (Ei g (by omega) l).mono fun e w' o=>Km g j o
theorem Di (r:B<=1000000) (h:ag w (fu t q m T k B O*F)):Calls N 20 #[az t.f,Z (str p1),Z (str p2)] w (Qi t q m T k B O (JI T k p1 p2) F w):=by
 obtain ⟨s,g,j,l⟩:=eF h;exact (EE g (by omega) l).mono fun e w' o=>Km g j o
def BP (X:ai) (v:G) (F:ai) (w:M) (e:Ending) (w':M):Prop:=e = K v/\aj w w'/\ag w' (X*F)
theorem sI (z:B<=1000000) (h:ag w (fu t q m T k B O*F)):Calls N 13 #[az t.f,Z (str p)] w (BP (fu t q m T k B O) (I #[Ql (if (bG T p).1=0 then qd (T (bG T p).2) else (0,0,0)),W .i64 (bG T p).1]) F w):=by
 obtain ⟨s,g,j,l⟩:=eF h;refine (Ni g (by omega) l).mono ?_;rintro e w' ⟨s',rfl,d,u,r,o⟩;have y:s.Rd s':=by rcases u with h|⟨h,_⟩;exact h;cases h
 exact ⟨rfl,d,et r (by rw [y.B];exact j) o⟩
theorem l8 (z:B<=1000000) (h:ag w (fu t q m T k B O*F)):Calls N 14 #[az t.f] w (BP (fu t q m T k B O) (I #[W .i64 (t.n:Int),W .i64 (k:Int),W .i64 0]) F w):=by
 obtain ⟨s,g,j,l⟩:=eF h;refine (EG g (by omega) l).mono ?_;rintro e w' ⟨s',rfl,d,u,r,o⟩;have y:s.Rd s':=by rcases u with h|⟨h,_⟩;exact h;cases h
 exact ⟨rfl,d,et r (by rw [y.B];exact j) o⟩
theorem PD {fd:Int} (h:ag w (fu t q m T k B O*F)):Calls N 18 #[az t.f,W .i64 fd] w (BP (fu t q m T k B (if (aP O fd).isSome then vY O fd else O)) (W .i64 (if (aP O fd).isSome then 0 else 5)) F w):=by
 obtain ⟨s,g,j,l⟩:=eF h;refine (Ip g l).mono ?_;rintro e w' ⟨rfl,d,o⟩;exact ⟨rfl,d,et g j o⟩
def RM (t:Pl) (q:Dk t.n) (m:Nat) (T:Tr) (k B:Nat) (O:jT) (p:List UInt8) (F:ai) (w:M) (e:Ending) (w':M):Prop:=
 aj w w'/\((iN T O p≠0/\e = K (I #[W .i64 0,W .i64 (iN T O p)])/\ag w' (fu t q m T k B O*F)) \/
  (iN T O p=0/\∃ g:Nat,(∀ j:Nat,j<g->(aP O (j:Int)).isSome=Z')/\aP O (g:Int)=Q/\e = K (I #[W .i64 (g:Int),W .i64 0])/\ag w' (fu t q m T k B (eu O g ((bG T p).2,0))*F)))
theorem A3 (C:B<=1000000) (A:O.length<=1000) (h:ag w (fu t q m T k B O*F)):Calls N 16 #[az t.f,Z (str p)] w (RM t q m T k B O p F w):=by
 obtain ⟨s,j,r,z⟩:=eF h;refine (od j (by omega) A z).mono ?_;rintro e w' ⟨s',d,g,⟨o,rfl,l⟩|⟨o,y,a1,u,rfl,l⟩⟩
 .exact ⟨d,.inl ⟨o,rfl,et (j.rd g) (by rw [g.B];exact r) l⟩⟩
 .exact ⟨d,.inr ⟨o,y,a1,u,rfl,et (j.rd g) (by rw [g.B];exact r) l⟩⟩
def RF (t:Pl) (q:Dk t.n) (m:Nat) (T:Tr) (k B:Nat) (O:jT) (r:Int) (id j g:Nat) (o l:Int) (F:ai) (w:M) (e:Ending) (w':M):Prop:=
 aj w w'/\((gJ j g o l≠0/\e = K (I #[W .i64 0,W .i64 (gJ j g o l)])/\ag w' (fu t q m T k B O*F)) \/
  (gJ j g o l=0/\e = K (I #[W .i64 (eG j g o l),W .i64 0])/\ag w' (fu t q m T k B (eu O r (id,(eG j g o l).toNat))*F)))
theorem Ox {f:AF} {fd:Int} {id at':Nat} {o wh:Int} (hB:B<=1000000) (E:aP O fd=Y (id,at')) (A:T id=Y (.file f)) (C:at'<=122880) (z:-9223372036854775808<=o/\o<=9223372036854775807) (h:ag w (fu t q m T k B O*F)) :
  Calls N 21 #[az t.f,W .i64 fd,W .i64 o,W .i64 wh] w (RF t q m T k B O fd id f.sz at' o wh F w):=by
 obtain ⟨s,j,u,y⟩:=eF h;refine (LA j (by omega) E A C z y).mono ?_;rintro e w' ⟨s',d,g,⟨r,rfl,l⟩|⟨r,rfl,l⟩⟩
 .exact ⟨d,.inl ⟨r,rfl,et (j.rd g) (by rw [g.B];exact u) l⟩⟩
 .exact ⟨d,.inr ⟨r,rfl,et (j.rd g) (by rw [g.B];exact u) l⟩⟩
def Ub (c:Int) (l:List UInt8) (X g:ai) (F:ai) (w:M) (e:Ending) (w':M):Prop:=
 aj w w'/\((c≠0/\e = K (I #[U Q 0 0,W .i64 c])/\ag w' (X*F))\/(c=0/\∃ u,e = K (I #[u,W .i64 0])/\ag w' (bs 5 u l*(g*F))))
theorem R9 {f:AF} {fd:Int} {id at':Nat} {c:Int} (E:B<=1000000) (C:aP O fd=Y (id,at')) (z:T id=Y (.file f)) (A:at'<=122880) (h:ag w (fu t q m T k B O*F)) :
  Calls N 22 #[az t.f,W .i64 fd,W .i64 c] w (Ub (nk c) (f.sub at' c.toNat) (fu t q m T k B O) (fu t q m T k B (eu O fd (id,at'+(f.sub at' c.toNat).length))) F w):=by
 obtain ⟨s,j,r,y⟩:=eF h;refine (Ov j (by omega) C z A y).mono ?_;rintro e w' ⟨s',d,g,⟨o,rfl,l⟩|⟨o,u,rfl,l⟩⟩
 .exact ⟨d,.inl ⟨o,rfl,et (j.rd g) (by rw [g.B];exact r) l⟩⟩
 .exact ⟨d,.inr ⟨o,u,rfl,(et (j.rd g) (by rw [g.B];exact r) (l.to (by ac_rfl:_=dJ t s' m (eu O fd (id,at'+(f.sub at' c.toNat).length))*(bs 5 u (f.sub at' c.toNat)*F)))).to (by ac_rfl)⟩⟩
theorem zA {a c:Int} (A:B<=1000000) (z:fw T p a c=0) (h:ag w (fu t q m T k B O*F)):Calls N 19 #[az t.f,Z (str p),W .i64 a,W .i64 c] w (Ub (fw T p a c) (jM T p a c) (fu t q m T k B O) (fu t q m T k B O) F w):=by
 obtain ⟨s,j,r,y⟩:=eF h;refine (Lh j (by omega) z y).mono ?_;rintro e w' ⟨s',d,g,⟨o,rfl,l⟩|⟨o,u,rfl,l⟩⟩
 .exact ⟨d,.inl ⟨o,rfl,et (j.rd g) (by rw [g.B];exact r) l⟩⟩
 .exact ⟨d,.inr ⟨o,u,rfl,(et (j.rd g) (by rw [g.B];exact r) (l.to (by ac_rfl:_=dJ t s' m O*(bs 5 u (jM T p a c)*F)))).to (by ac_rfl)⟩⟩
def Wc (c:Int) (L:List aN) (X:ai) (F:ai) (w:M) (e:Ending) (w':M):Prop:=
 aj w w'/\((c≠0/\e = K (I #[U Q 0 0,W .i64 c])/\ag w' (X*F))\/(c=0/\∃ u g,g.Perm L/\kU Cu g/\e = K (I #[u,W .i64 0])/\ag w' (dh u (g.map aN.nm)*(X*F))))
theorem JA (hB:B<=1000000) (C:nH T p=0) (E:(dM (T (bG T p).2)).length<=Dv) (h:ag w (fu t q m T k B O*F)):Calls N 12 #[az t.f,Z (str p)] w (Wc (nH T p) (dM (T (bG T p).2)) (fu t q m T k B O) F w):=by
 obtain ⟨s,j,y,A⟩:=eF h;refine (BI j (by omega) C E A).mono ?_;rintro e w' ⟨s',d,g,⟨o,rfl,l⟩|⟨o,u,r,a1,z,rfl,l⟩⟩
 .exact ⟨d,.inl ⟨o,rfl,et (j.rd g) (by rw [g.B];exact y) l⟩⟩
 .exact ⟨d,.inr ⟨o,u,r,a1,z,rfl,(et (j.rd g) (by rw [g.B];exact y) (l.to (by ac_rfl:_=dJ t s' m O*(dh u (r.map aN.nm)*F)))).to (by ac_rfl)⟩⟩
def ER (t:Pl) (q:Dk t.n) (m:Nat) (T:Tr) (k B:Nat) (O:jT) (g:Int) (o:Nat × Nat) (R:Int->Tr->Nat->Prop) (F:ai) (w:M) (e:Ending) (w':M):Prop:=
 aj w w'/\∃ c,e = K (W .i64 c)/\((c≠0/\(∃ T' k',R c T' k')/\ag w' (fu t q m T k B O*F))\/(c=0/\∃ T' k',R 0 T' k'/\ag w' (fu t q m T' k' (B+1) (eu O g o)*F)))
theorem uN {f:AF} {fd:Int} {id at' vc:Nat} {va:Option Addr} {l:List UInt8} {D:ai} (hB:B<=1000000) (d0:fX k at' f l=0) (hy:aP O fd=Y (id,at')) (C:T id=Y (.file f)) (E:at'<=122880) (e0:l.length<=1000000000) (b0:l.length<=vc) (A:∀ j P,ag j (D*P)->Rd j (U va l.length vc) l) (h:ag w (fu t q m T k B O*(D*F))) :
  Calls N 17 #[az t.f,W .i64 fd,U va l.length vc] w (ER t q m T k B O fd (id,at'+l.length) (fW T k id at' f l) (D*F) w):=by
 obtain ⟨s,o,y,z⟩:=eF h;refine (Ir o (by omega) d0 hy C E e0 b0 A z).mono ?_;rintro e w' ⟨c,T',k',s',r,rfl,d,hr⟩;refine ⟨d,c,rfl,?_⟩;rcases hr with ⟨hc,u,g⟩|⟨rfl,c0,hg,g⟩
 .exact .inl ⟨hc,⟨T',k',r⟩,et (o.rd u) (by rw [u.B];exact y) g⟩
 .exact .inr ⟨rfl,T',k',r,et c0 (by have:=mW.go hg;omega) g⟩
theorem Gq {f:AF} {fd z:Int} {id at':Nat} (y:B<=1000000) (u:aP O fd=Y (id,at')) (o:T id=Y (.file f)) (h:ag w (fu t q m T k B O*F)) :
  Calls N 23 #[az t.f,W .i64 fd,W .i64 z] w (Qi t q m T k B O (KQ T k id f z) F w):=by
 obtain ⟨s,g,j,l⟩:=eF h;exact (Is g (by omega) u o l).mono fun e w' r=>Km g j r
end
end Go.Proofs.Cl
namespace Go.SL
open RowKit Proofs.Cl
theorem F8 (a b:List UInt8):str a++str b=str (a++b):=by
 unfold str;apply ByteArray.ext;simp
section
variable {T T':Tr} {d id x k:Nat} {nm:List UInt8} {kd:Int} {L R X:List aN} {f:AF} {p:List UInt8} {ps qs:List (List UInt8)}
theorem QJ:OW T d id nm kd d=Y (.dir (dM (T d)++[⟨id,nm⟩])):=aW _ _ _
theorem Pg (h:id≠d):OW T d id nm kd id=Y (nD kd):=(aE _ _ h).trans (aW _ _ _)
theorem Pz (h:x≠d) (g:x≠id):OW T d id nm kd x=T x:=(aE _ _ h).trans (aE _ _ g)
theorem gS {i:Nat} (h:T x=Y (.dir R)) (g:gn R nm=Y i):aQ T x [nm]=(0,(R.getD i aN.no).nd):=by
 have e:dS (T x) nm=(0,(R.getD i aN.no).nd):=by rw [h,js g]
 rw [iz (by rw [e]),e,JB]
theorem Bj {i j:Nat} {g:List UInt8} (h:T x=Y (.dir R)) (o:gn R nm=Y i) (l:T (R.getD i aN.no).nd=Y (.dir X)) (r:gn X g=Y j):aQ T x [nm,g]=(0,(X.getD j aN.no).nd):=by
 have e:dS (T x) nm=(0,(R.getD i aN.no).nd):=by rw [h,js o]
 rw [iz (by rw [e]),e];exact gS l r
theorem mh (j:ps≠[]) (o:aQ T 1 ps.dropLast=(0,d)) (g:T d=Y (.dir L)) (l:gn L (bE ps)=Q):dR T ps=0:=by
 unfold dR;rw [if_neg j,o,if_neg (by simp),g,ij l];rfl
theorem eV (g:aQ T 1 ps.dropLast=(0,d)):aZ T ps=d:=by unfold aZ;rw [g]
theorem mL (g:gn L nm=Q) (l:L.length<3840) (j:aJ (L.length+1)<=k+aJ L.length):jh k L nm=0:=by
 unfold jh;rw [g,if_neg (by decide),if_neg (by omega),if_neg (by omega)]
theorem oJ (u:aU p=Y ps) (r:ps≠[]) (l:aQ T 1 ps.dropLast=(0,d)) (g:T d=Y (.dir L)) (j:gn L (bE ps)=Q) (o:L.length<3840) (y:1+aJ (L.length+1)<=k+aJ L.length) (z:0<k):gp T k p=0:=by
 have e:dM (T d)=L:=by rw [g];rfl
 unfold gp;rw [u];simp only;rw [mh r l g j,if_neg (by simp),eV l,e,rq,if_neg (show ¬ 122880<=32*L.length by omega),if_neg (by simp),if_neg (show ¬ k=0 by omega)];exact mL j o (by omega)
structure Made (n:Nat) (T T':Tr) (d id:Nat) (nm:List UInt8) (kd:Int) (L:List aN):Prop where
 no:T id=none
 pos:0<id
 lt:id<n
 dir:T' d=some (.dir (L++[⟨id,nm⟩]))
 new:T' id=some (nD kd)
 qk:∀ x,x≠d->x≠id->T' x=T x
theorem rY {n k':Nat} {c:Int} (hs:aU p=Y ps) (hw:aQ T 1 ps.dropLast=(0,d)) (o:T d=Y (.dir L)) (h:lY n T k kd p c T' k') (C:c=0):(∃ id,Made n T T' d id (bE ps) kd L)/\k'=VS k L:=by
 obtain ⟨-,l⟩:=h;obtain ⟨qs,u,id,r,g,e3,j,y,z,rfl,rfl⟩:=l C;obtain rfl:ps=qs:=by rw [hs] at r;exact Option.some.inj r
 rw [eV hw] at g ⊢;obtain rfl:L=u:=by rw [o] at g;injection g with g;injection g
 have E:id≠d:=by rintro rfl;rw [o] at j;cases j
 refine ⟨⟨id,j,y,z,?_,Pg E,fun x A l=>Pz A l⟩,rfl⟩;rw [QJ,o];rfl
end
section
variable {T T1 T2 T4 T5:Tr} {a b k k':Nat} {c:Int}
abbrev pD:List UInt8:=[47,100]
abbrev Mg:List UInt8:=[47,100,47,97]
abbrev pB:List UInt8:=[47,98]
abbrev W7:List UInt8:=[47,100,47,101]
abbrev qW:List UInt8:=[104,101,108,108,111]
theorem mB:aU pD=Y [[100]]:=by decide
theorem nO:aU Mg=Y [[100],[97]]:=by decide
theorem z8:aU pB=Y [[98]]:=by decide
theorem Nu:aU W7=Y [[100],[101]]:=by decide
theorem FO:aU [47]=Y []:=by decide
theorem kS (a:Nat) (nm:List UInt8):gn [⟨a,nm⟩] nm=Y 0:=by simp [gn]
structure WB (n:Nat) (T:Tr) (a:Nat):Prop where
 ne:a≠1
 root:T 1=some (.dir [⟨a,[100]⟩])
 da:T a=some (.dir [])
 qk:∀ x,x≠1->x≠a->T x=none
theorem Rm:gp eU 18 pD=0:=oJ mB (by simp) (d:=1) (L:=[]) rfl rfl rfl (by simp) (by decide) (by decide)
theorem Sz {n:Nat} (h:lY n eU 18 2 pD c T1 k') (l:c=0):(∃ a,WB n T1 a)/\k'=16:=by
 obtain ⟨⟨a,m⟩,o⟩:=rY (d:=1) (L:=[]) mB rfl rfl h l;have ne:a≠1:=by intro e;have:=m.no;rw [e] at this;cases this
 refine ⟨⟨a,ne,m.dir,m.new,fun x g j=>(m.qk x g j).trans (if_neg g)⟩,by rw [o];decide⟩
structure OU (n:Nat) (T:Tr) (a b:Nat) (R:List aN) (f:AF):Prop where
 a1:a≠1
 b1:b≠1
 ba:b≠a
 root:T 1=some (.dir R)
 da:T a=some (.dir [⟨b,[97]⟩])
 fb:T b=some (.file f)
theorem Ra {n:Nat} (h:WB n T1 a):gp T1 16 Mg=0:=oJ nO (by simp) (gS h.root (kS a _)) h.da rfl (by simp) (by decide) (by decide)
theorem TH {n:Nat} (g:WB n T1 a) (h:lY n T1 16 1 Mg c T2 k') (j:c=0):(∃ b,OU n T2 a b [⟨a,[100]⟩] (fh 1))/\k'=14:=by
 obtain ⟨⟨b,m⟩,l⟩:=rY (d:=a) (L:=[]) nO (gS g.root (kS a _)) g.da h j;have ne:b≠1:=by intro e;have:=m.no;rw [e,g.root] at this;cases this
 have o:b≠a:=by intro e;have:=m.no;rw [e,g.da] at this;cases this
 exact ⟨⟨b,g.ne,ne,o,by rw [m.qk 1 (Ne.symm g.ne) (Ne.symm ne)];exact g.root,m.dir,m.new⟩,by rw [l];decide⟩
theorem wy {n:Nat} {f:AF} (h:OU n T a b [⟨a,[100]⟩] f):aQ T 1 [[100],[97]]=(0,b):=Bj h.root (kS a _) h.da (kS b _)
theorem y9 {n:Nat} {f:AF} (h:OU n T a b [⟨a,[100]⟩] f):bG T Mg=(0,b):=(dN nO).trans (wy h)
theorem B8 {n:Nat} {f:AF} (h:OU n T a b [⟨a,[100]⟩] f):(bG T Mg).1=0/\T (bG T Mg).2=Y (.file f):=by rw [y9 h];exact ⟨rfl,h.fb⟩
def xr:AF:=(fh 1).wr 0 qW
theorem Ry:fX 14 0 (fh 1) qW=0:=by decide +kernel
theorem RV {n:Nat} (g:OU n T a b [⟨a,[100]⟩] (fh 1)) (h:fW T 14 b 0 (fh 1) qW c T4 k') (r:c=0):OU n T4 a b [⟨a,[100]⟩] xr/\k'=13:=by
 obtain ⟨-,o⟩:=h;rcases o r with ⟨e,_⟩|⟨_,j,l⟩
 .cases e
 .rw [j,l]
  refine ⟨⟨g.a1,g.b1,g.ba,(aE _ _ (Ne.symm g.b1)).trans g.root,(aE _ _ (Ne.symm g.ba)).trans g.da,aW _ _ _⟩,by decide +kernel⟩
theorem Rc {n:Nat} (h:OU n T a b [⟨a,[100]⟩] xr):gI T 13 Mg pB=0:=by
 have g:dR T [[98]]=0:=mh (d:=1) (by simp) rfl h.root (by simp [gn,bE]);unfold gI;rw [nO,z8];simp only;rw [wy h,if_neg (by simp),h.fb];simp only;rw [g,if_neg (by simp),if_neg (by decide),eV (d:=1) rfl,h.root];exact mL (by simp [gn,bE,dM]) (by simp [dM]) (by simp [dM];decide)
def Gk:AF:={ xr with lk:=2 }
theorem Ug {n:Nat} (g:OU n T4 a b [⟨a,[100]⟩] xr) (h:yx T4 13 Mg pB c T5 k') (z:c=0):OU n T5 a b [⟨a,[100]⟩,⟨b,[98]⟩] Gk/\k'=13:=by
 obtain ⟨-,y⟩:=h;obtain ⟨ps,qs,id,f,L,r,u,o,j,l,A,rfl,rfl⟩:=y z;obtain rfl:=Option.some.inj (nO.symm.trans r);obtain rfl:=Option.some.inj (z8.symm.trans u);rw [wy g] at o;obtain rfl:b=id:=(Prod.mk.inj o).2;rw [eV (d:=1) rfl,g.root] at l;obtain rfl:[⟨a,[100]⟩]=L:=by injection l with l;injection l
 obtain rfl:xr=f:=by rw [g.fb] at j;injection j with j;injection j
 rw [eV (d:=1) rfl];refine ⟨⟨g.a1,g.b1,g.ba,(aE _ _ (Ne.symm g.b1)).trans (aW _ _ _),?_,aW _ _ _⟩,(show 13+aJ 1-aJ 2=13 by decide)⟩;exact (aE _ _ (Ne.symm g.ba)).trans ((aE _ _ g.a1).trans g.da)
section
variable {n:Nat} (h:OU n T a b [⟨a,[100]⟩,⟨b,[98]⟩] Gk)
include h
theorem LI:bG T pB=(0,b):=(dN z8).trans (gS (i:=1) h.root (by simp [gn,List.findIdx?_cons]))
theorem Vb:bG T pD=(0,a):=(dN mB).trans (gS (i:=0) h.root (by simp [gn,List.findIdx?_cons]))
theorem wR:(bG T pB).1=0/\qd (T (bG T pB).2)=(1,2,5):=by
 rw [LI h];dsimp only;rw [h.fb];exact ⟨rfl,rfl⟩
theorem yO:fw T pB 1 3=0:=by
 unfold fw;rw [if_pos (by decide),LI h,if_neg (by simp),h.fb]
theorem NS:jM T pB 1 3=[101,108,108]:=by
 unfold jM;rw [LI h];dsimp only;rw [h.fb];decide
theorem uS:nH T [47]=0/\dM (T (bG T [47]).2)=[⟨a,[100]⟩,⟨b,[98]⟩]:=by
 have e:bG T [47]=(0,1):=dN FO;unfold nH;rw [e];dsimp only;rw [if_neg (by simp),h.root];exact ⟨rfl,rfl⟩
omit h in
theorem JJ {l:List aN} (u:l.Perm [⟨a,[100]⟩,⟨b,[98]⟩]) (A:kU Cu l):l.map aN.nm=[[98],[100]]:=by
 have z:=u.length_eq
 match l,z with
 | [x,y],_=>
  have o:=u.map aN.nm;simp only [Y2,List.map_nil] at o ⊢
  have r:x.nm≠y.nm:=by
   have:=o.nodup_iff.2 (by decide:[([100]:List UInt8),[98]].Nodup);simpa using this
  have C:x.nm=[100]\/x.nm=[98]:=by simpa using o.mem_iff.1 (List.mem_cons_self (a:=x.nm) (l:=[y.nm]))
  have E:y.nm=[100]\/y.nm=[98]:=by simpa using o.mem_iff.1 (show y.nm ∈ [x.nm,y.nm] by simp)
  rcases C with g|g <;> rcases E with j|j
  .exact absurd (g.trans j.symm) r
  .have:=(List.pairwise_cons.1 A).1 y (by simp)
   unfold Cu at this;rw [g,j] at this;exact absurd this (by decide)
  .rw [g,j]
  .exact absurd (g.trans j.symm) r
end
end
end Go.SL
namespace Go.Proofs.Cl
open RowKit SL Proofs.Nn Proofs.Ba Proofs.Su Proofs.Fs
attribute [local go_sem] Oper.semAt_some
section
variable {n:Nat} {x:Fx n} {b v pc qc fc k id:Nat} {T:Tr} {w:M} {F:ai} {p p1 p2:List UInt8} {ps qs:List (List UInt8)} {L:List aN} {c:Int}
theorem Fy {X g:ai} {e:Ending} {w':M} (j:c≠0) (l:e = .panicked (lG c)) (d:aj w w') (h:ag w' g):Jk c X g w e w':=⟨d,.inr ⟨j,l,h⟩⟩
theorem Dr {X:ai} (C:Tidy n T) (l:aU p=Y ps) (j:aQ T 1 ps=(0,id)) (E:T id=Y (.dir L)) (h:ag w (vA x b v T k*(ay pc p*F))) :
  Calls N 30 #[az v,az pc,az fc] w (Jk 8 X (vA x b v T k*(ay pc p*F)) w):=by
 refine aH fun e0 HQ=>?_;have cp:w.cell? ⟨pc,0,Q⟩=Y (Z (str p)):=h.ah.cell 0;have o:=ae h;obtain ⟨d0,A⟩:=cU l;have z:=ae (df (w:=w) l);have HT:=ae C;have HL:=ae A;have HW:=ae j;have HY:=ae E;clear h C l d0 A j E
 go_enter func30,ntmps30
 go_wp2_with fail
 refine z.out.mono ?_;rintro e w2 ⟨u,rfl,d2,y⟩;have g:=(y.under o.out).to (by ac_rfl:_=vA x b v T k*(dh u ps*(ay pc p*F)));have j:=fm HT.out HL.out fE g;rw [HW.out] at j;have r:=ae j;clear cp z y g o j
 go_wp2_with fail
 refine r.out.mono ?_;rintro e w3 ⟨⟨-,rfl⟩|⟨hc,-⟩,d3,g⟩
 .have b0:=ae (lS HY.out g)
  obtain ⟨ua,uc,rfl⟩:=dI (g.to (by ac_rfl:_=dh u ps*(vA x b v T k*(ay pc p*F))));clear g r
  go_wp2_with fail
  refine b0.out.mono ?_;rintro e w7 (⟨c0,_⟩|⟨-,rfl,d7,h7⟩)
  .exact absurd c0 (by show ¬ (2:Int)=1;decide)
  .exact ⟨rfl,HQ.out _ _ (Fy (by decide) rfl ((d2.trans d3).trans d7) (h7.to (aI _ _ _)).right)⟩
 .exact absurd rfl hc
theorem C7 {X:ai} (ht:Tidy n T) (A:aU p=Y ps) (i0:ps≠[]) (l:aQ T 1 ps=(0,id)) (hy:T id=Y (.dir L)) (hL:L≠[]) (h:ag w (vA x b v T k*(ay pc p*F))) :
  Calls N 61 #[az v,az pc] w (Jk 11 X (vA x b v T k*(ay pc p*F)) w):=by
 refine aH fun u0 HQ=>?_;have cp:w.cell? ⟨pc,0,Q⟩=Y (Z (str p)):=h.ah.cell 0;have b0:=ae h;obtain ⟨r0,hl⟩:=cU A;have hk:=ae (df (w:=w) A);have u:¬ (ps.length:Int)=0:=by have:=List.length_pos_iff.2 i0;omega
 have y:(0:Int)<((eY 1 L).sz:Int):=by have:=List.length_pos_iff.2 hL;show (0:Int)<((32*L.length:Nat):Int);omega
 have HT:=ae ht;have HL:=ae hl;have HW:=ae l;have HY:=ae hy;have c0:=ae u;have d0:=ae y;clear h ht A r0 hl l hy i0 hL u y
 go_enter func61,ntmps61
 go_wp2_with fail
 refine hk.out.mono ?_;rintro e w2 ⟨l0,rfl,d2,h2⟩;have j:=(h2.under b0.out).to (by ac_rfl:_=vA x b v T k*(dh l0 ps*(ay pc p*F)));have l:=fm HT.out HL.out fE j;rw [HW.out] at l;have Hw:=ae l;clear cp hk h2 j b0 l
 go_wp2_with fail
 refine Hw.out.mono ?_;rintro e w3 ⟨⟨-,rfl⟩|⟨hc,-⟩,d3,j⟩
 .have h0:=ae (jc HY.out j)
  obtain ⟨ua,uc,rfl⟩:=dI (j.to (by ac_rfl:_=dh l0 ps*(vA x b v T k*(ay pc p*F))));clear j Hw
  go_wp2_with fail
  refine h0.out.mono ?_;rintro e g ⟨z,rfl,m0,n0,s0,o0,d7,h7⟩;obtain ⟨hX,k0,g0⟩:=mn m0;have r:=h7.alloc (V ny 65 (0,0));have Hz:=ae r.heap;have o:=r.setRow (cs':=ints z.l);have C:((g.alloc (V ny 65 (0,0))).setRow g.heap.size (ints z.l)).cell? ⟨g.heap.size,0,Q⟩=Y (W .i64 2):=by rw [show (2:Int)=z.kd from n0.symm];exact o.cell 0
  have E:((g.alloc (V ny 65 (0,0))).setRow g.heap.size (ints z.l)).cell? ⟨g.heap.size,2,Q⟩=Y (W .i64 ((eY 1 L).sz:Int)):=by rw [show ((eY 1 L).sz:Int)=z.sz from o0.symm];exact o.cell 2
  have HE:=ae (o.to (by ac_rfl:_=(dh (U ua ps.length uc) ps*pt g.heap.size (V (ints z.l) 65 (0,0)))*(vA x b v T k*(ay pc p*F)))).right;have D7:=ae ((((d2.trans d3).trans d7).alloc (V ny 65 (0,0))).setRow g.heap.size (ints z.l));have f0:=ae k0;have e0:=ae g0;have HX:=ae hX;have N0:=ae C;have N2:=ae E;clear h0 r o hX k0 g0 C E d7 h7 m0 n0 s0 o0;unfold ny at *
  go_upto_region 3 with (refine wpList_store_row (by exact rfl) 65 (.tmp 5) (.tmp 13) (by exact rfl) g.heap.size (ints z.l) (by exact rfl) (by exact rfl) 65 _ (by with_reducible exact Hz.out) e0.out (by rw [HX.out];rfl) f0.out ?_)
  have C:=N0.out;have E:=N2.out;have u:=c0.out;have y:=d0.out;have p0:=ae fun w=>dg w 11 (by decide);have q0:=ae (HQ.out _ _ (Fy (X:=X) (c:=11) (by decide) rfl D7.out HE.out));clear Hz f0 e0 HX N0 N2 c0 d0 D7 HE;generalize ((eY 1 L).sz:Int)=sz at *;generalize ps.length=ln at *
  go_wp2_with fail
  refine (p0.out _).mono ?_;rintro e w9 ⟨rfl,rfl⟩;exact ⟨rfl,q0.out⟩
 .exact absurd rfl hc
theorem AZ {X:ai} (ht:Tidy n T) (A:aU p1=Y ps) (C:aU p2=Y qs) (z:ps≠[]) (l:aQ T 1 ps=(0,id)) (hy:T id=Y (.dir L)) (hb:iH ps qs=Z') (h:ag w (vA x b v T k*(ay pc p1*(ay qc p2*F)))) :
  Calls N 55 #[az v,az pc,az qc] w (Jk 11 X (vA x b v T k*(ay pc p1*(ay qc p2*F))) w):=by
 refine aH fun F0 HQ=>?_;have k0:w.cell? ⟨pc,0,Q⟩=Y (Z (str p1))/\w.cell? ⟨qc,0,Q⟩=Y (Z (str p2)):=⟨h.ah.cell 0,h.au.cell 0⟩
 have b0:=ae h;obtain ⟨r0,hl⟩:=cU A;obtain ⟨s0,f0⟩:=cU C;have hk:=ae (df (w:=w.drew) A);have e0:=ae fun w'=>df (w:=w') C;have u:¬ (ps.length:Int)=0:=by have:=List.length_pos_iff.2 z;omega
 have HT:=ae ht;have HL:=ae hl;have l0:=ae f0;have HW:=ae l;have HY:=ae hy;have c0:=ae u;have m0:=ae z;have HB:=ae hb;clear h ht A C r0 s0 hl f0 l hy z u hb
 go_enter func55,ntmps55
 go_wp2_with fail
 go_region_held3 (fun w'=>w'.cell? ⟨pc,0,Q⟩=Y (Z (str p1))/\w'.cell? ⟨qc,0,Q⟩=Y (Z (str p2)))
  (first|exact k0|exact k1|exact k2|go_keep)
  (first
   | (go_at_call 31;(with_reducible refine (e0.out _).mono ?_);rintro e w5 ⟨u2,rfl,d5,o⟩;have g:=o.under r;have k2:w5.cell? ⟨pc,0,Q⟩=Y (Z (str p1))/\w5.cell? ⟨qc,0,Q⟩=Y (Z (str p2)):=⟨g.aA.cell 0,g.aM.cell 0⟩)
   | (go_at_call 31;(with_reducible refine hk.out.mono ?_);rintro e w4 ⟨u0,rfl,d4,h4⟩;have r:=h4.under b0.out.drew;have k1:w4.cell? ⟨pc,0,Q⟩=Y (Z (str p1))/\w4.cell? ⟨qc,0,Q⟩=Y (Z (str p2)):=⟨r.au.cell 0,r.aA.cell 0⟩))
 rename_i n0;have j:=g.to (by ac_rfl:_=vA x b v T k*(dh u0 ps*(dh u2 qs*(ay pc p1*(ay qc p2*F)))));obtain ⟨E,uc,rfl⟩:=dI j.ah;obtain ⟨va,vc,rfl⟩:=dI j.au;have l:=fm HT.out HL.out fE j;rw [HW.out] at l;have Hw:=ae l;have D5:=ae (((aj.refl w).drew.trans d4).trans d5);have u:=c0.out;clear n0 k0 k1 k2 h4 r o g j d4 d5 hk e0 b0 l c0
 go_wp2_with fail
 refine Hw.out.mono ?_;rintro e w6 ⟨⟨-,rfl⟩|⟨hc,-⟩,d6,o⟩
 .have g:=o.to (by ac_rfl:_=dh (U E ps.length uc) ps*(dh (U va qs.length vc) qs*(vA x b v T k*(ay pc p1*(ay qc p2*F)))))
  have y:=ya m0.out HL.out l0.out g;rw [HB.out] at y;have d0:=ae y;have ND:=ae fun (w':M) (h':ag w' (vA x b v T k*(dh (U E ps.length uc) ps*(dh (U va qs.length vc) qs*(ay pc p1*(ay qc p2*F))))))=>jc HY.out h';have D6:=ae (D5.out.trans d6);clear o g y Hw d6 D5 u
  go_wp2_with fail
  refine d0.out.mono ?_;rintro e w8 ⟨rfl,d8,j⟩;have hn:=ae (ND.out w8 (j.to (by ac_rfl)));have D8:=ae (D6.out.trans d8);clear d0 j d8 ND D6
  go_wp2_with fail
  refine hn.out.mono ?_;rintro e w9 ⟨i0,rfl,g0,h0,x0,D0,d9,h9⟩;obtain ⟨q0,-,-⟩:=ss g0 w9;rw [show i0.kd=2 from h0] at q0;have o0:=ae (HQ.out _ _ (Fy (X:=X) (c:=11) (by decide) rfl (D8.out.trans d9) (h9.to (by ac_rfl:_=(dh (U E ps.length uc) ps*dh (U va qs.length vc) qs)*(vA x b v T k*(ay pc p1*(ay qc p2*F))))).right));have p0:=ae fun w=>dg w 11 (by decide);generalize ints i0.l=yl at *;clear hn g0 h0 x0 D0 d9 h9 D8
  go_wp2_with fail
  refine (p0.out _).mono ?_;rintro e G0 ⟨rfl,rfl⟩;exact ⟨rfl,o0.out⟩
 .exact absurd rfl hc
end
section
variable {t:Pl} {q:Dk t.n} {s:Ds} {T:Tr} {k m B id:Nat} {O:jT} {w:M} {F:ai} {p p1 p2:List UInt8} {ps qs:List (List UInt8)} {L:List aN}
theorem refused {c:Int} {fs:ai} {g:M} {j:ai} {v:G} {f:FuncId} (u:c≠0) (y:mW t q s T k) (r:s.B<=B)
  (h:Calls N f #[az t.f,v] g fun e w'=>∃ s',e = K (W .i64 c)/\aj g w'/\s.Rd s'/\ag w' (dJ t s' m O*((if c=0 then emp else j)*F))) :
  Calls N f #[az t.f,v] g fun e w'=>e = K (W .i64 c)/\aj g w'/\ag w' (j*(fu t q m T k B O*F)):=by
 refine h.mono ?_;rintro e w' ⟨s',rfl,d,o,l⟩;rw [if_neg u] at l;exact ⟨rfl,d,(et (y.rd o) (by rw [o.B];exact r) l).to (aI _ _ _)⟩
theorem JX (E:B<=1000000) (z:aU p=Y ps) (A:aQ T 1 ps=(0,id)) (C:T id=Y (.dir L)) (h:ag w (fu t q m T k B O*F)) :
  Calls N 10 #[az t.f,Z (str p)] w (BP (fu t q m T k B O) (W .i64 8) F w):=by
 refine aH fun e0 o=>?_;obtain ⟨s,j,g,u⟩:=eF h;have l:=(u.alloc (V #[az t.f] 25 (0,0))).alloc (V #[Z (str p)] 9 (0,0));simp only [E2] at l;have r:=ae (((aj.refl w).alloc (V #[az t.f] 25 (0,0))).alloc (V #[Z (str p)] 9 (0,0)))
 have y:=ae (refused (c:=8) (B:=B) (fs:=emp) (by decide) j g (jw j (by omega) 30 #[az (w.heap.size+1),az w.heap.size] (ay (w.heap.size+1) p) 8 emp (ay (w.heap.size+1) p) (enters func30 (by kernel_rfl) rfl)
  (fun x v b w1 d0 c0=>Dr j.ty z A C c0) ((l.to (by unfold ay;ac_rfl:_=pt w.heap.size (V #[az t.f] 25 (0,0))*(dJ t s m O*(ay (w.heap.size+1) p*F)))).right)))
 clear h l j g u z A C E
 go_enter func10,ntmps10
 go_wp2_with fail
 refine y.out.mono ?_;rintro e w2 ⟨rfl,d2,g⟩;have b0:=ae (o.out _ _ ⟨rfl,r.out.trans d2,g.right⟩);clear y r d2 g o
 go_wp2_with fail
 exact b0.out
theorem Ju (hB:B<=1000000) (C:aU p=Y ps) (A:ps≠[]) (E:aQ T 1 ps=(0,id)) (hy:T id=Y (.dir L)) (y:L≠[]) (h:ag w (fu t q m T k B O*F)) :
  Calls N 24 #[az t.f,Z (str p)] w (BP (fu t q m T k B O) (W .i64 11) F w):=by
 refine aH fun e0 l=>?_;obtain ⟨s,j,g,r⟩:=eF h;have u:=r.alloc (V #[Z (str p)] 9 (0,0));have o:=ae ((aj.refl w).alloc (V #[Z (str p)] 9 (0,0)))
 have z:=ae (refused (c:=11) (B:=B) (fs:=emp) (by decide) j g (jw j (by omega) 61 #[az w.heap.size] (ay w.heap.size p) 11 emp (ay w.heap.size p) (enters func61 (by kernel_rfl) rfl)
  (fun x v b w1 d0 c0=>C7 j.ty C A E hy y c0) (u.to (aI _ _ _))))
 clear h u j g r C E hy hB A y
 go_enter func24,ntmps24
 go_wp2_with fail
 refine z.out.mono ?_;rintro e w2 ⟨rfl,d2,g⟩;have b0:=ae (l.out _ _ ⟨rfl,o.out.trans d2,g.right⟩);clear z o d2 g l
 go_wp2_with fail
 exact b0.out
theorem DN (hB:B<=1000000) (C:aU p1=Y ps) (E:aU p2=Y qs) (A:ps≠[]) (hw:aQ T 1 ps=(0,id)) (hy:T id=Y (.dir L)) (y:iH ps qs=Z') (h:ag w (fu t q m T k B O*F)) :
  Calls N 20 #[az t.f,Z (str p1),Z (str p2)] w (BP (fu t q m T k B O) (W .i64 11) F w):=by
 refine aH fun e0 o=>?_;obtain ⟨s,j,g,u⟩:=eF h;have l:=(u.alloc (V #[Z (str p1)] 9 (0,0))).alloc (V #[Z (str p2)] 9 (0,0));simp only [E2] at l;have r:=ae (((aj.refl w).alloc (V #[Z (str p1)] 9 (0,0))).alloc (V #[Z (str p2)] 9 (0,0)))
 have z:=ae (refused (c:=11) (B:=B) (fs:=emp) (by decide) j g (jw (O:=O) (m:=m) j (by omega) 55 #[az w.heap.size,az (w.heap.size+1)] (ay w.heap.size p1*ay (w.heap.size+1) p2) 11 emp (ay w.heap.size p1*ay (w.heap.size+1) p2) (enters func55 (by kernel_rfl) rfl)
  (fun x v b w1 b0 d0=>(AZ (x:=x) (b:=b) (v:=v) (k:=k) (F:=dG t m O*b0) j.ty C E A hw hy y (d0.to (by ac_rfl))).mono fun e w' hq=>by simpa only [ax] using hq) (l.to (by unfold ay;ac_rfl))))
 clear h l j g u C hw hy hB A y E
 go_enter func20,ntmps20
 go_wp2_with fail
 refine z.out.mono ?_;rintro e w2 ⟨rfl,d2,g⟩;have c0:=ae (o.out _ _ ⟨rfl,r.out.trans d2,g.right⟩);clear z r d2 g o
 go_wp2_with fail
 exact c0.out
end
end Go.Proofs.Cl

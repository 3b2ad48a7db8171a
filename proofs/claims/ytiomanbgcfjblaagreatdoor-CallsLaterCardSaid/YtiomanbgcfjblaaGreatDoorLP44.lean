/- Steps. -/
import Derived.Test.YtiomanbgcfjblaaGreatDoorLP43
import Derived.Test.YtiomanbgcfjblaaGreatDoorLP40
set_option linter.all false
set_option maxRecDepth 99999
set_option maxHeartbeats 0
open Go.SL
open Go.Value renaming int->U,slice->W,pointer->X',string->Z,tuple->Y'
open Go.IntKind renaming i64->R
open Go.Obj renaming cells->V
open Go.Ending renaming returned->P
open Go renaming World->Q,Value->Z'
open Go.Proofs.Tryz renaming prog->N
open Option renaming some->Y,none->X
open Go.Proofs.Tryz
open List renaming length_map->B3,getElem?_eq_getElem->D4,take_of_length_le->E5
open Nat renaming le_refl->D8
open Go.World renaming size_alloc->D3,block_lt_of_cell?->D2
namespace Go.SL
def nv (T:Tr) (p:List UInt8):Int:=if (bL T p).1≠0 then (bL T p).1 else match T (bL T p).2 with
 | some (.dir _)=>0
 | _=>8
end Go.SL
namespace Go.Proofs.Cl
open RowKit SL Proofs.Nn Proofs.Ba Proofs.Su Proofs.Fs
attribute [local go_sem] Oper.semAt_some
def gH (a:Nat) (v:Z'):ai:=pt a (V #[v] 37 (0,0))
def Au (a:Nat) (l:List (List UInt8)):ai:=ex fun u=>fu u l*gH a u
def qA {w:Q} {a:Nat} {l:List (List UInt8)} {F:ai}:ah w (Au a l*F)↔∃ u,ah w (fu u l*(gH a u*F)):=by
 unfold Au;rw [ah.aq];exact exists_congr fun u=>by rw [ar]
def wj (a:Nat) (L:List aM):ai:=ex fun c:List aM=>fact (c.Perm L/\kP Cr c)*Au a (c.map aM.nm)
section
variable {n:Nat} {x:Fx n} {b v pc rc k:Nat} {T:Tr} {w:Q} {F:ai} {p:List UInt8}
def Tu (rc:Nat) (v:Z') (a:List aM) (c:ai) (w0:Q) (u:Z') (wr:Q):Prop:=
 ∃ i:Nat,i<=a.length/\u = U R (i:Int)/\ak w0 wr/\ah wr (Au rc ((a.take i).map aM.nm)*(hU v a*c))
def Qn (ht:Tidy n T) (m0:nv T p=0) (W0:(fq (T (bL T p).2)).length<=DJ) (h:ah w (vA x b v T k*(aB pc p*(gH rc (W X 0 0)*F)))) :
  Calls N 44 #[ax v,ax pc,ax rc] w (Qd (nv T p) (vA x b v T k*(aB pc p*(wj rc (fq (T (bL T p).2))*F))) (vA x b v T k*(aB pc p*(gH rc (W X 0 0)*F))) w):=by
 refine aK fun c1 z=>?_;have g:=h.to (by unfold vA;ac_rfl:_=eK x b (gJ T) k*(pt v (bV b n)*(aB pc p*(gH rc (W X 0 0)*F))));have k0:w.cell? ⟨v,0,X⟩=Y (ax b)/\w.cell? ⟨v,1,X⟩=Y (U R (n:Int))/\w.cell? ⟨pc,0,X⟩=Y (Z (str p)):=⟨g.aj.cell 0,g.aj.cell 1,g.au.cell 0⟩
 have r0:=ae W0;clear W0;have o0:=ae h;have HT:=ae ht
 have b1:Hid (∀ e,e≠0->e=nv T p->∀ (d:Q),ak w d->ah d (vA x b v T k*(aB pc p*(gH rc (W X 0 0)*F)))->c1 (.panicked (pF e)) d):=fun e hc he d f1 r=>
  z.o _ _ ⟨f1,.inr ⟨by rw [<- he];exact hc,by rw [he],r⟩⟩
 clear h g
 cases r:aW p with
 | none=>
  exact absurd ((by unfold nv;rw [rU r];rfl:(1:Int)=nv T p).trans m0) De0
 | some ps=>
  obtain ⟨m1,hl⟩:=dG r;have e0:=eR (T:=T) r;have q0:(fq (T (aV T 1 ps).2)).length<=DJ:=by have:=r0.o;rw [e0] at this;exact this
  have p0:=ae q0;clear q0 r0;have hk:=ae (ei (w:=w.drew) r);have hy:=fun g=>ht.walk ps ht.root.choose_spec g;have hw:=ae fun (u:Z') (d:Q) (h':ah d (vA x b v T k*(fu u ps*(aB pc p*(gH rc (W X 0 0)*F)))))=>gq HT.o hl jr h';have L:=ae (show nv T p=if (aV T 1 ps).1≠0 then (aV T 1 ps).1 else match T (aV T 1 ps).2 with|some (.dir _)=>0|_=>8 by unfold nv;rw [e0]);rw [e0] at z;have HY:=ae hy;clear ht r hl m1 e0 hy;generalize aV T 1 ps=pw at *;obtain ⟨wc,id⟩:=pw;dsimp only at hw HY L z p0
  by_cases hc:wc=0
  .subst hc
   obtain ⟨q1,hy⟩:=HY.o rfl
   cases q1 with
   | file r1=>
    have G:(8:Int)=nv T p:=by rw [L.o,if_neg De0,hy]
    exact absurd (G.trans m0) De0
   | dir D0=>
    have G:nv T p=0:=by rw [L.o,if_neg De0,hy]
    have hE:=HT.o.te _ _ hy;have n1:D0.length<=DJ:=by have:=p0.o;rw [hy] at this;exact this
    have N0:=ae fun (u:Z') (d:Q) (h':ah d (eK x b (gJ T) k*(pt v (bV b n)*(aB pc p*(fu u ps*(gH rc (W X 0 0)*F))))))=>Ka h' (mL hy) hE.ok n1 hE.nd;have H0:=ae dK;have HL:=ae hE.len;rw [G,hy] at z;clear hy HY L b1 hE G
    go_in
    go_wp2_with fail
    go_region_held3 (fun d=>d.cell? ⟨v,0,X⟩=Y (ax b)/\d.cell? ⟨v,1,X⟩=Y (U R (n:Int))/\d.cell? ⟨pc,0,X⟩=Y (Z (str p)))
     (first|exact k0|exact k1|exact k2|exact k3|go_keep)
     (first
     | (go_at_call 43;apply hk.o.mono;rintro e w4 ⟨u,rfl,d4,h4⟩;have h5:=(h4.under o0.o.drew).t00 (vA x b v T k*(fu u ps*(aB pc p*(gH rc (W X 0 0)*F))));have h6:=h5.to (by unfold vA;ac_rfl:_=pt v (bV b n)*(aB pc p*(eK x b (gJ T) k*(fu u ps*(gH rc (W X 0 0)*F)))));have k1:w4.cell? ⟨v,0,X⟩=Y (ax b)/\w4.cell? ⟨v,1,X⟩=Y (U R (n:Int))/\w4.cell? ⟨pc,0,X⟩=Y (Z (str p)):=⟨h6.cell 0,h6.cell 1,h6.aj.cell 0⟩;have a1:=ae (hw.o u w4 h5))
     | (go_at_call 42;apply a1.o.mono;rintro e w5 ⟨he,d5,h7⟩;obtain rfl:=he.elim (fun h=>h.2) (fun h=>absurd rfl h.1);have h8:=h7.to (by unfold vA;ac_rfl:_=eK x b (gJ T) k*(pt v (bV b n)*(aB pc p*(fu u ps*(gH rc (W X 0 0)*F)))));have k2:w5.cell? ⟨v,0,X⟩=Y (ax b)/\w5.cell? ⟨v,1,X⟩=Y (U R (n:Int))/\w5.cell? ⟨pc,0,X⟩=Y (Z (str p)):=⟨h8.aj.cell 0,h8.aj.cell 1,h8.au.cell 0⟩;have R0:=ae (N0.o u w5 h8))
     | (go_at_call 45;apply R0.o.mono;rintro e w6 ⟨u2,a,rfl,pW,sW,d6,E⟩;have k3:w6.cell? ⟨v,0,X⟩=Y (ax b)/\w6.cell? ⟨v,1,X⟩=Y (U R (n:Int))/\w6.cell? ⟨pc,0,X⟩=Y (Z (str p)):=⟨E.au.cell 0,E.au.cell 1,E.aC.cell 0⟩;obtain ⟨y,f,rfl⟩:=az E))
    rename_i g1;have D6:=ae ((((ak.refl w).drew.trans d4).trans d5).trans d6);have H9:=ae (E.to (by unfold vA;ac_rfl:_=hU (W y a.length f) a*(gH rc (W X 0 0)*(vA x b v T k*(aB pc p*(fu u ps*F))))));have h1:a.length<=3840:=by rw [pW.length_eq];exact HL.o
    have PW:=ae pW;have SW:=ae sW;clear g1 k0 k1 k2 k3 h4 h5 h6 h7 h8 E d4 d5 d6 a1 R0 N0 hw hk he o0 HL pW sW
    go_wp2_with fail
    apply (H0.o _).mono;rintro e w7 ⟨rfl,rfl⟩;clear H0
    go_wp2_with fail
    have hZ:=H9.o.t00 (gH rc (W X 0 0)*(hU (W y a.length f) a*(vA x b v T k*(aB pc p*(fu u ps*F)))));obtain ⟨o,I⟩:=Nm (vA x b v T k*(aB pc p*(fu u ps*F)))
    rw [I] at hZ;have g:Tu rc (W y a.length f) a o w (U R 0) w6:=⟨0,Nat.zero_le _,rfl,D6.o,qA.2 ⟨W X 0 0,hZ.dR 9 1⟩⟩
    have l0:=ae g;have HZ:=ae I.symm;obtain ⟨A,hN⟩:=Nm a.length
    have K:=ae hN;have t1:(A:Int)<=3840:=Om0
    clear hZ g I h1 H9 D6;rw [hN];clear hN
    go_loopw [24] (fun u wr=>Tu rc (W y a.length f) a o w u wr) (fun u _=>A-(intOf u).toNat)
    case atStart=>exact l0.o
    case round=>
     obtain ⟨i,hi,rfl,g0,H⟩:=hrel;rw [K.o] at hi
     by_cases v1:i<A
     .have w1:(i:Int)<(A:Int):=Om0
      have n0:i<a.length:=by have:=K.o;omega
      obtain ⟨v',j⟩:=qA.1 H;obtain ⟨pa,h0,rfl⟩:=az j;have M:ah wr (sl 90 2 (W y a.length f) a.length (bE a)*(Au rc ((a.take i).map aM.nm)*o)):=H.to (by unfold hU;ac_rfl);obtain ⟨d0,c,e,e1,e2,l1,l2⟩:=uW M n0;simp only [Value.slice.injEq] at e;obtain ⟨rfl,-,rfl⟩:=e;have Z0:(a.take (i+1)).map aM.nm=(a.take i).map aM.nm++[(a[i]).nm]:=by rw [List.take_add_one,List.map_append,D4 n0];rfl
      have j1:((a.take i).map aM.nm).length=i:=by rw [B3,List.length_take];omega
      generalize a[i]=x at *;have z1:(A:Int)<=(f:Int):=by have:=K.o;omega
      have hA:=(j.alloc (V #[U R (x.nd:Int),Z (str x.nm)] 90 (0,0))).alloc (V #[Z (str x.nm)] 9 (0,0));simp only [D3] at hA;generalize hl:(a.take i).map aM.nm=l at *;have c0:wr.cell? ⟨rc,0,X⟩=Y (W pa l.length h0):=j.aj.cell 0;have x1:rc<wr.heap.size:=D2 wr _ c0;have y1:d0<wr.heap.size:=D2 wr _ e1
      have hR:nt ((wr.alloc (V #[U R (x.nd:Int),Z (str x.nm)] 90 (0,0))).alloc (V #[Z (str x.nm)] 9 (0,0))) 1 (W (Y ⟨wr.heap.size+1,0,X⟩) 1 1) 1 [Z (str x.nm)]:=
       ⟨rfl,.inr ⟨_,_,rfl,fun o1 u hu=>by
        rw [Addr.add_lit,Nat.zero_add];exact (hA.cell o1).trans (by simpa using hu)⟩⟩
      obtain ⟨i0,K0,I,V0,G0⟩:=info_parts rn;have F0:=hA.to (by unfold fu;ac_rfl:_=sl 9 1 (W pa l.length h0) l.length (strs l)*(gH rc (W pa l.length h0)*(hU (W (Y ⟨d0,0,X⟩) a.length f) a*(pt (wr.heap.size+1) (V #[Z (str x.nm)] 9 (0,0))*(pt wr.heap.size (V #[U R (x.nd:Int),Z (str x.nm)] 90 (0,0))*o)))));obtain ⟨v2,d,T0,b0,Y0⟩:=ah.append (P:=N) (ty:=37) underlying37 K0 I V0 G0 rfl F0 hR (by intro u hu;rw [List.mem_singleton.1 hu];rfl) (by unfold maxLen;omega) Om0;obtain ⟨B,C,rfl⟩:=az b0;have d1:d.cell? ⟨rc,0,X⟩=Y (W pa l.length h0):=b0.aj.cell 0;have s1:d.frozen? ⟨rc,0,X⟩=false:=b0.aj.frozen 0;have f0:=b0.aj.setCell 0 (W B (l.length+1) C);simp only [List.setIfInBounds_toArray,List.set_cons_zero] at f0;have e:strs l++[Z (str x.nm)]=strs (l++[x.nm]):=by unfold strs;rw [List.map_append];rfl
      rw [e] at f0
      have S0:ah (d.setCell ⟨rc,0,X⟩ (W B (l.length+1) C)) (Au rc ((a.take (i+1)).map aM.nm)*(hU (W (Y ⟨d0,0,X⟩) a.length f) a*o)):=by
       rw [Z0];refine qA.2 ⟨W B (l.length+1) C,?_⟩;unfold fu;rw [List.length_append,List.length_singleton];exact (f0.to (by unfold gH;ac_rfl:_=(pt (wr.heap.size+1) (V #[Z (str x.nm)] 9 (0,0))*pt wr.heap.size (V #[U R (x.nd:Int),Z (str x.nm)] 90 (0,0)))*(sl 9 1 (W B (l.length+1) C) (l.length+1) (strs (l++[x.nm]))*(gH rc (W B (l.length+1) C)*(hU (W (Y ⟨d0,0,X⟩) a.length f) a*o))))).right
      have s0:=ae S0;have x0:=ae ((((g0.alloc (V #[U R (x.nd:Int),Z (str x.nm)] 90 (0,0))).alloc (V #[Z (str x.nm)] 9 (0,0))).trans Y0).setCell ⟨rc,0,X⟩ (W B (l.length+1) C));have u0:=ae T0;have Hi:=ae hi;clear H j M hA hR K0 I V0 G0 F0 T0 b0 Y0 f0 S0 e Z0 hl g0 l0 hi n0 l1 j1;obtain ⟨ll,L0⟩:=Nm l.length
      rw [L0] at u0 s0 x0 c0 d1;clear L0;have A1:(f:Int)<=9223372036854775807:=Om0
      clear l2
      go_wp2_with (at_builtin;refine wpList_append_run u0.o _ _ rfl rfl rfl rfl rfl ?_)
      refine ⟨⟨i+1,by have:=K.o;omega,by go_num,x0.o,s0.o⟩,by simp [intOf];omega⟩
     .obtain rfl:i=A:=Om0
      have j:ah wr (Au rc (a.map aM.nm)*(hU (W y a.length f) a*o)):=by rw [E5 (by rw [K.o];exact D8 _)] at H;exact H
      rw [HZ.o] at j
      have M:ah wr (wj rc D0*(vA x b v T k*(aB pc p*F))):=by
       unfold wj;rw [ah.aq];refine ⟨a,?_⟩;rw [ar];exact ah.ao.2 ⟨⟨PW.o,SW.o⟩,(j.t00 ((hU (W y a.length f) a*fu u ps)*(Au rc (a.map aM.nm)*(vA x b v T k*(aB pc p*F))))).right⟩
      have i1:=ae (z.o (P (Y' #[])) wr ⟨g0,.inl ⟨rfl,rfl,M.u00⟩⟩);clear j M z H g0 l0
      exact Zy i1.o
  .have G:wc=nv T p:=by rw [L.o,if_pos hc]
   exact absurd (G.trans m0) hc
end
section
variable {t:Pl} {q:Dk t.n} {s s':Ds} {T:Tr} {k m:Nat} {O:po} {w:Q} {F:ai} {p:List UInt8}
def Yi (t:Pl) (m:Nat) (s:Ds) (O:po) (c:Int) (L:List aM) (F:ai) (w:Q) (e:Ending) (d:Q):Prop:=
 ∃ s',ak w d/\s.Rd s'/\((c≠0/\e = P (Y' #[W X 0 0,U R c])/\ah d (eL t s' m O*F)) \/
  (c=0/\∃ u a,a.Perm L/\kP Cr a/\e = P (Y' #[u,U R 0])/\ah d (fu u (a.map aM.nm)*(eL t s' m O*F))))
def Cp (l:mx t q s T k) (C:s.B<=1000000) (G:nv T p=0) (c0:(fq (T (bL T p).2)).length<=DJ) (h:ah w (eL t s m O*F)) :
  Calls N 10 #[ax t.f,Z (str p)] w (Yi t m s O (nv T p) (fq (T (bL T p).2)) F w):=by
 refine aK fun d0 d=>?_;have i:=((h.alloc (V #[Z (str p)] 9 (0,0))).alloc (V #[W X 0 0] 37 (0,0)))
 simp only [D3] at i;have A:=ae (((ak.refl w).alloc (V #[Z (str p)] 9 (0,0))).alloc (V #[W X 0 0] 37 (0,0)))
 have E:=ae fun (pc rc:Nat) (M:Q) (h':ah M (eL t s m O*((aB pc p*gH rc (W X 0 0))*F)))=>
  mW l C 44 #[ax pc,ax rc] (aB pc p*gH rc (W X 0 0)) (nv T p) (aB pc p*wj rc (fq (T (bL T p).2))) (aB pc p*gH rc (W X 0 0)) (enters func44 Kr0 rfl)
   (fun x v b w1 H hw=>(Qn (x:=x) (b:=b) (v:=v) (k:=k) (pc:=pc) (rc:=rc) (F:=gN t m O*H) (p:=p) l.ty G c0 (hw.u00)).mono fun b0 M hq=>by simpa only [ar] using hq) h'
 have y:=ae i;clear G;unfold Yi at d;clear h i C l;generalize nv T p=cc at *;generalize fq (T (bL T p).2)=L at *
 go_in
 go_wp2_with fail
 generalize (w.alloc (V #[Z (str p)] 9 (0,0))).alloc (V #[W X 0 0] 37 (0,0))=w1 at *;generalize w.heap.size=pc at *;refine (E.o pc (pc+1) _ (y.o.to (by unfold aB gH;ac_rfl))).mono ?_;rintro b0 w2 ⟨s',rfl,z,g,c⟩;have e:=ae (A.o.trans z);clear E A y z
 by_cases j:cc=0
 .subst j
  rw [if_pos rfl] at c;have B:=c.to (by unfold wj;ac_rfl:_=(ex fun a:List aM=>fact (a.Perm L/\kP Cr a)*Au (pc+1) (a.map aM.nm))*(eL t s' m O*(aB pc p*F)));obtain ⟨a,h4⟩:=ah.aq.1 B;rw [ar] at h4;obtain ⟨⟨I,K⟩,h5⟩:=ah.ao.1 h4;obtain ⟨e0,f⟩:=qA.1 h5;obtain ⟨r,u,rfl⟩:=az f;have t0:w2.cell? ⟨pc+1,0,X⟩=Y (W r (a.map aM.nm).length u):=f.aj.cell 0;have o:=ae (d.o _ _ ⟨s',e.o,g,.inr ⟨rfl,_,a,I,K,rfl,(f.t00 ((gH (pc+1) (W r (a.map aM.nm).length u)*aB pc p)*(fu (W r (a.map aM.nm).length u) (a.map aM.nm)*(eL t s' m O*F)))).right⟩⟩);clear c B h4 h5 f d g e I K;generalize (a.map aM.nm).length=ln at *
  exact Zz o.o
 .rw [if_neg j] at c
  have o:=ae (d.o _ _ ⟨s',e.o,g,.inl ⟨j,rfl,(c.t00 ((aB pc p*gH (pc+1) (W X 0 0))*(eL t s' m O*F))).right⟩⟩);clear c d g e
  exact Zz o.o
end
end Go.Proofs.Cl
namespace Go.SL
open RowKit
variable {f:AF}
def y6 (T:Tr) (d id:Nat) (a:List UInt8) (f:AF) (L:List aM):Tr:=Go.SL.fH (mX T d (L++[⟨id,a⟩])) id (Y (.file { f with lk:=f.lk+1 }))
def Tidy.QA {n a:Nat} {T:Tr} (h:Tidy n T) (c:T a=Y (.file f)):0<=f.lk:=by
 have:=h.ref a;rw [c] at this;simp only [MO] at this;omega
def Tidy.RG {n id:Nat} {T:Tr} (h:Tidy n T) (a:T id=Y (.file f)):id≠1:=by
 rintro rfl;obtain ⟨L,c⟩:=h.root;rw [c] at a;cases a
def Tidy.link {n d id:Nat} {T:Tr} {L:List aM} {i:List UInt8} (h:Tidy n T) (a:T id=Y (.file f)) (c:T d=Y (.dir L)) (z:0<id) (B:n<=3840) (r:cG i=true) (y:kZ L i=X) (o:L.length<3840):Tidy n (y6 T d id i f L):=by
 have u:id≠d:=by rintro rfl;rw [a] at c;cases c
 have A:=h.lt a;have j:=h.w.add c ((h.te _ _ c).snoc (id:=id) Om0 Om0 r y o);have hy:mX T d (L++[⟨id,i⟩]) id=Y (.file f):=by unfold mX;rw [aQ _ _ u];exact a
 have l:=j.leaf (y':=Y (.file { f with lk:=f.lk+1 })) hy rfl rfl (h.RG a) (fun L e=>by cases e) (fun g e=>by cases e;exact (h.files _ _ a:f.kd=1));refine l.tidy fun x=>?_
 by_cases e:x=id
 .subst e;simp [MO];omega
 .simp [e]
def iG (T:Tr) (k:Nat) (p1 p2:List UInt8):Int:=match aW p1,aW p2 with
 | some ps,Y qs=>if (aV T 1 ps).1≠0 then (aV T 1 ps).1 else match T (aV T 1 ps).2 with
  | some (.file f)=>if fM T qs≠0 then fM T qs else if 60000<=f.lk then 9 else lL k (fq (T (fU T qs))) (cS qs)
  | _=>8
 | _,_=>1
def Cq (T:Tr) (k:Nat) (p1 p2:List UInt8) (c:Int) (d:Tr) (e:Nat):Prop:=
 c=iG T k p1 p2/\(c=0->∃ ps qs a f L,aW p1=Y ps/\aW p2=Y qs/\aV T 1 ps=(0,a)/\T a=Y (.file f)/\T (fU T qs)=Y (.dir L)/\kZ L (cS qs)=X /\
  d=y6 T (fU T qs) a (cS qs) f L/\e=k+cE L.length-cE (L.length+1))
end Go.SL
namespace Go.Proofs.Cl
open RowKit SL Proofs.Nn Proofs.Ba Proofs.Su Proofs.Fs
attribute [local go_sem] Oper.semAt_some
section
variable {n:Nat} {x:Fx n} {b v pc qc k:Nat} {T:Tr} {w:Q} {F:ai} {p1 p2:List UInt8}
def Qb (hn:n<=3840) (ht:Tidy n T) (r1:∀ a l0,T a=Y l0->0<a) (B:iG T k p1 p2=0) (e0:ah w (vA x b v T k*(aB pc p1*(aB qc p2*F)))) :
  Calls N 69 #[ax v,ax pc,ax qc] w (Xp x b v (Cq T k p1 p2) (aB pc p1*(aB qc p2*F)) w):=by
 refine aK fun a2 HQ=>?_;have k0:w.cell? ⟨pc,0,X⟩=Y (Z (str p1))/\w.cell? ⟨qc,0,X⟩=Y (Z (str p2)):=⟨e0.aj.cell 0,e0.au.cell 0⟩
 have R0:=ae e0;have h:=ae ht;clear e0 ht
 cases E:aW p1 with
 | none=>
  have j:(1:Int)=iG T k p1 p2:=by unfold iG;rw [E]
  exact absurd (j.trans B) De0
 | some ps=>
  cases I:aW p2 with
  | none=>
   have j:(1:Int)=iG T k p1 p2:=by unfold iG;rw [E,I]
   exact absurd (j.trans B) De0
  | some qs=>
   obtain ⟨R1,hl⟩:=dG E;obtain ⟨o1,g1⟩:=dG I;have hk:=ae (ei (w:=w.drew) E);have f1:=ae fun y=>ei (w:=y) I
   have G:=ae (show iG T k p1 p2=if (aV T 1 ps).1≠0 then (aV T 1 ps).1 else match T (aV T 1 ps).2 with
    | some (.file f)=>if fM T qs≠0 then fM T qs else if 60000<=f.lk then 9 else lL k (fq (T (fU T qs))) (cS qs)
    | _=>8 by unfold iG;rw [E,I])
   have hy:=fun h0=>h.o.walk ps h.o.root.choose_spec h0;have HY:=ae hy;have HL:=ae hl;have D1:=ae g1;have E1:=ae o1;have H1:=ae r1
   have o0:=ae fun (a:Nat) (f:AF) (L:List aM) (e1:aV T 1 ps=(0,a)) (e2:T a=Y (.file f)) (e3:T (fU T qs)=Y (.dir L)) (e4:kZ L (cS qs)=X) (e5:iG T k p1 p2=0) (e6:Tidy n (y6 T (fU T qs) a (cS qs) f L)) (y:Q) (d:ak w y) (S1:ah y (vA (x.more 8) b v (y6 T (fU T qs) a (cS qs) f L) (k+cE L.length-cE (L.length+1))*(aB pc p1*(aB qc p2*F))))=>
    HQ.o (P (Y' #[])) y ⟨0,_,_,8,⟨e5.symm,fun _=>⟨ps,qs,a,f,L,E,I,e1,e2,e3,e4,rfl,rfl⟩⟩,fun _=>e6,.inl ⟨rfl,rfl⟩,d,De0,S1⟩
   clear E I HQ R1 hl o1 g1 hy r1
   go_in
   go_wp2_with fail
   go_region_held3 (fun y=>y.cell? ⟨pc,0,X⟩=Y (Z (str p1))/\y.cell? ⟨qc,0,X⟩=Y (Z (str p2)))
    (first|exact k0|exact k1|exact k2|go_keep)
    (first
     | (go_at_call 43;(with_reducible apply (f1.o _).mono);rintro e w5 ⟨u2,rfl,d5,M⟩;have o:=M.under h5;have k2:w5.cell? ⟨pc,0,X⟩=Y (Z (str p1))/\w5.cell? ⟨qc,0,X⟩=Y (Z (str p2)):=⟨o.aC.cell 0,o.aI.cell 0⟩)
     | (go_at_call 43;(with_reducible apply hk.o.mono);rintro e w4 ⟨c0,rfl,d4,h4⟩;have h5:=h4.under R0.o.drew;have k1:w4.cell? ⟨pc,0,X⟩=Y (Z (str p1))/\w4.cell? ⟨qc,0,X⟩=Y (Z (str p2)):=⟨h5.au.cell 0,h5.aC.cell 0⟩))
   rename_i L1;have h8:=o.t00 (vA x b v T k*(fu c0 ps*(fu u2 qs*(aB pc p1*(aB qc p2*F)))));have hw:=ae (gq h.o HL.o jr h8);have D5:=ae (((ak.refl w).drew.trans d4).trans d5);clear L1 k0 k1 k2 h4 h5 M o h8 d4 d5 hk f1 R0 HL;obtain ⟨pw,t1⟩:=Nm (aV T 1 ps)
   rw [t1] at hw HY G o0;clear t1;obtain ⟨wc,a⟩:=pw;dsimp only at hw HY G
   go_wp2_with fail
   apply hw.o.mono;rintro e w6 ⟨he,d6,M⟩;clear hw;have D6:=ae (D5.o.trans d6);clear D5 d6;rcases he with ⟨rfl,rfl⟩|⟨j,rfl⟩
   .obtain ⟨l0,hy⟩:=HY.o rfl
    have a1:=ae (oA hy M);clear M
    go_wp2_with fail
    apply a1.o.mono;rintro e l hq;rcases hq with ⟨b0,z,rfl,z1,W1,A1,X1,d7,o⟩|⟨b0,rfl,d7,o⟩
    .cases l0 with
     | dir L=>exact absurd b0 (by show ¬ (2:Int)=1;decide)
     | file f=>
      have C:iG T k p1 p2=if fM T qs≠0 then fM T qs else if 60000<=f.lk then 9 else lL k (fq (T (fU T qs))) (cS qs):=by rw [G.o,if_neg De0,hy]
      have m0:=ae C;obtain ⟨hX,q1,d1⟩:=qC z1;have r:=o.alloc (V pE 75 (0,0));have Hz:=ae r.heap;have H:=r.setRow (cs':=ints z.l);have K:((l.alloc (V pE 75 (0,0))).setRow l.heap.size (ints z.l)).cell? ⟨l.heap.size,1,X⟩=Y (U R f.lk):=by rw [show f.lk=z.lk from A1.symm];exact H.cell 1
      have HE:=ae (H.t00 (vA x b v T k*(fu u2 qs*(pt l.heap.size (V (ints z.l) 75 (0,0))*(fu c0 ps*(aB pc p1*(aB qc p2*F)))))));have D7:=ae (((D6.o.trans d7).alloc (V pE 75 (0,0))).setRow l.heap.size (ints z.l));have W0:=ae q1;have V0:=ae d1;have HX:=ae hX;have N1:=ae K;have Y1:=ae b0;have A:=ae hy;clear a1 r H hX q1 d1 K d7 o z1 W1 A1 X1 hy HY G C b0 D6;unfold pE at *
      go_upto_region 3 with (refine wpList_store_row (by exact rfl) 75 (.tmp 7) (.tmp 18) (by exact rfl) l.heap.size (ints z.l) (by exact rfl) (by exact rfl) 75 _ (by with_reducible exact Hz.o) V0.o (by rw [HX.o];rfl) W0.o ?_)
      generalize T1:(l.alloc (V #[U R 0,U R 0,U R 0,U R 0,U R 0,U R 0,U R 0,U R 0,U R 0,U R 0,U R 0,U R 0,U R 0,U R 0,U R 0,U R 0,U R 0,U R 0,U R 0,U R 0] 75 (0,0))).setRow l.heap.size (ints z.l)=w8 at *;generalize l.heap.size=nb at *;have b1:=ae (wg h.o D1.o (fun b2 Z1 hW=>eZ hW) jr HE.o);clear T1 Hz W0 V0 HX
      go_wp2_with fail
      apply b1.o.mono;rintro e g ⟨he,d9,h9⟩;have K:g.cell? ⟨nb,1,X⟩=Y (U R f.lk):=(h9.au.cell 1).trans ((HE.o.au.cell 1).symm.trans N1.o);have D9:=ae (D7.o.trans d9);clear b1 HE N1 D7 d9;rcases he with ⟨F0,rfl⟩|⟨j,rfl⟩
      .obtain ⟨n1,L,u,hp⟩:=ze h.o F0
       have i0:=Gw E1.o n1;have C:iG T k p1 p2=if 60000<=f.lk then 9 else lL k L (cS qs):=by rw [m0.o,if_neg (by rw [F0];simp),u];rfl
       have d0:=ae C;have p0:=ae fun e5 e6=>o0.o a f L rfl A.o u hp e5 e6;have H:=h.o.te _ _ u;have G0:=H1.o _ _ A.o;have d2:=h.o.lt A.o;have w1:=fun hl=>h.o.link A.o u G0 hn i0 hp hl;have q0:=ae w1;obtain ⟨d,D0⟩:=Nm (fU T qs)
       obtain ⟨c,K0⟩:=Nm (cS qs)
       rw [D0,K0] at p0 q0 ⊢;rw [K0] at d0 i0 hp;rw [D0] at u;have r:=h9.alloc (V #[U R (d:Int),Z (str c)] 138 (0,0));have dB:=ae (D9.o.alloc (V #[U R (d:Int),Z (str c)] 138 (0,0)));have x1:=bF g (V #[U R (d:Int),Z (str c)] 138 (0,0)) _ _ K;have hC:=r.t00 (vA x b v T k*(pt g.heap.size (V #[U R (d:Int),Z (str c)] 138 (0,0))*(fu u2 qs*(pt nb (V (ints z.l) 75 (0,0))*(fu c0 ps*(aB pc p1*(aB qc p2*F)))))));have s0:(g.alloc (V #[U R (d:Int),Z (str c)] 138 (0,0))).cell? ⟨g.heap.size,0,X⟩=Y (U R (d:Int)):=r.cell 0;have s1:(g.alloc (V #[U R (d:Int),Z (str c)] 138 (0,0))).cell? ⟨g.heap.size,1,X⟩=Y (Z (str c)):=r.cell 1;have ha:=ae (CU (child:=a) G0 Om0 u H i0 hC);have HB:=ae hC;have HD:=ae u;have HP:=ae hp;have l1:=h.o.QA A.o;have c2:=ae fun w=>eo w 9 De0;have f2:nb<g.heap.size:=D2 g _ K;clear r hC h9 u H i0 hp C D0 K0 F0 n1 m0 o0 G0 w1 K
       by_cases g0:60000<=f.lk
       .exact absurd ((by rw [d0.o,if_pos g0]:iG T k p1 p2=9).symm.trans B) De0
       .have j1:f.lk<60000:=Om0
        have n0:=ae (show iG T k p1 p2=lL k L c by rw [d0.o,if_neg g0]);clear d0;obtain ⟨lk,H0⟩:=Nm f.lk
        rw [H0] at x1 g0 j1 l1;have S0:=ae H0;clear H0
        go_wp2_with fail
        generalize g.alloc (V #[U R (d:Int),Z (str c)] 138 (0,0))=g2 at *;generalize g.heap.size=sp at *;apply ha.o.mono;rintro e y1 hq;rcases hq with ⟨i,rfl,r0,u0⟩|⟨i,rfl,r0,u0⟩
        .have i1:L.length<3840:=by
          unfold lL at i;rw [HP.o] at i;simp only [Option.isSome_none,Bool.false_eq_true,if_false] at i
          split at i
          .exact absurd i De0
          .omega
         have c1:a≠d:=by rintro rfl;have h1:=A.o;have h2:=HD.o;rw [h1] at h2;cases h2
         have Z0:gJ (mX T d (L++[⟨a,c⟩])) a=Y f:=rP (by unfold mX;rw [aQ _ _ c1];exact A.o);have L0:wrap64 (f.lk+1)=f.lk+1:=by have:=S0.o;unfold wrap64;omega
         have f0:=u0.to (by unfold vA;ac_rfl:_=eK (x.more 5) b (gJ (mX T d (L++[⟨a,c⟩]))) (k+cE L.length-cE (L.length+1))*(pt v (bV b n)*(pt sp (V #[U R (d:Int),Z (str c)] 138 (0,0))*(fu u2 qs*(pt nb (V (ints z.l) 75 (0,0))*(fu c0 ps*(aB pc p1*(aB qc p2*F))))))));have v0:y1.cell? ⟨v,0,X⟩=Y (ax b):=f0.aj.cell 0;have v1:y1.cell? ⟨v,1,X⟩=Y (U R (n:Int)):=f0.aj.cell 1;have m1:=ae (Sf f0 Z0 1 (by rw [L0];have:=S0.o;omega));have HW:=ae L0;have K1:=ae dK;have T0:=ae (p0.o (by rw [n0.o,i]) (q0.o i1));have N0:=ae (dB.o.trans r0);clear u0 f0 Z0 L0 c1 i1 i r0 dB ha HB x1 s0 s1 g0 j1 l1 p0 q0 n0
         go_wp2_with fail
         apply m1.o.mono;rintro e V1 ⟨rfl,Y0,x0⟩;rw [HW.o,show fH (gJ (mX T d (L++[⟨a,c⟩]))) a (Y { f with lk:=f.lk+1 })=gJ (y6 T d a c f L) from Af (mX T d (L++[⟨a,c⟩])) a (.file { f with lk:=f.lk+1 })] at x0;have O1:=ae (T0.o V1 (N0.o.trans Y0) (x0.to (by unfold vA;ac_rfl:_=(pt sp (V #[U R (d:Int),Z (str c)] 138 (0,0))*(fu u2 qs*(pt nb (V (ints z.l) 75 (0,0))*fu c0 ps)))*(vA (x.more 8) b v (y6 T d a c f L) (k+cE L.length-cE (L.length+1))*(aB pc p1*(aB qc p2*F))))).right);clear m1 x0 Y0 N0 T0 v0 v1
         go_wp2_with fail
         apply (K1.o _).mono;rintro e i2 ⟨rfl,rfl⟩
         exact Zy O1.o
        .exact absurd (n0.o.symm.trans B) i
      .exact absurd ((by rw [m0.o,if_pos j]:iG T k p1 p2=_).symm.trans B) j
    .have C:(8:Int)=iG T k p1 p2:=by
      rw [G.o,if_neg De0,hy]
      cases l0 with
      | dir L=>rfl
      | file f=>exact absurd (h.o.files _ _ hy) b0
     exact absurd (C.trans B) De0
   .exact absurd ((by rw [G.o,if_pos j]:iG T k p1 p2=_).symm.trans B) j
end
section
variable {t:Pl} {q:Dk t.n} {s s':Ds} {T:Tr} {k m:Nat} {O:po} {w:Q} {F:ai} {p1 p2:List UInt8}
def mx.pos (h:mx t q s T k):∀ a y,T a=Y y->0<a:=fun a y hy=>(h.at_.has.wf (f:=y.af) (by unfold gJ;rw [hy];rfl)).2.1
def Me (a:mx t q s T k) (o:s.B<=1000000) (y:iG T k p1 p2=0) (h:ah w (eL t s m O*F)) :
  Calls N 29 #[ax t.f,Z (str p1),Z (str p2)] w (VA t q m s O (Cq T k p1 p2) F w):=by
 refine aK fun M g=>?_;have d:=(h.alloc (V #[Z (str p1)] 9 (0,0))).alloc (V #[Z (str p2)] 9 (0,0));simp only [D3] at d;have j:=ae (((ak.refl w).alloc (V #[Z (str p1)] 9 (0,0))).alloc (V #[Z (str p2)] 9 (0,0)))
 have u:=ae fun (pc qc:Nat) (A:Q) (C:ah A (eL t s m O*((aB pc p1*aB qc p2)*F)))=>
  xA a o 69 #[ax pc,ax qc] (aB pc p1*aB qc p2) (Cq T k p1 p2) (enters func69 Kr0 rfl)
   (fun x v b L H I=>(Qb (x:=x) (b:=b) (v:=v) (k:=k) (pc:=pc) (qc:=qc) (F:=gN t m O*H) (p1:=p1) (p2:=p2) a.hn a.ty a.pos y (I.u00)).mono fun e A G=>by simpa only [ar] using G) C
 have f:=ae d;clear y;clear h d a o
 go_in
 go_wp2_with fail
 generalize (w.alloc (V #[Z (str p1)] 9 (0,0))).alloc (V #[Z (str p2)] 9 (0,0))=L at *;generalize w.heap.size=pc at *;refine (u.o pc (pc+1) _ (f.o.to (by unfold aB;ac_rfl))).mono ?_;rintro e w2 ⟨c,B,K,s',r,rfl,i,z,l⟩;have E:=ae (g.o _ _ ⟨c,B,K,s',r,rfl,j.o.trans i,z,(l.t00 ((aB pc p1*aB (pc+1) p2)*(eL t s' m O*F))).right⟩);clear u j f i z r l g
 exact Zz E.o
end
end Go.Proofs.Cl
namespace Go.SL
def nF (ps qs:List (List UInt8)):Bool:=decide (ps.length<qs.length) && decide (ps=qs.take ps.length)
end Go.SL
namespace Go.Proofs.Cl
open RowKit SL Proofs.Nn Proofs.Ba Proofs.Su Proofs.Fs
attribute [local go_sem] Oper.semAt_some
section
variable {w:Q} {F:ai} {ps qs:List (List UInt8)} {u1 u2:Z'}
def str_inj {a c:List UInt8} (h:str a=str c):a=c:=by
 have:=congrArg (fun x:ByteArray=>x.data.toList) h;simpa [str] using this
def tG:∀ {a c:List (List UInt8)},a.map str=c.map str->a=c
 | [],[],_=>rfl
 | [],_ :: _,h=>by simp at h
 | _ :: _,[],h=>by simp at h
 | x :: a,y :: c,h=>by
  simp only [List.map_cons,List.cons.injEq] at h;rw [str_inj h.1,tG h.2]
def r9 {u:Z'} (o:ps≠[]) (h:ah w (fu u ps*F)):∃ g c,u = W (Y ⟨g,0,X⟩) ps.length c/\ps.length<=c/\c<=9223372036854775807/\∀ j,j<(ps.map str).length->w.cell? ⟨g,0+j,X⟩=Y (Z ((ps.map str).getD j ByteArray.empty)):=by
 have z:=List.length_pos_iff.2 o;rcases ah.cH (show ah w (sl 9 1 u ps.length (strs ps)*F) from h) with ⟨_,y,_⟩|⟨g,d,r,rfl,f,h4,h5,i,l⟩
 .omega
 .refine ⟨g,d,rfl,f,by unfold maxLen at h4;omega,fun j a=>?_⟩
  rw [B3] at a
  have e:(strs ps)[j]?=Y (Z ((ps.map str).getD j ByteArray.empty)):=by
   unfold strs;rw [List.getElem?_map,D4 a,List.getD,List.getElem?_map,D4 a]
   rfl
  rw [Nat.zero_add,l.cell,<- e,<- i,List.getElem?_take,if_pos Om0,Array.getElem?_toList]
def Lo (r:ps≠[]) (L:ps.length<=1000) (M:qs.length<=1000) (h:ah w (fu u1 ps*(fu u2 qs*F))) :
  Calls N 79 #[u1,u2] w fun e A=>e = P (.bool (nF ps qs))/\ak w A/\ah A (fu u1 ps*(fu u2 qs*F)):=by
 refine aK fun d0 a=>?_;have H:=ae h;have u:=List.length_pos_iff.2 r
 by_cases c:ps.length<qs.length
 .have b0:qs≠[]:=fun e=>by rw [e] at c;simp at c
  obtain ⟨G,E,rfl,k1,l1,B⟩:=r9 r h;obtain ⟨I,f,rfl,k2,l2,C⟩:=r9 b0 h.aj;have g:=Tryz.slices_Equal_string G 0 ps.length E I 0 ps.length f (ps.map str) (qs.map str) w (by rw [B3];exact D8 _) (by rw [B3];omega) Om0 Om0 B C
  have o:decide ((ps.map str).take ps.length=(qs.map str).take ps.length)=nF ps qs:=by
   unfold nF;rw [decide_eq_true c,Bool.true_and];refine decide_eq_decide.2 ⟨fun e=>?_,fun e=>?_⟩
   .rw [E5 (by rw [B3];exact D8 _),<- List.map_take] at e
    exact tG e
   .rw [E5 (by rw [B3];exact D8 _),<- List.map_take,<- e]
  rw [o] at g;have d:=ae g;have j:(ps.length:Int)<(qs.length:Int):=Om0
  have K:(ps.length:Int)<=(f:Int):=Om0
  have e0:(f:Int)<=9223372036854775807:=Om0
  have c0:(0:Int)<=(ps.length:Int):=Om0
  clear h g o B C c u l1 l2 k1 k2;generalize nF ps qs=bb at *;obtain ⟨pn,y⟩:=Nm ps.length
  obtain ⟨qn,z⟩:=Nm qs.length
  rw [y] at d H j K c0 a ⊢;rw [z] at H j a ⊢;clear y z L M
  go_in
  go_wp2_with fail
  apply d.o.mono;rintro e w2 ⟨rfl,nq,rfl⟩;have i:=ae (a.o _ (w.drewN nq) ⟨rfl,(ak.refl w).trans ⟨rfl,rfl,rfl,D8 _⟩,H.o⟩);clear d H a
  exact Zz i.o
 .have l:nF ps qs=false:=by unfold nF;rw [decide_eq_false c];rfl
  rw [l] at a;have i:=ae (a.o _ _ ⟨rfl,ak.refl w,h⟩);obtain ⟨a1,n1,rfl⟩:=eZ h;obtain ⟨a2,n2,rfl⟩:=eZ h.aj;have j:¬ (ps.length:Int)<(qs.length:Int):=Om0
  clear h a H c l u;generalize ps.length=pn at *;generalize qs.length=qn at *
  go_in
  exact Zz i.o
end
section
variable {t:Pl} {S:Hp} {J:Jr} {D D':aw} {fc m:Nat}
def ML (l:J.flush D=(0,J,D')) (A:J.Ok) (z:D'.Ok) :
  TK t S (.map (Y m)) J D 56 #[ax fc] (cq t fc) (fun c M r=>c=0/\M=⟨0,[],[],(J,D')⟩/\r=cq t fc):=by
 intro v b d H a;refine aK fun G g=>?_;have i:ah d (RD t.s t.j t.d t.n t.P S (J,D)*(aR 211 5 xV b (AP t S).rd 0 [] []*(pt t.f (il t (.map (Y m)))*(pt v (bV b t.n)*(al xV*(cq t fc*H)))))):=a.to (by unfold eu;show _=(AP t S).RI (J,D)*_;ac_rfl);obtain ⟨C,j⟩:=ot i;have I:d.cell? ⟨fc,0,X⟩=Y (ax t.f):=(a.to (by unfold cq;ac_rfl:_=pt fc (V #[ax t.f] 28 (0,0))*(pt t.f (il t (.map (Y m)))*(pt v (bV b t.n)*(eu (AP t S) xV b ⟨0,[],[],(J,D)⟩*(al xV*H)))))).cell 0;have K:d.cell? ⟨t.f,0,X⟩=Y (ax t.s):=a.cell 0;have o:=ae (Cf d S t.s t.j t.d t.n t.P J D _ j C.2);have y:=ae dK;have u:=ae l;clear a i j l
 go_in
 go_wp2_with fail
 apply o.o.mono;rintro e E ⟨rfl,f,h⟩;rw [u.o] at f ⊢;have h4:=BU (x:=(J,D')) A z f;have B:=ae (g.o (P (Y' #[])) E ⟨0,xV,⟨0,[],[],(J,D')⟩,cq t fc,⟨rfl,rfl,rfl⟩,.inl ⟨rfl,rfl⟩,h,h4.to (by unfold eu;show (AP t S).RI (J,D')*_=_;ac_rfl)⟩);clear f h4 g o h
 go_wp2_with fail
 apply (y.o _).mono;rintro e L ⟨rfl,rfl⟩
 exact Zy B.o
end
section
variable {t:Pl} {q:Dk t.n} {s:Ds} {T:Tr} {k m:Nat} {O:po} {w:Q} {F:ai}
def Ti (t:Pl) (q:Dk t.n) (m:Nat) (s:Ds) (T:Tr) (k:Nat) (O:po) (F:ai) (w:Q) (e:Ending) (a:Q):Prop:=
 e = P (U R 0)/\ak w a/\mx t q ⟨s.J,s.D.ay,s.has,s.B+1⟩ T k/\ah a (eL t ⟨s.J,s.D.ay,s.has,s.B+1⟩ m O*F)
def zU (a:mx t q s T k) (u:s.B<=1000000) (h:ah w (eL t s m O*F)) :
  Calls N 18 #[ax t.f] w (Ti t q m s T k O F w):=by
 refine aK fun K j=>?_;obtain ⟨J,D,has,B⟩:=s;have g:q.Q B J D has:=a.at_.q;have d:=q.inv g;have y:mx t q ⟨J,D.ay,has,B+1⟩ T k:=⟨⟨q.flush g u,a.at_.has⟩,a.ty,a.h4,a.hn⟩
 have r:=h.alloc (V #[ax t.f] 28 (0,0));have o:=ae ((ak.refl w).alloc (V #[ax t.f] 28 (0,0)));obtain ⟨S,z⟩:=qD (r.to (by unfold eL;ac_rfl:_=oO t ⟨J,D,has,B⟩*(pt t.f (il t (.map (Y m)))*(pt w.heap.size (V #[ax t.f] 28 (0,0))*(mp m (nr O)*F)))))
 have C:=ae (DV t _ S J D (.map (Y m)) 56 #[ax w.heap.size] (cq t w.heap.size) (mp m (nr O)*F) (fun c M f=>c=0/\M=⟨0,[],[],(J,D.ay)⟩/\f=cq t w.heap.size) d.ok d.pH (enters func56 Kr0 rfl) (ML d.flush d.ok d.ay.pH)
  (by rintro c M f ⟨-,rfl,-⟩ - - H;exact absurd rfl H) (z.to (by unfold cq;ac_rfl)))
 have i:=ae y;clear h r z a g d u y
 go_in
 go_wp2_with fail
 apply C.o.mono;rintro e w2 ⟨c,M,f,L,I,D',⟨rfl,rfl,rfl⟩,-,rfl,l,E,-,A⟩;have e:=A (.inr rfl);simp only [Prod.mk.injEq] at e;obtain ⟨rfl,rfl⟩:=e;have G:=ae (j.o _ _ ⟨rfl,o.o.trans l,i.o,((kY (s:=⟨J,D.ay,has,B+1⟩) (E.u00)).to (by unfold eL;ac_rfl:oO t ⟨J,D.ay,has,B+1⟩*(pt t.f (il t (.map (Y m)))*(cq t w.heap.size*(mp m (nr O)*F)))=cq t w.heap.size*(eL t ⟨J,D.ay,has,B+1⟩ m O*F))).right⟩);clear C l E A j i o
 exact Zz G.o
end
def RY (w:Q) (g f:Addr) :
    CallsD N 113 #[X' (Y g),X' (Y f)] .returning w fun e u h=>e = P (Y' #[])/\u = .returning/\w=h:=by
  have c:=xi w;refine callsD_of_wpS func113 rfl fun a i d=>?_;apply wpS_seq;apply wpS_region
  simp only [ntmps113,List.size_toArray,List.length_cons,List.length_nil,Nat.reduceAdd,Nat.reduceSub,Array.replicate_succ,
     Array.replicate_zero,List.push_toArray,List.append_toArray,List.nil_append,List.cons_append]
  simp [wpOpsS,go_sem,recoverD,d,Exit.thenS];apply c.mono;rintro e j ⟨rfl,rfl⟩;refine wpS_of_wp ?_
  go_wp2
  cases a
  simp_all [bodyPostS,results,Tryz.results113]
def FO {w:Q} {c:Array Z'} {a b:Nat} {v e:Z'} (d:c[6]?=Y (ax a)) (f:c[7]?=Y (ax b)) (g:w.cell? ⟨a,0,X⟩=Y v) (h:w.cell? ⟨b,0,X⟩=Y e) :
  (results Tryz.f59 c).run N w = .ok (Y' #[v,e]) w:=by
 have i:c.getD 6 undef=ax a:=by simp [d]
 have j:c.getD 7 undef=ax b:=by simp [f]
 simp [results,Tryz.results59,d,f,go_sem,g,h]
def Ja {w:Q} {c:Array Z'} {a b:Nat} {v e:Z'} {d:Ending->Q->Prop} (f:c[6]?=Y (ax a)) (g:c[7]?=Y (ax b)) (i:w.cell? ⟨a,0,X⟩=Y v) (j:w.cell? ⟨b,0,X⟩=Y e) (h:d (P (Y' #[v,e])) w) :
  bodyPostD N Tryz.f59 d Exit.ret { tmps:=c,defers:=[{ target:=.fn (.func 113) #[X' (Y ⟨a,0,X⟩),X' (Y ⟨b,0,X⟩)],args:=#[] }] } w:=by
 refine leaves_cons (f:=113) (args:=#[X' (Y ⟨a,0,X⟩),X' (Y ⟨b,0,X⟩)]) Si0 (by simp [go_sem]) ?_;apply (RY w ⟨a,0,X⟩ ⟨b,0,X⟩).mono;rintro e u l ⟨rfl,rfl,rfl⟩;exact ⟨_,FO f g i j,h⟩
section
variable {t:Pl} {S:Hp} {J:Jr} {D:aw} {mv:Z'} {M1:iM (Jr × aw)}
def Gn (h4:4<=t.n) (z:t.n<=3840) (j:eA (jq (AP t S).ask) ⟨0,[],[],(J,D)⟩=(.ok (),M1)) :
  TK t S mv J D 83 #[] emp (fun c M l=>c=0/\M=M1/\l=emp):=by
 intro v b f H a;refine aK fun C g=>?_;have v0:f.cell? ⟨v,0,X⟩=Y (ax b):=a.aj.cell 0;have A:f.cell? ⟨v,1,X⟩=Y (U R (t.n:Int)):=a.aj.cell 1;have d:=ae (Lf (AP t S) (Pp t S) t.n h4 z b ⟨0,[],[],(J,D)⟩ f xV _ (a.t00 (eu (AP t S) xV b ⟨0,[],[],(J,D)⟩*(al xV*(pt t.f (il t mv)*(pt v (bV b t.n)*(emp*H)))))));rw [j] at d;have o:=ae dK;clear a j
 go_in
 go_wp2_with fail
 apply d.o.mono;rintro e B ⟨r,-,h,rfl,i⟩;have y:=ae (g.o (P (Y' #[])) B ⟨0,r,M1,emp,⟨rfl,rfl,rfl⟩,.inl ⟨rfl,rfl⟩,h,i.u00⟩);have u:Rs.code (.ok ():Rs Unit)=0:=rfl;rw [u];clear i g d h v0 A
 go_wp2_with fail
 apply (o.o _).mono;rintro e E ⟨rfl,rfl⟩
 exact Zy y.o
end
end Go.Proofs.Cl

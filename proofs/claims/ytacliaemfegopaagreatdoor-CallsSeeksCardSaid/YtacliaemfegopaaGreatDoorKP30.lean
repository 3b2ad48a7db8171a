/- Steps. -/
import Derived.Test.YtacliaemfegopaaGreatDoorKP27
import Derived.Test.YtacliaemfegopaaGreatDoorKP18
import Derived.Test.YtacliaemfegopaaGreatDoorKP29
set_option linter.unusedVariables false
set_option linter.unusedSimpArgs false
set_option maxRecDepth 100000
set_option maxHeartbeats 40000000
open Go.Proofs Go.SL
namespace Go.Cl
open Go.RowKit Go.SL Go.Nn Go.Ba Go.Fs
attribute [local go_sem] Oper.semAt_some
def vA {n:Nat} (x:Fx n) (b v:Nat) (T:Tr) (k:Nat):ah:=pt v (bV b n)*et x b (gG T) k
def QE (X:ah) (c:Int) (r:Value) (w:World) (e:Ending) (w':World):Prop:=
 ((c=0∧e = .returned r)∨(c≠0∧e = .panicked (mf c)))∧ai w w'∧Sat w' X
section
variable {n:Nat} {x:Fx n} {b v k id:Nat} {T:Tr} {w:World} {D F:ah} {nm:List UInt8} {ps:List (List UInt8)} {pv:Value}
theorem oG (h:Sat w (vA x b v T k*F)):Sat w (pt v (bV b n)*(et x b (gG T) k*F)):=h.to (aw _ _ _)
theorem CH (h:Sat w (pt v (bV b n)*(et x b (gG T) k*F))):Sat w (vA x b v T k*F):=h.to (aw _ _ _).symm
theorem fI (ht:Tidy n T) (hl:ps.length≤1000) (hD:∀ W P,Sat W (D*P)→Ct W pv ps) (h:Sat w (vA x b v T k*(D*F))) :
  Calls Tryz.prog 31 #[ax v,pv] w (QE (vA x b v T k*(D*F)) (aR T 1 ps).1 (.int .i64 ((aR T 1 ps).2:Nat)) w):=by
 refine aI fun Q HQ=>?_;have h1:=oG h;have c0:w.cell? ⟨v,0,none⟩=some (ax b):=h1.cell 0;have c1:w.cell? ⟨v,1,none⟩=some (.int .i64 (n:Int)):=h1.cell 1;have hk:=ae (E4 ht hl hD (h1.to (by ac_rfl:_=et x b (gG T) k*(D*(pt v (bV b n)*F)))));generalize aR T 1 ps=p at *;obtain ⟨c,r⟩:=p;dsimp only at hk HQ;clear h h1 ht hl hD
 go_enter Tryz.func31,Tryz.ntmps31
 go_wp2_with fail
 refine hk.out.mono ?_;rintro e w2 ⟨rfl,d2,h2⟩;have H2:=ae (CH (h2.to (by ac_rfl:_=pt v (bV b n)*(et x b (gG T) k*(D*F)))));clear hk h2 c0 c1
 by_cases h0:c=0
 ·subst h0
  have hc:=du w2
  go_wp2_with fail
  refine hc.mono ?_;rintro e w3 ⟨rfl,rfl⟩;clear hc
  go_wp2_with fail
  exact HQ.out _ _ ⟨.inl ⟨rfl,rfl⟩,d2,H2.out⟩
 ·have hc:=dy w2 c h0
  go_wp2_with fail
  refine hc.mono ?_;rintro e w3 ⟨rfl,rfl⟩;clear hc
  go_wp2_with fail
  exact ⟨rfl,HQ.out _ _ ⟨.inr ⟨h0,rfl⟩,d2,H2.out⟩⟩
def Rg (f:AF) (X:ah) (w:World) (e:Ending) (w':World):Prop:=
 ∃ y:Nd,e = .returned (.agg (ints y.l))∧y.dr.length=16∧y.kd=f.kd∧y.lk=f.lk∧y.sz=f.sz∧ai w w'∧Sat w' X
theorem iZ {y:ux} (hy:T id=some y) (h:Sat w (vA x b v T k*F)) :
  Calls Tryz.prog 44 #[ax v,.int .i64 (id:Int)] w (Rg y.af (vA x b v T k*F) w):=by
 refine aI fun Q HQ=>?_;have hA:=(oG h).alloc (.cells ny 73 (0,0));have dA:=ae ((ai.refl w).alloc (.cells ny 73 (0,0)));have c0:(w.alloc (.cells ny 73 (0,0))).cell? ⟨v,0,none⟩=some (ax b):=hA.ag.cell 0;have c1:(w.alloc (.cells ny 73 (0,0))).cell? ⟨v,1,none⟩=some (.int .i64 (n:Int)):=hA.ag.cell 1;have hk:=ae (Bo (hA.to (by ac_rfl:_=et x b (gG T) k*(pt w.heap.size (.cells ny 73 (0,0))*(pt v (bV b n)*F)))) (show gG T id=some y.af by unfold gG;rw [hy];rfl));clear h hA hy;unfold ny at *
 go_enter Tryz.func44,Tryz.ntmps44
 go_wp2_with fail
 refine hk.out.mono ?_;rintro e w2 ⟨z,rfl,y16,ykd,ylk,ysz,d2,h2⟩;have hX:(ints z.l).size=20:=by rw [dw,Nd.cells y16]
 have hB:=h2.alloc (.cells #[.int .i64 0,.int .i64 0,.int .i64 0,.int .i64 0,.int .i64 0,.int .i64 0,.int .i64 0,.int .i64 0,.int .i64 0,.int .i64 0,.int .i64 0,.int .i64 0,.int .i64 0,.int .i64 0,.int .i64 0,.int .i64 0,.int .i64 0,.int .i64 0,.int .i64 0,.int .i64 0] 73 (0,0));have Hz:=ae hB.heap;have hE2:=hB.setRow (cs':=ints z.l);have hE3:=hE2.to (by ac_rfl:_=pt w.heap.size (.cells #[.int .i64 0,.int .i64 0,.int .i64 0,.int .i64 0,.int .i64 0,.int .i64 0,.int .i64 0,.int .i64 0,.int .i64 0,.int .i64 0,.int .i64 0,.int .i64 0,.int .i64 0,.int .i64 0,.int .i64 0,.int .i64 0,.int .i64 0,.int .i64 0,.int .i64 0,.int .i64 0] 73 (0,0))*(pt w2.heap.size (.cells (ints z.l) 73 (0,0))*(pt v (bV b n)*(et x b (gG T) k*F))));have Hz2:=ae hE3.ag.heap;have Hz3:=ae hE3.heap;have hE4:=hE3.setRow (cs':=ints z.l);have Hz4:=ae hE4.heap;have Hf:=ae (CH hE4.right.right);have D2:=ae ((((dA.out.trans d2).alloc (.cells #[.int .i64 0,.int .i64 0,.int .i64 0,.int .i64 0,.int .i64 0,.int .i64 0,.int .i64 0,.int .i64 0,.int .i64 0,.int .i64 0,.int .i64 0,.int .i64 0,.int .i64 0,.int .i64 0,.int .i64 0,.int .i64 0,.int .i64 0,.int .i64 0,.int .i64 0,.int .i64 0] 73 (0,0))).setRow w2.heap.size (ints z.l)).setRow w.heap.size (ints z.l));have Hone:Hid ((ints z.l).all (·.oneCell')=true):=by simp [RowKit.Hid,ints,Value.oneCell']
 have Hinf:Hid ((Tryz.prog.info? 73).map (·.size)=some (ints z.l).size):=by show _=_;rw [hX];exact aY
 have HX:=ae hX;have Hc:=ae fun w=>du w;clear hk h2 hB hE2 hE3 hE4 hX d2 dA c0 c1
 go_wp2_with (refine wpList_store_row (by exact rfl) 73 (.tmp 5) (.tmp 14) (by exact rfl) w2.heap.size (ints z.l) (by exact rfl) (by exact rfl) 73 _ (by with_reducible exact Hz.out) Hinf.out (by rw [HX.out];rfl) Hone.out ?_)
 generalize (w2.alloc (.cells #[.int .i64 0,.int .i64 0,.int .i64 0,.int .i64 0,.int .i64 0,.int .i64 0,.int .i64 0,.int .i64 0,.int .i64 0,.int .i64 0,.int .i64 0,.int .i64 0,.int .i64 0,.int .i64 0,.int .i64 0,.int .i64 0,.int .i64 0,.int .i64 0,.int .i64 0,.int .i64 0] 73 (0,0))).setRow w2.heap.size (ints z.l)=w3 at *;refine (Hc.out w3).mono ?_;rintro e w4 ⟨rfl,rfl⟩
 go_wp2_with (first
  | (refine wpList_load_row (by exact rfl) 73 (.tmp 5) (by exact rfl) w2.heap.size (by exact rfl) 73 (ints z.l) (0,0) _ (by with_reducible exact Hz2.out) Tryz.underlying73 rfl (by with_reducible exact Hinf.out) ?_)
  | (refine wpList_store_row (by exact rfl) 73 (.tmp 4) (.tmp 18) (by exact rfl) w.heap.size (ints z.l) (by exact rfl) (by exact rfl) 73 _ (by with_reducible exact Hz3.out) Hinf.out (by rw [HX.out];rfl) Hone.out ?_))
 exact bodyPost_ret (results_cell_row rfl _ _ w.heap.size 73 (ints z.l) (0,0) _ rfl Hz4.out Tryz.underlying73 rfl Hinf.out) rfl (HQ.out _ _ ⟨z,rfl,y16,ykd,ylk,ysz,D2.out,Hf.out⟩)
 go_show
theorem sQ {f:AF} (hf:T id=some (.file f)) (off cnt:Nat) (h:Sat w (vA x b v T k*F)) :
  Calls Tryz.prog 46 #[ax v,.int .i64 (id:Int),.int .i64 (off:Int),.int .i64 (cnt:Int)] w fun e w'=>
   ∃ u,e = .returned u∧ai w w'∧Sat w' (bs 5 u (f.sub off cnt)*(vA x b v T k*F)):=by
 refine aI fun Q HQ=>?_;have h1:=oG h;have c0:w.cell? ⟨v,0,none⟩=some (ax b):=h1.cell 0;have c1:w.cell? ⟨v,1,none⟩=some (.int .i64 (n:Int)):=h1.cell 1;have hk:=ae (Jo (h1.to (by ac_rfl:_=et x b (gG T) k*(pt v (bV b n)*F))) (mn hf) off cnt);clear h h1 hf
 go_enter Tryz.func46,Tryz.ntmps46
 go_wp2_with fail
 refine hk.out.mono ?_;rintro e w2 ⟨u,rfl,d2,h2⟩;have H2:=ae (h2.to (by unfold vA;ac_rfl:_=bs 5 u (f.sub off cnt)*(vA x b v T k*F)));clear hk h2 c0 c1;have hc:=du w2
 go_wp2_with fail
 refine hc.mono ?_;rintro e w3 ⟨rfl,rfl⟩;clear hc
 go_wp2_with fail
 exact HQ.out _ _ ⟨u,rfl,d2,H2.out⟩
theorem dK {p:List UInt8} {l:List (List UInt8)} (hp:aV p=some l):Calls Tryz.prog 32 #[.string (str p)] w fun e w'=>∃ u,e = .returned u∧ai w w'∧Sat w' (eK u l*whole w):=by
 refine aI fun Q HQ=>?_;have hk:=ae (vu w p);unfold BG at hk;rw [hp] at hk;clear hp
 go_enter Tryz.func32,Tryz.ntmps32
 go_wp2_with fail
 refine hk.out.mono ?_;rintro e w2 ⟨u,rfl,d2,h2⟩;have H2:=ae h2;clear hk h2;have hc:=du w2
 go_wp2_with fail
 refine hc.mono ?_;rintro e w3 ⟨rfl,rfl⟩;clear hc
 go_wp2_with fail
 exact HQ.out _ _ ⟨u,rfl,d2,H2.out⟩
theorem vr {p:List UInt8} (hp:aV p=none):Calls Tryz.prog 32 #[.string (str p)] w fun e w'=>e = .panicked (mf 1)∧ai w w'∧Sat w' (whole w):=by
 refine aI fun Q HQ=>?_;have hk:=ae (vu w p);unfold BG at hk;rw [hp] at hk;clear hp
 go_enter Tryz.func32,Tryz.ntmps32
 go_wp2_with fail
 refine hk.out.mono ?_;rintro e w2 ⟨u,rfl,d2,h2⟩;have H2:=ae h2.right;clear hk h2;have hc:=dy w2 1 (by decide)
 go_wp2_with fail
 refine hc.mono ?_;rintro e w3 ⟨rfl,rfl⟩;clear hc
 go_wp2_with fail
 exact ⟨rfl,HQ.out _ _ ⟨rfl,d2,H2.out⟩⟩
end
section
variable {n:Nat} {x:Fx n} {b v k id:Nat} {T:Tr} {w:World} {D F:ah} {nm:List UInt8} {ps:List (List UInt8)} {pv:Value}
def PE (c:Int) (X:ah) (w:World) (e:Ending) (w':World):Prop:=e = .panicked (mf c)∧ai w w'∧Sat w' X
theorem lM {z:Nd} (h:z.dr.length=16):(ints z.l).size=20∧(ints z.l).all (·.oneCell')=true∧(Tryz.prog.info? 73).map (·.size)=some (ints z.l).size:=by
 have hX:(ints z.l).size=20:=by rw [dw,Nd.cells h]
 exact ⟨hX,by simp [ints,Value.oneCell'],by rw [hX];exact aY⟩
def PR (f:AF) (X:ah) (w:World) (e:Ending) (w':World):Prop:=(f.kd=1∧Rg f X w e w')∨(f.kd≠1∧PE 8 X w e w')
theorem mX {y:ux} (hy:T id=some y) (h:Sat w (vA x b v T k*F)) :
  Calls Tryz.prog 33 #[ax v,.int .i64 (id:Int)] w (PR y.af (vA x b v T k*F) w):=by
 refine aI fun Q HQ=>?_;have hA:=(h.alloc (.cells ny 73 (0,0))).ag;have dA:=ae ((ai.refl w).alloc (.cells ny 73 (0,0)));have hk:=ae (iZ hy hA);generalize y.af=f at *
 go_enter Tryz.func33,Tryz.ntmps33
 go_wp2_with fail
 refine hk.out.mono ?_;rintro e w2 ⟨z,rfl,y16,ykd,ylk,ysz,d2,h2⟩;obtain ⟨hX,hone,hinf⟩:=lM y16;have hB:=h2.alloc (.cells ny 73 (0,0));have Hz:=ae hB.heap;have hE2:=hB.setRow (cs':=ints z.l);have n0:((w2.alloc (.cells ny 73 (0,0))).setRow w2.heap.size (ints z.l)).cell? ⟨w2.heap.size,0,none⟩=some (.int .i64 f.kd):=by rw [← ykd];exact hE2.cell 0
 have Hz2:=ae hE2.heap;have H3:=ae (hE2.to (by unfold ny;ac_rfl:_=pt w.heap.size (.cells ny 73 (0,0))*(pt w2.heap.size (.cells (ints z.l) 73 (0,0))*(vA x b v T k*F))));have D3:=ae (((dA.out.trans d2).alloc (.cells ny 73 (0,0))).setRow w2.heap.size (ints z.l));have Hone:=ae hone;have Hinf:=ae hinf;have HX:=ae hX;obtain ⟨kd,hkd⟩:∃ kd,f.kd=kd:=⟨_,rfl⟩
 rw [hkd] at n0;have Hkd:=ae hkd;have Hc:=ae fun w=>dy w 8 (by decide)
 by_cases h1:kd=1
 ·subst h1
  go_wp2_with (first
   | (refine wpList_store_row (by exact rfl) 73 (.tmp 5) (.tmp 8) (by exact rfl) w2.heap.size (ints z.l) (by exact rfl) (by exact rfl) 73 _ (by with_reducible exact Hz.out) Hinf.out (by rw [HX.out];rfl) Hone.out ?_)
   | (refine wpList_load_row (by exact rfl) 73 (.tmp 5) (by exact rfl) w2.heap.size (by exact rfl) 73 (ints z.l) (0,0) _ (by with_reducible exact Hz2.out) Tryz.underlying73 rfl (by with_reducible exact Hinf.out) ?_)
   | (refine wpList_store_row (by exact rfl) 73 (.tmp 4) (.tmp 13) (by exact rfl) w.heap.size (ints z.l) (by exact rfl) (by exact rfl) 73 _ (by with_reducible exact H3.out.heap) Hinf.out (by rw [HX.out];rfl) Hone.out ?_))
  have H4:=H3.out.setRow (cs':=ints z.l);exact bodyPost_ret (results_cell_row rfl _ _ w.heap.size 73 (ints z.l) (0,0) _ rfl H4.heap Tryz.underlying73 rfl Hinf.out) rfl (HQ.out _ _ (.inl ⟨Hkd.out,z,rfl,y16,ykd,ylk,ysz,D3.out.setRow w.heap.size (ints z.l),H4.right.right⟩))
 ·go_wp2_with (first
   | (refine wpList_store_row (by exact rfl) 73 (.tmp 5) (.tmp 8) (by exact rfl) w2.heap.size (ints z.l) (by exact rfl) (by exact rfl) 73 _ (by with_reducible exact Hz.out) Hinf.out (by rw [HX.out];rfl) Hone.out ?_)
   | fail)
  refine (Hc.out _).mono ?_;rintro e w4 ⟨rfl,rfl⟩;exact ⟨rfl,HQ.out _ _ (.inr ⟨by rw [Hkd.out];exact h1,rfl,D3.out,H3.out.right.right⟩)⟩
theorem zd {fn:Func} {tmps:Array Value} {w:World} {rc:Nat} {r:Int} {nm:List UInt8} (h0:fn.results=#[.cell 4 92]:=by rfl) (h4:tmps[4]?=some (ax rc)) (h:Sat w (pt rc (.cells #[.int .i64 r,.string (str nm)] 92 (0,0))*F)) :
  (results fn tmps).run Tryz.prog w = .ok (.agg #[.int .i64 r,.string (str nm)]) w:=
 results_cell_row h0 _ _ rc 92 _ (0,0) _ (by simp [h4]) h.heap Tryz.underlying92 rfl (by kernel_rfl)
theorem G8 {W:World} {g o c m:Nat} (hm:ps.length=m+1) (h:Ct W (.slice (some ⟨g,o,none⟩) (m+1) c) ps):Ct W (.slice (some ⟨g,o,none⟩) m c) ps.dropLast:=by
 rcases h with ⟨a,c',e,e2⟩|⟨g',o',c',e,k1',k2',hc'⟩
 ·rw [e2] at hm;simp at hm
 ·simp only [Value.slice.injEq,Option.some.injEq,Addr.mk.injEq] at e
  obtain ⟨⟨rfl,rfl,-⟩,-,rfl⟩:=e;have hl:ps.dropLast.length=m:=by rw [List.length_dropLast,hm];rfl
  refine .inr ⟨g,o,c,by rw [hl],by rw [hl];omega,k2',fun k hk=>?_⟩;rw [hl] at hk;have:=hc' k (by omega)
  rwa [show ps.dropLast.getD k []=ps.getD k [] by
   rw [List.getD,List.getD,List.getElem?_dropLast,if_pos (by omega)]]
theorem DE (ht:Tidy n T) (hl:ps.length≤1000) (hne:ps≠[]) (hD:∀ W P,Sat W (D*P)→Ct W pv ps) (h:Sat w (vA x b v T k*(D*F))) :
  Calls Tryz.prog 78 #[ax v,pv] w (QE (vA x b v T k*(D*F)) (aR T 1 ps.dropLast).1 (.agg #[.int .i64 ((aR T 1 ps.dropLast).2:Nat),.string (str (cQ ps))]) w):=by
 refine aI fun Q HQ=>?_;have hpos:=List.length_pos_iff.2 hne;obtain ⟨m,hm⟩:∃ m,ps.length=m+1:=⟨ps.length-1,by omega⟩
 have hlast:∀ W P,Sat W (D*P)→∃ g o c,pv = .slice (some ⟨g,o,none⟩) (m+1) c∧m+1≤c∧c≤maxLen∧W.cell? ⟨g,o+m,none⟩=some (.string (str (cQ ps))):=fun W P hw=>by
  rcases hD W P hw with ⟨a,c,_,h2⟩|⟨g,o,c,e,k1,k2,hc⟩
  ·exact absurd h2 hne
  ·rw [hm] at e k1
   refine ⟨g,o,c,e,k1,k2,?_⟩;have:=hc m (by omega);unfold cQ
   rwa [hm,Nat.add_sub_cancel]
 obtain ⟨g,o,c,rfl,k1,k2,-⟩:=hlast _ _ h.ag;have hD':∀ W P,Sat W (D*P)→Ct W (.slice (some ⟨g,o,none⟩) m c) ps.dropLast:=fun W P hw=>G8 hm (hD W P hw)
 have hcell:∀ W P,Sat W (D*P)→W.cell? ⟨g,o+m,none⟩=some (.string (str (cQ ps))):=fun W P hw=>by
  obtain ⟨g',o',c',e,-,-,h2⟩:=hlast W P hw;obtain ⟨⟨rfl,rfl,-⟩,-,rfl⟩:=e;exact h2
 obtain ⟨nm,hnm⟩:∃ nm,cQ ps=nm:=⟨_,rfl⟩
 rw [hnm] at HQ hcell;have hA:=(h.alloc (.cells #[.int .i64 0,.string ⟨#[]⟩] 92 (0,0)))
 have dA:=ae ((ai.refl w).alloc (.cells #[.int .i64 0,.string ⟨#[]⟩] 92 (0,0)));have hk:=fun w' (h':Sat w' (vA x b v T k*(D*(pt w.heap.size (.cells #[.int .i64 0,.string ⟨#[]⟩] 92 (0,0))*F))))=>fI (ps:=ps.dropLast) ht (by rw [List.length_dropLast];omega) hD' h';have hA2:=hA.to (by ac_rfl:_=vA x b v T k*(D*(pt w.heap.size (.cells #[.int .i64 0,.string ⟨#[]⟩] 92 (0,0))*F)));have q1:=hcell _ _ hA2.ag;generalize aR T 1 ps.dropLast=p at *;obtain ⟨cc,r⟩:=p;have Hk:=ae hk;have HA:=ae hA2;have Hcell:=ae hcell;have b2:(m:Int)≤(c:Int):=by omega
 have b3:(m:Int)<(m:Int)+1:=by omega
 have k1':((m:Int)+1)≤(c:Int):=by omega
 have k2':(c:Int)≤9223372036854775807:=by unfold maxLen at k2;omega
 go_enter Tryz.func78,Tryz.ntmps78
 go_wp2_with fail
 generalize w.heap.size=rc at *
 by_cases h0:cc=0
 ·subst h0
  go_region_held3 (fun w'=>w'.cell? ⟨g,o+m,none⟩=some (.string (str nm)))
   (first|exact q1|exact q2|exact q3|go_keep)
   (first|(go_at_call 31;refine (Hk.out _ HA.out.drew).mono ?_;rintro e w5 ⟨he,d5,h5⟩;obtain rfl:e = .returned (.int .i64 (r:Int)):=he.elim (fun h=>h.2) (fun h=>absurd rfl h.1);have q2:=Hcell.out _ _ h5.ag;have z0:=h5.aq.cell 0;have z1:=h5.aq.cell 1;have f0:=h5.aq.frozen 0;have f1:=h5.aq.frozen 1;have q3:=Hcell.out _ _ ((h5.aq.setCell 0 (.int .i64 (r:Int))).setCell 1 (.string (str nm))).aq;simp at z0 z1))
  have h6:=((h5.aq.setCell 0 (.int .i64 (r:Int))).setCell 1 (.string (str nm)))
  have H6:=ae h6;have H7:=ae (HQ.out _ _ ⟨.inl ⟨rfl,rfl⟩,((dA.out.drew.trans d5).setCell _ _).setCell _ _,h6.right⟩)
  go_wp2_with fail
  exact bodyPost_ret (zd rfl rfl H6.out) rfl H7.out
 ·refine wp_region_held_drew (S:=fun w'=>w'.cell? ⟨g,o+m,none⟩=some (.string (str nm))) (by kernel_rfl) q1 (fun hHeld=>?_)
  refine tk 0 ?_;refine tk 1 ?_;refine tk 2 ?_;refine tk 3 ?_;refine tk 5 ?_;refine tk 6 ?_;refine tk 7 ?_;refine tk 8 ?_;refine tr 4 fun K hK=>?_
  go_simp
  go_wp2_with (go_at_call 31;refine (Hk.out _ HA.out.drew).mono ?_;rintro e w5 ⟨he,d5,h5⟩;obtain rfl:e = .panicked (mf cc):=he.elim (fun h=>absurd h.1 h0) (fun h=>h.2);exact ⟨rfl,HQ.out _ _ ⟨.inr ⟨h0,rfl⟩,dA.out.drew.trans d5,(h5.to (by ac_rfl:_=pt rc (.cells #[.int .i64 0,.string ⟨#[]⟩] 92 (0,0))*(vA x b v T k*(D*F)))).right⟩⟩)
def _root_.Go.SL.fj (T:Tr) (ps:List (List UInt8)):Int:=
 if ps=[] then 6 else if (aR T 1 ps.dropLast).1≠0 then (aR T 1 ps.dropLast).1 else if (eE (T (aR T 1 ps.dropLast).2) (cQ ps)).1=0 then 6 else if (eE (T (aR T 1 ps.dropLast).2) (cQ ps)).1=5 then 0 else (eE (T (aR T 1 ps.dropLast).2) (cQ ps)).1
def _root_.Go.SL.fD (T:Tr) (ps:List (List UInt8)):Nat:=(aR T 1 ps.dropLast).2
theorem sX (ht:Tidy n T) (hl:ps.length≤1000) (hs:∀ W P,Sat W (D*P)→∃ a c,pv = .slice a ps.length c) (hD:∀ W P,Sat W (D*P)→Ct W pv ps) (h:Sat w (vA x b v T k*(D*F))) :
  Calls Tryz.prog 51 #[ax v,pv] w (QE (vA x b v T k*(D*F)) (fj T ps) (.agg #[.int .i64 (fD T ps:Nat),.string (str (cQ ps))]) w):=by
 refine aI fun Q HQ=>?_;obtain ⟨a,c,rfl⟩:=hs _ _ h.ag;obtain ⟨m,hm⟩:∃ m,ps.length=m:=⟨_,rfl⟩
 have hA:=h.alloc (.cells #[.int .i64 0,.string ⟨#[]⟩] 92 (0,0));have dA:=ae ((ai.refl w).alloc (.cells #[.int .i64 0,.string ⟨#[]⟩] 92 (0,0)));have Hc:=ae fun (w:World) (c:Int) (hc:c≠0)=>dy w c hc;have HA:=ae (hA.to (by ac_rfl:_=vA x b v T k*(D*(pt w.heap.size (.cells #[.int .i64 0,.string ⟨#[]⟩] 92 (0,0))*F))))
 by_cases hne:ps=[]
 ·have hm0:m=0:=by rw [← hm,hne];rfl
  have hfc:fj T ps=6:=if_pos hne;rw [hfc] at HQ;rw [hm,hm0]
  go_enter Tryz.func51,Tryz.ntmps51
  go_wp2_with fail
  refine (Hc.out _ 6 (by decide)).mono ?_;rintro e w3 ⟨rfl,rfl⟩;exact ⟨rfl,HQ.out _ _ ⟨.inr ⟨by decide,rfl⟩,dA.out,(HA.out.to (by ac_rfl:_=pt w.heap.size (.cells #[.int .i64 0,.string ⟨#[]⟩] 92 (0,0))*(vA x b v T k*(D*F)))).right⟩⟩
 ·have hsp:=ae (DE ht hl hne hD HA.out)
  have hm0:¬ ((m:Int)=0):=by have:=List.length_pos_iff.2 hne;omega
  have hfc:fj T ps=if (aR T 1 ps.dropLast).1≠0 then (aR T 1 ps.dropLast).1 else if (eE (T (aR T 1 ps.dropLast).2) (cQ ps)).1=0 then 6 else if (eE (T (aR T 1 ps.dropLast).2) (cQ ps)).1=5 then 0 else (eE (T (aR T 1 ps.dropLast).2) (cQ ps)).1:=if_neg hne
  have hy:=fun (h0:(aR T 1 ps.dropLast).1=0)=>ht.walk ps.dropLast (ht.root.choose_spec) h0;rw [hfc] at HQ;unfold fD at HQ;rw [hm] at hsp ⊢;generalize aR T 1 ps.dropLast=p at *;obtain ⟨cc,d⟩:=p;generalize cQ ps=nm at *;have HY:=ae hy;have HT:=ae ht
  go_enter Tryz.func51,Tryz.ntmps51
  go_wp2_with fail
  refine hsp.out.mono ?_;rintro e w2 ⟨he,d2,h2⟩;generalize w.heap.size=rc at *;rcases he with ⟨rfl,rfl⟩|⟨hc,rfl⟩
  ·obtain ⟨y,hy⟩:=HY.out rfl
   rw [if_neg (by decide)] at HQ;have hB:=h2.alloc (.cells #[.int .i64 (d:Int),.string (str nm)] 92 (0,0));have dB:=ae ((dA.out.trans d2).alloc (.cells #[.int .i64 (d:Int),.string (str nm)] 92 (0,0)));have hC:=hB.to (by unfold vA;ac_rfl:_=pt v (bV b n)*(pt w2.heap.size (.cells #[.int .i64 (d:Int),.string (str nm)] 92 (0,0))*(et x b (gG T) k*(pt rc (.cells #[.int .i64 0,.string ⟨#[]⟩] 92 (0,0))*(D*F)))));have k0:(w2.alloc (.cells #[.int .i64 (d:Int),.string (str nm)] 92 (0,0))).cell? ⟨v,0,none⟩=some (ax b)∧(w2.alloc (.cells #[.int .i64 (d:Int),.string (str nm)] 92 (0,0))).cell? ⟨v,1,none⟩=some (.int .i64 (n:Int))∧(w2.alloc (.cells #[.int .i64 (d:Int),.string (str nm)] 92 (0,0))).cell? ⟨w2.heap.size,0,none⟩=some (.int .i64 (d:Int))∧(w2.alloc (.cells #[.int .i64 (d:Int),.string (str nm)] 92 (0,0))).cell? ⟨w2.heap.size,1,none⟩=some (.string (str nm)):=⟨hC.cell 0,hC.cell 1,hC.ag.cell 0,hC.ag.cell 1⟩
   have K0:=ae k0;have hf:=ae fun w' (h':Sat w' (et x b (gG T) k*(pt v (bV b n)*(pt w2.heap.size (.cells #[.int .i64 (d:Int),.string (str nm)] 92 (0,0))*(pt rc (.cells #[.int .i64 0,.string ⟨#[]⟩] 92 (0,0))*(D*F))))))=>vm (nm:=nm) HT.out hy h';have HC:=ae hC.aq;generalize eE (T d) nm=p at *;obtain ⟨cf,idf⟩:=p
   go_wp2_with fail
   generalize w2.heap.size=sc at *;have k0:=K0.out
   go_region_held3 (fun w'=>w'.cell? ⟨v,0,none⟩=some (ax b)∧w'.cell? ⟨v,1,none⟩=some (.int .i64 (n:Int))∧w'.cell? ⟨sc,0,none⟩=some (.int .i64 (d:Int))∧w'.cell? ⟨sc,1,none⟩=some (.string (str nm)))
    (first|exact k0|exact k1|go_keep)
    (first|(go_at_call 97;refine (hf.out _ HC.out.drew).mono ?_;rintro e w4 ⟨rfl,d4,h4⟩;have k1:w4.cell? ⟨v,0,none⟩=some (ax b)∧w4.cell? ⟨v,1,none⟩=some (.int .i64 (n:Int))∧w4.cell? ⟨sc,0,none⟩=some (.int .i64 (d:Int))∧w4.cell? ⟨sc,1,none⟩=some (.string (str nm)):=⟨h4.ag.cell 0,h4.ag.cell 1,h4.aq.cell 0,h4.aq.cell 1⟩))
   have h5:=h4.to (by unfold vA;ac_rfl:_=pt sc (.cells #[.int .i64 (d:Int),.string (str nm)] 92 (0,0))*(pt rc (.cells #[.int .i64 0,.string ⟨#[]⟩] 92 (0,0))*(vA x b v T k*(D*F))));have s0:=h5.cell 0;have s1:=h5.cell 1;have z0:=h5.ag.cell 0;have z1:=h5.ag.cell 1;have f0:=h5.ag.frozen 0;have f1:=h5.ag.frozen 1;have h6:=ae ((h5.ag.setCell 0 (.int .i64 (d:Int))).setCell 1 (.string (str nm)));have H5:=ae h5.right.right;have D4:=ae (dB.out.drew.trans d4)
   by_cases e0:cf=0
   ·subst e0
    rw [if_pos rfl] at HQ
    go_wp2_with fail
    refine (Hc.out _ 6 (by decide)).mono ?_;rintro e w5 ⟨rfl,rfl⟩;exact ⟨rfl,HQ.out _ _ ⟨.inr ⟨by decide,rfl⟩,D4.out,H5.out⟩⟩
   ·rw [if_neg e0] at HQ
    by_cases e5:cf=5
    ·subst e5
     rw [if_pos rfl] at HQ;have H7:=ae (HQ.out _ _ ⟨.inl ⟨rfl,rfl⟩,(D4.out.setCell ⟨rc,0,none⟩ (.int .i64 (d:Int))).setCell ⟨rc,1,none⟩ (.string (str nm)),h6.out.right.right⟩)
     go_wp2_with fail
     exact bodyPost_ret (zd rfl rfl h6.out) rfl H7.out
    ·rw [if_neg e5] at HQ
     go_wp2_with fail
     refine (Hc.out _ cf e0).mono ?_;rintro e w5 ⟨rfl,rfl⟩;exact ⟨rfl,HQ.out _ _ ⟨.inr ⟨e0,rfl⟩,D4.out,H5.out⟩⟩
  ·refine ⟨rfl,HQ.out _ _ ⟨.inr ⟨?_,?_⟩,dA.out.trans d2,(h2.to (by ac_rfl:_=pt rc (.cells #[.int .i64 0,.string ⟨#[]⟩] 92 (0,0))*(vA x b v T k*(D*F)))).right⟩⟩
   ·rw [if_pos hc];exact hc
   ·rw [if_pos hc]
theorem sI:∀ {z:Nd} (_:z.dr.length=16) (w:World),(Instr.field 73 (.agg (ints z.l)) 0).run Tryz.prog w = .ok (.int .i64 z.kd) w∧(Instr.field 73 (.agg (ints z.l)) 1).run Tryz.prog w = .ok (.int .i64 z.lk) w∧(Instr.field 73 (.agg (ints z.l)) 2).run Tryz.prog w = .ok (.int .i64 z.sz) w
 | ⟨kd,lk,sz,[_,_,_,_,_,_,_,_,_,_,_,_,_,_,_,_],rw⟩,_,w=>⟨by kernel_rfl,by kernel_rfl,by kernel_rfl⟩
def _root_.Go.SL.oN (L:List aM):Int:=if 122880≤32*L.length then 9 else 0
theorem Et {L:List aM} (hy:T id=some (.dir L)) (h:Sat w (vA x b v T k*F)) :
  Calls Tryz.prog 67 #[ax v,.agg #[.int .i64 (id:Int),.string (str nm)]] w (QE (vA x b v T k*F) (oN L) (.tuple #[]) w):=by
 refine aI fun Q HQ=>?_;have hA:=h.alloc (.cells #[.int .i64 (id:Int),.string (str nm)] 92 (0,0));have dA:=ae ((ai.refl w).alloc (.cells #[.int .i64 (id:Int),.string (str nm)] 92 (0,0)));have hn:=ae (iZ hy hA.ag)
 go_enter Tryz.func67,Tryz.ntmps67
 go_wp2_with fail
 refine hn.out.mono ?_;rintro e w2 ⟨z,rfl,y16,ykd,ylk,ysz,d2,h2⟩;have hfd:=fun w=>(sI y16 w).2.2;have hsz:z.sz=((32*L.length:Nat):Int):=ysz;have H2:=ae (h2.to (by ac_rfl:_=pt w.heap.size (.cells #[.int .i64 (id:Int),.string (str nm)] 92 (0,0))*(vA x b v T k*F))).right;have D2:=ae (dA.out.trans d2);have Hc:=ae fun w=>dy w 9 (by decide);unfold oN at HQ;obtain ⟨q,hq⟩:∃ q,32*L.length=q:=⟨_,rfl⟩
 rw [hq] at hsz HQ;obtain ⟨zz,hzz⟩:∃ zz:Int,zz=(q:Int):=⟨_,rfl⟩
 rw [hsz,← hzz] at hfd
 by_cases h9:122880≤q
 ·rw [if_pos h9] at HQ
  have h9':(122880:Int)≤zz:=by omega
  clear h9 hzz
  go_wp2_with fail
  refine (Hc.out _).mono ?_;rintro e w5 ⟨rfl,rfl⟩;exact ⟨rfl,HQ.out _ _ ⟨.inr ⟨by decide,rfl⟩,D2.out,H2.out⟩⟩
 ·rw [if_neg h9] at HQ
  have h9':zz<122880:=by omega
  clear h9 hzz
  go_wp2_with fail
  go_end0
  exact HQ.out _ _ ⟨.inl ⟨rfl,rfl⟩,D2.out,H2.out⟩
def _root_.Go.SL.jZ (k:Nat) (L:List aM) (nm:List UInt8):Int:=if (jF L nm).isSome then 6 else if 3840≤L.length then 9 else if k+cq L.length<cq (L.length+1) then 7 else 0
def _root_.Go.SL.lr (T:Tr) (d:Nat) (L:List aM):Tr:=eS T d (some (.dir L))
theorem Ir {child:Nat} {A:Nat→Option AF} {lk:Int} {L:List aM} (hc1:1≤child) (hc2:child≤3839) (h:Sat w (et x b A k*F)) (hf:A id=some (gO lk L)) (hok:As L) (hl:L.length=3840) (hi:cy nm=true) (hp:jF L nm=none) :
  Calls Tryz.prog 98 #[gm b n,.int .i64 (id:Int),.string (str nm),.int .i64 (child:Int)] w (YE x b A k 9 F w):=by
 refine aI fun Q HQ=>?_;have hA:=h.alloc (dh b n);have dA:=ae ((ai.refl w).alloc (dh b n));have hr:=ae (ja hA.ag hf (iV hok (by omega)));obtain ⟨m,hm⟩:∃ m,L.length=m:=⟨_,rfl⟩
 have HM:=ae hm;have hpv:=ae (qO hp);have hl':(m:Int)=3840:=by omega
 have HL:Hid (L.length≤3840):=by show L.length≤3840;omega
 have Hn:=ae fun w=>pP w nm;rw [hi] at Hn;have g1:¬ ((child:Int)<1):=by omega
 have g2:¬ ((3839:Int)<(child:Int)):=by omega
 unfold gm
 go_enter Tryz.func98,Tryz.ntmps98
 go_wp2_with fail
 refine hr.out.mono ?_;generalize w.heap.size=ga at *;rintro r w2 ⟨u,rfl,d2,h2⟩;have hpl:=Go.Fs.dF w2 u L nm _ HL.out h2;unfold qz at hpl;rw [hpv.out] at hpl;have Hpl:=ae hpl;obtain ⟨ua,uc,rfl⟩:=aB h2;rw [HM.out] at Hpl ⊢
 go_wp2_with fail
 refine (Hn.out _).mono ?_;rintro r w3 ⟨rfl,rfl⟩
 go_wp2_with fail
 refine Hpl.out.mono ?_;rintro r w3 ⟨rfl,h3,d3⟩;have H3:=ae (h3.to (by ac_rfl:_=(sl 99 2 (.slice ua m uc) m (bk L)*pt ga (dh b n))*(et x b A k*F))).right
 go_wp2_with fail
 exact HQ.out _ _ ⟨by simp,(dA.out.trans d2).trans d3,H3.out⟩
def Nr (x:Fx n) (b v:Nat) (T:Tr) (k id child:Nat) (nm:List UInt8) (L:List aM) (F:ah) (w:World) (e:Ending) (w':World):Prop:=
 (jZ k L nm=0∧e = .returned (.tuple #[])∧ai w w'∧Sat w' (vA (x.more 5) b v (lr T id (L++[⟨child,nm⟩])) (k+cq L.length-cq (L.length+1))*F)) ∨
 (jZ k L nm≠0∧PE (jZ k L nm) (vA x b v T k*F) w e w')
theorem J9 {child:Nat} {L:List aM} (hc1:1≤child) (hc2:child≤3839) (h:Sat w (et x b (gG T) k*F)) (hf:T id=some (.dir L)) (hE:qt L) (hi:cy nm=true) :
  Calls Tryz.prog 98 #[gm b n,.int .i64 (id:Int),.string (str nm),.int .i64 (child:Int)] w fun e w'=>
   (jZ k L nm=0∧YE (x.more 5) b (gG (lr T id (L++[⟨child,nm⟩]))) (k+cq L.length-cq (L.length+1)) 0 F w e w')∨(jZ k L nm≠0∧YE x b (gG T) k (jZ k L nm) F w e w'):=by
 unfold jZ
 cases hp:jF L nm with
 | some i=>exact (Fw hc1 hc2 h (kZ hf) hE.ok hE.len hi hp).mono fun e w' q=>.inr ⟨by simp,by simpa using q⟩
 | none=>
  by_cases hl:3840≤L.length
  ·rw [if_pos hl]
   exact (Ir hc1 hc2 h (kZ hf) hE.ok (by have:=hE.len;omega) hi hp).mono fun e w' q=>.inr ⟨by decide,q⟩
  ·rw [if_neg hl]
   by_cases hk:k+cq L.length<cq (L.length+1)
   ·rw [if_pos hk]
    exact (OV hc1 hc2 h (kZ hf) hE.ok (by omega) hi hp hk).mono fun e w' q=>.inr ⟨by decide,q⟩
   ·rw [if_neg hk]
    have:=rW hc1 hc2 h (kZ hf) hE.ok (by omega) hi hp (by omega);rw [show eS (gG T) id (some (gO 1 (L++[⟨child,nm⟩])))=gG (lr T id (L++[⟨child,nm⟩])) from xx T id (.dir (L++[(⟨child,nm⟩:aM)]))] at this;exact this.mono fun e w' q=>.inl ⟨rfl,q⟩
theorem zq {child:Nat} {L:List aM} (hc1:1≤child) (hc2:child≤3839) (hf:T id=some (.dir L)) (hE:qt L) (hi:cy nm=true) (h:Sat w (vA x b v T k*F)) :
  Calls Tryz.prog 52 #[ax v,.agg #[.int .i64 (id:Int),.string (str nm)],.int .i64 (child:Int)] w (Nr x b v T k id child nm L F w):=by
 refine aI fun Q HQ=>?_;have hA:=h.alloc (.cells #[.int .i64 (id:Int),.string (str nm)] 92 (0,0));have dA:=ae ((ai.refl w).alloc (.cells #[.int .i64 (id:Int),.string (str nm)] 92 (0,0)));have hB:=hA.to (by unfold vA;ac_rfl:_=et x b (gG T) k*(pt v (bV b n)*(pt w.heap.size (.cells #[.int .i64 (id:Int),.string (str nm)] 92 (0,0))*F)));have k0:(w.alloc (.cells #[.int .i64 (id:Int),.string (str nm)] 92 (0,0))).cell? ⟨v,0,none⟩=some (ax b)∧(w.alloc (.cells #[.int .i64 (id:Int),.string (str nm)] 92 (0,0))).cell? ⟨v,1,none⟩=some (.int .i64 (n:Int))∧(w.alloc (.cells #[.int .i64 (id:Int),.string (str nm)] 92 (0,0))).cell? ⟨w.heap.size,0,none⟩=some (.int .i64 (id:Int))∧(w.alloc (.cells #[.int .i64 (id:Int),.string (str nm)] 92 (0,0))).cell? ⟨w.heap.size,1,none⟩=some (.string (str nm)):=⟨hB.ag.cell 0,hB.ag.cell 1,hB.aq.cell 0,hB.aq.cell 1⟩
 have ha:=ae fun w' (h':Sat w' (et x b (gG T) k*(pt v (bV b n)*(pt w.heap.size (.cells #[.int .i64 (id:Int),.string (str nm)] 92 (0,0))*F))))=>J9 hc1 hc2 h' hf hE hi;have Hc:=ae fun (w:World) (c:Int) (hc:c≠0)=>dy w c hc;have Hk:=ae fun w=>du w;have HB:=ae hB;have K0:=ae k0;unfold Nr at HQ;generalize jZ k L nm=c at *
 go_enter Tryz.func52,Tryz.ntmps52
 go_wp2_with fail
 generalize w.heap.size=sc at *;have k0:=K0.out
 by_cases h0:c=0
 ·subst h0
  go_region_held3 (fun w'=>w'.cell? ⟨v,0,none⟩=some (ax b)∧w'.cell? ⟨v,1,none⟩=some (.int .i64 (n:Int))∧w'.cell? ⟨sc,0,none⟩=some (.int .i64 (id:Int))∧w'.cell? ⟨sc,1,none⟩=some (.string (str nm)))
   (first|exact k0|exact k1|go_keep)
   (first
    | (go_at_call 98;refine (ha.out _ HB.out.drew).mono ?_;rintro e w4 hq;obtain ⟨rfl,d4,h4⟩:=hq.elim (fun h=>h.2) (fun h=>absurd rfl h.1);have k1:w4.cell? ⟨v,0,none⟩=some (ax b)∧w4.cell? ⟨v,1,none⟩=some (.int .i64 (n:Int))∧w4.cell? ⟨sc,0,none⟩=some (.int .i64 (id:Int))∧w4.cell? ⟨sc,1,none⟩=some (.string (str nm)):=⟨h4.ag.cell 0,h4.ag.cell 1,h4.aq.cell 0,h4.aq.cell 1⟩)
    | (go_at_call 34;refine (Hk.out _).mono ?_;rintro e w5 ⟨rfl,rfl⟩))
  have D4:=ae (dA.out.drew.trans d4);have H4:=ae (h4.to (by unfold vA;ac_rfl:_=pt sc (.cells #[.int .i64 (id:Int),.string (str nm)] 92 (0,0))*(vA (x.more 5) b v (lr T id (L++[⟨child,nm⟩])) (k+cq L.length-cq (L.length+1))*F))).right
  go_wp2_with fail
  go_end0
  exact HQ.out _ _ (.inl ⟨by simp,rfl,D4.out,H4.out⟩)
 ·refine wp_region_held_drew (S:=fun w'=>w'.cell? ⟨v,0,none⟩=some (ax b)∧w'.cell? ⟨v,1,none⟩=some (.int .i64 (n:Int))∧w'.cell? ⟨sc,0,none⟩=some (.int .i64 (id:Int))∧w'.cell? ⟨sc,1,none⟩=some (.string (str nm))) (by kernel_rfl) k0 (fun hHeld=>?_)
  refine tk 0 ?_;refine tk 1 ?_;refine tk 2 ?_;refine tk 3 ?_;refine tk 4 ?_;refine tk 5 ?_;refine tk 6 ?_;refine tk 7 ?_;refine tk 8 ?_;refine tr 9 fun K hK=>?_
  go_simp
  go_wp2_with (go_at_call 98;refine (ha.out _ HB.out.drew).mono ?_;rintro e w4 hq;obtain ⟨rfl,d4,h4⟩:=hq.elim (fun h=>absurd h.1 h0) (fun h=>h.2))
  have k1:w4.cell? ⟨v,0,none⟩=some (ax b)∧w4.cell? ⟨v,1,none⟩=some (.int .i64 (n:Int))∧w4.cell? ⟨sc,0,none⟩=some (.int .i64 (id:Int))∧w4.cell? ⟨sc,1,none⟩=some (.string (str nm)):=⟨h4.ag.cell 0,h4.ag.cell 1,h4.aq.cell 0,h4.aq.cell 1⟩
  have H4:=(h4.to (by unfold vA;ac_rfl:_=pt sc (.cells #[.int .i64 (id:Int),.string (str nm)] 92 (0,0))*(vA x b v T k*F))).right;refine hK.out _ _ k1 (fun hHeld=>?_);refine tr 10 fun K hK=>?_
  go_simp
  go_wp2_with (go_at_call 34;refine (Hc.out _ c h0).mono ?_;rintro e w5 ⟨rfl,rfl⟩;exact ⟨rfl,HQ.out _ _ (.inr ⟨h0,rfl,dA.out.drew.trans d4,H4⟩)⟩)
end
end Go.Cl
namespace Go.SL
open Go.RowKit
def lE (kd:Int):ux:=if kd=1 then .file (fN 1) else .dir []
theorem Df {kd:Int} (h:kd=1∨kd=2):(lE kd).af=fN kd:=by
 rcases h with rfl|rfl
 ·rfl
 ·exact IL.symm
theorem zH (kd:Int):eI (some (lE kd))=[]:=by unfold lE;split <;> rfl
theorem Lr {id:Nat} (h:id≠1) (kd:Int):Ge id (some (lE kd))=1:=by
 unfold lE;split
 ·rfl
 ·show (if id=1 then (0:Int) else 1)=1;rw [if_neg h]
theorem qt.snoc {L:List aM} (h:qt L) {id:Nat} {nm:List UInt8} (h1:1≤id) (h2:id≤3839) (hn:cy nm=true) (hp:jF L nm=none) (hl:L.length<3840):qt (L++[⟨id,nm⟩]):=by
 refine ⟨yQ h.ok (aM.kR.2 ⟨h1,h2,qu hn⟩),by rw [List.length_append,List.length_singleton];omega,?_,fun e he=>?_⟩
 ·rw [List.map_append,List.nodup_append]
  refine ⟨h.nd,by simp,fun a ha b hb=>?_⟩;obtain ⟨e,he,rfl⟩:=List.mem_map.1 ha;simp only [List.map_cons,List.map_nil,List.mem_singleton] at hb;subst hb;unfold jF at hp;rw [List.findIdx?_eq_none_iff] at hp;simpa using hp e he
 ·rcases List.mem_append.1 he with he|he
  ·exact h.nm e he
  ·rw [List.mem_singleton.1 he];exact hn
theorem qt.nil:qt []:=⟨fun e he=>(by cases he),Nat.zero_le _,List.nodup_nil,fun e he=>(by cases he)⟩
variable {n d id:Nat} {T:Tr} {L:List aM} {nm:List UInt8}
theorem Tidy.Lu (h:Tidy n T) (hi:T id=none):id≠1:=by
 rintro rfl;obtain ⟨L,hL⟩:=h.root;rw [hL] at hi;cases hi
def Kw (T:Tr) (d id:Nat) (nm:List UInt8) (kd:Int):Tr:=Go.SL.eS (eS T id (some (lE kd))) d (some (.dir (eI (T d)++[⟨id,nm⟩])))
theorem Tidy.make (h:Tidy n T) (hd:T d=some (.dir L)) (hi:T id=none) (h1:0<id) (h2:id<n) (hn3:n≤3840) {kd:Int} (hk:kd=1∨kd=2) (hn:cy nm=true) (hp:jF L nm=none) (hl:L.length<3840):Tidy n (Kw T d id nm kd):=by
 have hne:id≠d:=by rintro rfl;rw [hd] at hi;cases hi
 have hi1:=h.Lu hi;have hE:eI (T d)=L:=by rw [hd];rfl
 have hdn:=h.lt hd;unfold Kw;rw [hE];have hx:∀ x,eS (eS T id (some (lE kd))) d (some (.dir (L++[⟨id,nm⟩]))) x=if x=d then some (.dir (L++[⟨id,nm⟩])) else if x=id then some (lE kd) else T x:=fun x=>rfl
 have hr:∀ x,refs n (eS (eS T id (some (lE kd))) d (some (.dir (L++[⟨id,nm⟩])))) x=refs n T x+if id=x then 1 else 0:=fun x=>by
  have e1:=oJ (T:=T) h2 (some (lE kd)) x;have e2:=oJ (T:=eS T id (some (lE kd))) hdn (some (.dir (L++[⟨id,nm⟩]))) x;rw [hi,zH] at e1;rw [aQ _ _ (Ne.symm hne),hd] at e2;simp only [eI,List.countP_nil,List.countP_append,List.countP_cons,Nat.add_zero,Nat.zero_add] at e1 e2
  by_cases hc:id=x
  ·rw [if_pos hc];subst hc;simp at e2;omega
  ·rw [if_neg hc];simp [hc] at e2;omega
 refine ⟨?_,fun x M hM=>?_,fun x f hf=>?_,fun x=>?_,fun x hxn=>?_⟩
 ·obtain ⟨L1,hL1⟩:=h.root
  rw [hx]
  by_cases e:1=d
  ·exact ⟨_,if_pos e⟩
  ·rw [if_neg e,if_neg (Ne.symm hi1)];exact ⟨L1,hL1⟩
 ·rw [hx] at hM
  split at hM
  ·cases hM;exact (h.dirs _ _ hd).snoc h1 (by omega) hn hp hl
  ·split at hM
   ·have:M=[]:=by rw [← zH kd];injection hM with hM;rw [hM];rfl
    rw [this];exact qt.nil
   ·exact h.dirs _ _ hM
 ·rw [hx] at hf
  split at hf
  ·cases hf
  ·split at hf
   ·unfold lE at hf;split at hf <;> cases hf;rfl
   ·exact h.files _ _ hf
 ·rw [hr,hx]
  have:=h.ref x
  by_cases e:x=d
  ·subst e;rw [if_pos rfl,if_neg hne];rw [hd] at this;exact this
  ·rw [if_neg e]
   by_cases e2:x=id
   ·subst e2;rw [if_pos rfl,if_pos rfl,Lr hi1];rw [hi] at this;simp only [Ge] at this;omega
   ·rw [if_neg e2,if_neg (Ne.symm e2)];exact this
 ·rw [hx,if_neg (by omega),if_neg (by omega)];exact h.out x hxn
def fQ (T:Tr) (k:Nat) (p:List UInt8):Int:=match aV p with
 | none=>1
 | some ps=>if fj T ps≠0 then fj T ps else if oN (eI (T (fD T ps)))≠0 then 9 else if k=0 then 7 else jZ (k-1) (eI (T (fD T ps))) (cQ ps)
def Pg (k:Nat) (L:List aM):Nat:=k-1+cq L.length-cq (L.length+1)
end Go.SL
namespace Go.SL
open Go.RowKit
structure jQ (n:Nat) (T:Tr) (z:Nat→Int):Prop where
 root:∃ L,T 1=some (.dir L)
 dirs:∀ id L,T id=some (.dir L)→qt L
 files:∀ id f,T id=some (.file f)→f.kd=1
 ref:∀ id,(refs n T id:Int)=Ge id (T id)+z id
 out:∀ id,n≤id→T id=none
section
variable {n d id i:Nat} {T:Tr} {L:List aM} {nm:List UInt8} {z:Nat→Int} {f f':AF}
theorem Tidy.w (h:Tidy n T):jQ n T fun _=>0:=⟨h.root,h.dirs,h.files,fun id=>by rw [h.ref id];omega,h.out⟩
theorem jQ.tidy (h:jQ n T z) (hz:∀ id,z id=0):Tidy n T:=⟨h.root,h.dirs,h.files,fun id=>by rw [h.ref id,hz];omega,h.out⟩
theorem jQ.lt (h:jQ n T z) {x:ux} (hx:T id=some x):id<n:=by
 by_cases hl:id<n
 ·exact hl
 ·rw [h.out id (by omega)] at hx;cases hx
theorem jQ.set (h:jQ n T z) {M:List aM} (hd:T d=some (.dir L)) (hM:qt M) {z':Nat→Int} (hz:∀ x,((M.countP fun e=>e.nd == x:Nat):Int)-((L.countP fun e=>e.nd == x:Nat):Int)=z' x-z x):jQ n (lr T d M) z':=by
 have hx:∀ x,lr T d M x=if x=d then some (.dir M) else T x:=fun x=>rfl
 refine ⟨?_,fun x N hN=>?_,fun x f hf=>?_,fun x=>?_,fun x hxn=>?_⟩
 ·obtain ⟨L1,hL1⟩:=h.root
  rw [hx]
  by_cases e:1=d
  ·exact ⟨_,if_pos e⟩
  ·rw [if_neg e];exact ⟨L1,hL1⟩
 ·rw [hx] at hN
  split at hN
  ·cases hN;exact hM
  ·exact h.dirs _ _ hN
 ·rw [hx] at hf
  split at hf
  ·cases hf
  ·exact h.files _ _ hf
 ·have e1:=oJ (T:=T) (h.lt hd) (some (.dir M)) x
  rw [hd] at e1;simp only [eI] at e1;have hzx:=hz x;have hr:=h.ref x
  have hl:Ge x (lr T d M x)=Ge x (T x):=by
   rw [hx]
   by_cases e:x=d
   ·subst e;rw [if_pos rfl,hd];rfl
   ·rw [if_neg e]
  rw [hl];unfold lr;omega
 ·rw [hx,if_neg (by have:=h.lt hd;omega)]
  exact h.out x hxn
theorem jQ.add (h:jQ n T z) (hd:T d=some (.dir L)) (hM:qt (L++[⟨id,nm⟩])):jQ n (lr T d (L++[⟨id,nm⟩])) fun x=>z x+if x=id then 1 else 0:=by
 refine h.set hd hM fun x=>?_;rw [List.countP_append]
 by_cases e:x=id
 ·subst e;simp;omega
 ·have:¬ id=x:=Ne.symm e
  simp [e,this]
theorem jQ.leaf (h:jQ n T z) {y:ux} {y':Option ux} (hy:T id=some y) (he:eI (some y)=[]) (he':eI y'=[]) (h1:id≠1) (hd:∀ L,y'≠some (.dir L)) (hk:∀ f,y'=some (.file f)→f.kd=1):jQ n (eS T id y') fun x=>z x+if x=id then Ge id (some y)-Ge id y' else 0:=by
 have hx:∀ x,eS T id y' x=if x=id then y' else T x:=fun x=>rfl
 refine ⟨?_,fun x N hN=>?_,fun x f hf=>?_,fun x=>?_,fun x hxn=>?_⟩
 ·obtain ⟨L1,hL1⟩:=h.root
  exact ⟨L1,by rw [hx,if_neg (Ne.symm h1)];exact hL1⟩
 ·rw [hx] at hN
  split at hN
  ·exact absurd hN (hd N)
  ·exact h.dirs _ _ hN
 ·rw [hx] at hf
  split at hf
  ·exact hk f hf
  ·exact h.files _ _ hf
 ·have e1:=oJ (T:=T) (h.lt hy) y' x
  rw [hy,he,he'] at e1;simp only [List.countP_nil,Nat.add_zero] at e1;rw [e1,hx,h.ref x]
  by_cases e:x=id
  ·subst e;rw [if_pos rfl,if_pos rfl,hy];omega
  ·rw [if_neg e,if_neg e];omega
 ·rw [hx,if_neg (by have:=h.lt hy;omega)]
  exact h.out x hxn
end
theorem di {p:List UInt8} {l:List (List UInt8)} (h:aV p=some l):l.all cy=true∧l.length≤1000:=by
 unfold aV at h
 split at h
 ·cases h
 ·rename_i h1
  split at h
  ·cases h;exact ⟨rfl,Nat.zero_le _⟩
  ·split at h
   ·rename_i h3;cases h
    exact ⟨h3,Nat.le_trans (j5 _ _) (Nat.le_of_not_lt fun q=>h1 (.inl q))⟩
   ·cases h
def bW (T:Tr) (p:List UInt8):Int × Nat:=match aV p with
 | none=>(1,0)
 | some l=>aR T 1 l
theorem pO {T:Tr} {p:List UInt8} (h:aV p=none):bW T p=(1,0):=by unfold bW;rw [h]
theorem eW {T:Tr} {p:List UInt8} {l:List (List UInt8)} (h:aV p=some l):bW T p=aR T 1 l:=by unfold bW;rw [h]
def sE:Option ux→Int × Int × Int
 | some (.file f)=>(f.kd,f.lk,(f.sz:Int))
 | some (.dir L)=>(2,1,((32*L.length:Nat):Int))
 | none=>(0,0,0)
end Go.SL
namespace Go.Cl
open Go.RowKit Go.SL Go.Nn Go.Ba Go.Fs
attribute [local go_sem] Oper.semAt_some
theorem iz {v:Value} {l:List (List UInt8)} (W:World) (P:ah) (h:Sat W (eK v l*P)):Ct W v l:=by
 unfold eK at h;rcases h.cX with ⟨rfl,h1,_,_⟩|⟨g,cap,cur,rfl,h3,h4,h5,h6,hs⟩
 ·exact .inl ⟨none,0,rfl,List.eq_nil_of_length_eq_zero h1⟩
 ·refine .inr ⟨g,0,cap,rfl,h3,h4,fun k hk=>?_⟩
  have h7:=hs.cell k;rw [Nat.zero_add,h7,← Array.getElem?_toList];have h8:(strs l)[k]?=cur.toList[k]?:=by rw [← h6,List.getElem?_take,if_pos (by omega)]
  rw [← h8];unfold strs;rw [List.getElem?_map,List.getElem?_eq_getElem hk,List.getD,List.getElem?_eq_getElem hk]
  rfl
theorem eF {v:Value} {l:List (List UInt8)} {W:World} {P:ah} (h:Sat W (eK v l*P)):∃ a c,v = .slice a l.length c:=aB h
def FT (c:Int) (X Y:ah) (w:World) (e:Ending) (w':World):Prop:=ai w w'∧((c=0∧e = .returned (.tuple #[])∧Sat w' X)∨(c≠0∧e = .panicked (mf c)∧Sat w' Y))
def aA (a:Nat) (p:List UInt8):ah:=pt a (.cells #[.string (str p)] 9 (0,0))
def eN (a:Nat) (z:Int × Int × Int):ah:=pt a (.cells #[.int .i64 z.1,.int .i64 z.2.1,.int .i64 z.2.2] 48 (0,0))
section
variable {n:Nat} {x:Fx n} {b v k pc sc:Nat} {T:Tr} {w:World} {F:ah} {p:List UInt8}
theorem Gw (ht:Tidy n T) (h:Sat w (vA x b v T k*(aA pc p*(eN sc (0,0,0)*F)))) :
  Calls Tryz.prog 53 #[ax v,ax pc,ax sc] w (FT (bW T p).1 (vA x b v T k*(aA pc p*(eN sc (sE (T (bW T p).2))*F))) (vA x b v T k*(aA pc p*(eN sc (0,0,0)*F))) w):=by
 refine aI fun Q HQ=>?_;have cp:w.cell? ⟨pc,0,none⟩=some (.string (str p)):=h.ag.cell 0;have H:=ae h;have HT:=ae ht
 cases hs:aV p with
 | none=>
  rw [pO hs] at HQ;have hk:=ae (vr (w:=w) hs);clear h ht hs
  go_enter Tryz.func53,Tryz.ntmps53
  go_wp2_with fail
  refine hk.out.mono ?_;rintro e w2 ⟨rfl,d2,h2⟩;exact ⟨rfl,HQ.out _ _ ⟨d2,.inr ⟨by decide,rfl,h2.dO H.out⟩⟩⟩
 | some l=>
  rw [eW hs] at HQ;obtain ⟨hok,hl⟩:=di hs;have hk:=ae (dK (w:=w) hs);have hy:=fun h0=>ht.walk l ht.root.choose_spec h0;have HY:=ae hy;have HL:=ae hl;clear h ht hs hy hok hl
  go_enter Tryz.func53,Tryz.ntmps53
  go_wp2_with fail
  refine hk.out.mono ?_;rintro e w2 ⟨u,rfl,d2,h2⟩;have h3:=h2.under H.out;have hw:=ae (fI HT.out HL.out iz (h3.ag));generalize aR T 1 l=q at *;obtain ⟨c,id⟩:=q;dsimp only at HQ HY hw;clear cp hk h2 h3 HL
  go_wp2_with fail
  refine hw.out.mono ?_;rintro e w3 ⟨he,d3,h3⟩;clear hw;rcases he with ⟨rfl,rfl⟩|⟨hc,rfl⟩
  ·obtain ⟨y,hy⟩:=HY.out rfl
   have hn:=ae (iZ hy h3);have hst:sE (T id)=(y.af.kd,y.af.lk,(y.af.sz:Int)):=by rw [hy];cases y <;> rfl
   have hk2:y.af.kd=2→y.af.lk=1:=by cases y with
    | file f=>intro h;have:=HT.out.files _ _ hy;exact absurd (this.symm.trans h) (by decide)
    | dir L=>intro _;rfl
   rw [hst] at HQ;generalize y.af=f at *;have Hk2:=ae hk2;clear hst hy HY hk2
   go_wp2_with fail
   refine hn.out.mono ?_;rintro e w4 ⟨z,rfl,y16,ykd,ylk,ysz,d4,h4⟩;obtain ⟨hX,hone,hinf⟩:=lM y16;have hB:=h4.alloc (.cells ny 73 (0,0));have Hz:=ae hB.heap;have hE:=hB.setRow (cs':=ints z.l);have n0:((w4.alloc (.cells ny 73 (0,0))).setRow w4.heap.size (ints z.l)).cell? ⟨w4.heap.size,0,none⟩=some (.int .i64 f.kd):=by rw [← ykd];exact hE.cell 0
   have n1:((w4.alloc (.cells ny 73 (0,0))).setRow w4.heap.size (ints z.l)).cell? ⟨w4.heap.size,1,none⟩=some (.int .i64 f.lk):=by rw [← ylk];exact hE.cell 1
   have n2:((w4.alloc (.cells ny 73 (0,0))).setRow w4.heap.size (ints z.l)).cell? ⟨w4.heap.size,2,none⟩=some (.int .i64 (f.sz:Int)):=by rw [← ysz];exact hE.cell 2
   have HE:=ae hE;have D5:=ae ((((d2.trans d3).trans d4).alloc (.cells ny 73 (0,0))).setRow w4.heap.size (ints z.l));have Hone:=ae hone;have Hinf:=ae hinf;have HX:=ae hX;have N0:=ae n0;have N1:=ae n1;have N2:=ae n2;obtain ⟨kd,hkd⟩:∃ kd,f.kd=kd:=⟨_,rfl⟩
   obtain ⟨lk,hlk⟩:∃ lk,f.lk=lk:=⟨_,rfl⟩
   obtain ⟨sz,hsz⟩:∃ sz,(f.sz:Int)=sz:=⟨_,rfl⟩
   rw [hkd,hlk,hsz] at HQ;rw [hkd] at N0;rw [hlk] at N1;rw [hsz] at N2;rw [hkd,hlk] at Hk2;clear hn hB hE hX hone hinf n0 n1 n2 d2 d3 d4 h3 h4 y16 ykd ylk ysz hkd hlk hsz;unfold ny at *
   go_upto_region 1 with (refine wpList_store_row (by exact rfl) 73 (.tmp 4) (.tmp 10) (by exact rfl) w4.heap.size (ints z.l) (by exact rfl) (by exact rfl) 73 _ (by with_reducible exact Hz.out) Hinf.out (by rw [HX.out];rfl) Hone.out ?_)
   generalize hw5:(w4.alloc (.cells #[.int .i64 0,.int .i64 0,.int .i64 0,.int .i64 0,.int .i64 0,.int .i64 0,.int .i64 0,.int .i64 0,.int .i64 0,.int .i64 0,.int .i64 0,.int .i64 0,.int .i64 0,.int .i64 0,.int .i64 0,.int .i64 0,.int .i64 0,.int .i64 0,.int .i64 0,.int .i64 0] 73 (0,0))).setRow w4.heap.size (ints z.l)=w5 at *;generalize w4.heap.size=nb at *;have h6:=HE.out.to (by unfold eN;ac_rfl:_=pt sc (.cells #[.int .i64 0,.int .i64 0,.int .i64 0] 48 (0,0))*(pt nb (.cells (ints z.l) 73 (0,0))*(vA x b v T k*(eK u l*(aA pc p*F)))));have n0:=N0.out;have n1:=N1.out;have n2:=N2.out;have z0:w5.cell? ⟨sc,0,none⟩=some (.int .i64 0):=h6.cell 0;have z1:w5.cell? ⟨sc,1,none⟩=some (.int .i64 0):=h6.cell 1;have z2:w5.cell? ⟨sc,2,none⟩=some (.int .i64 0):=h6.cell 2;have f0:=h6.frozen 0;have f1:=h6.frozen 1;have f2:=h6.frozen 2;have h7:=((h6.setCell 0 (.int .i64 kd)).setCell 1 (.int .i64 lk)).setCell 2 (.int .i64 sz);have m0:=(h7.ag.cell 0).trans ((HE.out.cell 0).symm.trans N0.out);have y1:=h7.cell 1;have g1:=h7.frozen 1;have H7:=ae h7;have D7:=ae (((D5.out.setCell ⟨sc,0,none⟩ (.int .i64 kd)).setCell ⟨sc,1,none⟩ (.int .i64 lk)).setCell ⟨sc,2,none⟩ (.int .i64 sz));simp at y1;clear h6 h7 HE D5 N0 N1 N2 hw5 Hz Hone Hinf HX
   by_cases h2:kd=2
   ·subst h2
    have hl1:=Hk2.out rfl;subst hl1;have h8:=ae (H7.out.setCell 1 (.int .i64 1));have D8:=ae (D7.out.setCell ⟨sc,1,none⟩ (.int .i64 1));clear H7 D7 Hk2
    go_wp2_with fail
    go_end0
    refine HQ.out _ _ ⟨D8.out,.inl ⟨rfl,rfl,?_⟩⟩;have h9:=h8.out;simp only [List.setIfInBounds_toArray,List.set_cons_zero,List.set_cons_succ] at h9;exact (h9.to (by unfold eN;ac_rfl:_=(pt nb (.cells (ints z.l) 73 (0,0))*eK u l)*(vA x b v T k*(aA pc p*(eN sc (2,1,sz)*F))))).right
   ·go_wp2_with fail
    go_end0
    refine HQ.out _ _ ⟨D7.out,.inl ⟨rfl,rfl,?_⟩⟩;have h9:=H7.out;simp only [List.setIfInBounds_toArray,List.set_cons_zero,List.set_cons_succ] at h9;exact (h9.to (by unfold eN;ac_rfl:_=(pt nb (.cells (ints z.l) 73 (0,0))*eK u l)*(vA x b v T k*(aA pc p*(eN sc (kd,lk,sz)*F))))).right
  ·exact ⟨rfl,HQ.out _ _ ⟨d2.trans d3,.inr ⟨hc,rfl,(h3.to (by ac_rfl:_=eK u l*(vA x b v T k*(aA pc p*(eN sc (0,0,0)*F))))).right⟩⟩⟩
end
def QJ {n:Nat} (x:Fx n) (b v:Nat) (R:Int→Tr→Nat→Prop) (X:ah) (w:World) (e:Ending) (w':World):Prop:=
 ∃ c T' k' j,R c T' k'∧(c=0→Tidy n T')∧((c=0∧e = .returned (.tuple #[]))∨(c≠0∧e = .panicked (mf c)))∧ai w w'∧j≤24∧Sat w' (vA (x.more j) b v T' k'*X)
def lV (n:Nat) (T:Tr) (k:Nat) (kd:Int) (p:List UInt8) (c:Int) (T':Tr) (k':Nat):Prop:=
 c=fQ T k p∧(c=0→∃ ps L id,aV p=some ps∧T (fD T ps)=some (.dir L)∧jF L (cQ ps)=none∧T id=none∧0<id∧id<n∧T'=Kw T (fD T ps) id (cQ ps) kd∧k'=Pg k L)
def aF (a:Nat) (z:Int):ah:=pt a (.cells #[.int .i64 z] 3 (0,0))
section
variable {n:Nat} {x:Fx n} {b v k pc kc:Nat} {T:Tr} {w w':World} {F:ah} {p:List UInt8}
theorem wg (ht:Tidy n T) {ps:List (List UInt8)} (h:fj T ps=0):ps≠[]∧∃ L,T (fD T ps)=some (.dir L)∧jF L (cQ ps)=none:=by
 unfold fj at h
 split at h
 ·exact absurd h (by decide)
 ·rename_i hne
  split at h
  ·rename_i h1;exact absurd h h1
  ·rename_i h1
   have h1:(aR T 1 ps.dropLast).1=0:=by simpa using h1
   obtain ⟨y,hy⟩:=ht.walk ps.dropLast ht.root.choose_spec h1;refine ⟨hne,?_⟩;unfold fD
   cases y with
   | file f=>rw [hy] at h;exact absurd h (show ¬ (8:Int)=0 by decide)
   | dir L=>
    refine ⟨L,hy,?_⟩
    cases hp:jF L (cQ ps) with
    | none=>rfl
    | some i=>rw [hy,kJ hp] at h;exact absurd h (show ¬ (6:Int)=0 by decide)
theorem C8 {ps:List (List UInt8)} (h:ps.all cy=true) (hne:ps≠[]):cy (cQ ps)=true:=by
 have hl:=List.length_pos_iff.2 hne;unfold cQ;rw [List.getD,List.getElem?_eq_getElem (by omega)];exact List.all_eq_true.1 h _ (List.getElem_mem _)
theorem IY {kd:Int} (hkd:kd=1∨kd=2) (hn:n≤3840) (ht:Tidy n T) (hgd:fQ T k p=0) (h:Sat w (vA x b v T k*(aA pc p*(aF kc kd*F)))) :
  Calls Tryz.prog 66 #[ax v,ax pc,ax kc] w (QJ x b v (lV n T k kd p) (aA pc p*(aF kc kd*F)) w):=by
 refine aI fun Q HQ=>?_;have cp:w.cell? ⟨pc,0,none⟩=some (.string (str p)):=h.ag.cell 0;have H:=ae h;have HT:=ae ht
 cases hs:aV p with
 | none=>
  have hc:(1:Int)=fQ T k p:=by unfold fQ;rw [hs]
  exact absurd (hc.trans hgd) (by decide)
 | some ps=>
  obtain ⟨hok,hl⟩:=di hs;have hmc:fQ T k p=if fj T ps≠0 then fj T ps else if oN (eI (T (fD T ps)))≠0 then 9 else if k=0 then 7 else jZ (k-1) (eI (T (fD T ps))) (cQ ps):=by unfold fQ;rw [hs]
  have hk:=ae (dK (w:=w) hs);have HL:=ae hl;have HMC:=ae hmc;have HS:=ae hs;have HOK:=ae hok;clear h ht hs hl hmc hok
  go_enter Tryz.func66,Tryz.ntmps66
  go_wp2_with fail
  refine hk.out.mono ?_;rintro e w2 ⟨u,rfl,d2,h2⟩;have h3:=(h2.under H.out).ag;have hw:=ae (sX HT.out HL.out (fun W P hW=>eF hW) iz h3);clear cp hk h2 h3 HL
  go_wp2_with fail
  refine hw.out.mono ?_;rintro e w3 ⟨he,d3,h3⟩;clear hw;rcases he with ⟨hfr,rfl⟩|⟨hc,rfl⟩
  ·obtain ⟨hne,L,hd,hp⟩:=wg HT.out hfr
   have hnm:=C8 HOK.out hne;have hmc2:fQ T k p=if oN L≠0 then 9 else if k=0 then 7 else jZ (k-1) L (cQ ps):=by rw [HMC.out,if_neg (by rw [hfr];simp),hd];rfl
   have Hok:Hid (∀ id,T id=none→0<id→id<n→jZ (k-1) L (cQ ps)=0→oN L=0→k≠0→∀ j,j≤24→∀ w',ai w w'→Sat w' (vA (x.more j) b v (Kw T (fD T ps) id (cQ ps) kd) (Pg k L)*(aA pc p*(aF kc kd*F)))→Q (.returned (.tuple #[])) w'):=fun id i0 i1 i2 ha hr hk j hj w' dd hs=>by
    have hc0:fQ T k p=0:=by rw [hmc2,if_neg (by rw [hr];simp),if_neg hk,ha]
    have hlen:L.length<3840:=by unfold jZ at ha;rw [hp] at ha;simp only [Option.isSome_none,Bool.false_eq_true,if_false] at ha;split at ha;exact absurd ha (by decide);omega
    exact HQ.out _ _ ⟨0,_,_,j,⟨hc0.symm,fun _=>⟨ps,L,id,HS.out,hd,hp,i0,i1,i2,rfl,rfl⟩⟩,fun _=>HT.out.make hd i0 i1 i2 hn hkd hnm hp hlen,.inl ⟨rfl,rfl⟩,dd,hj,hs⟩
   have hE:=HT.out.dirs _ _ hd;obtain ⟨d,hdE⟩:∃ d,fD T ps=d:=⟨_,rfl⟩
   obtain ⟨nm,hnE⟩:∃ nm,cQ ps=nm:=⟨_,rfl⟩
   rw [hdE,hnE] at Hok ⊢;rw [hnE] at hmc2 hnm hp;rw [hdE] at hd;have hB:=h3.alloc (.cells #[.int .i64 (d:Int),.string (str nm)] 92 (0,0));have dB:=ae ((d2.trans d3).alloc (.cells #[.int .i64 (d:Int),.string (str nm)] 92 (0,0)));have hC:=hB.to (by ac_rfl:_=vA x b v T k*(pt w3.heap.size (.cells #[.int .i64 (d:Int),.string (str nm)] 92 (0,0))*(eK u ps*(aA pc p*(aF kc kd*F)))));have hr:=ae (Et (nm:=nm) hd hC);have s0:(w3.alloc (.cells #[.int .i64 (d:Int),.string (str nm)] 92 (0,0))).cell? ⟨w3.heap.size,0,none⟩=some (.int .i64 (d:Int)):=hB.cell 0;have s1:(w3.alloc (.cells #[.int .i64 (d:Int),.string (str nm)] 92 (0,0))).cell? ⟨w3.heap.size,1,none⟩=some (.string (str nm)):=hB.cell 1;have HD:=ae hd;have HE:=ae hE;have HN:=ae hnm;have HP:=ae hp;have HM2:=ae hmc2;clear hB hC h3 d2 d3 hd hE hnm hp hmc2 hdE hnE hfr hne HMC HS HOK
   go_wp2_with fail
   generalize w3.alloc (.cells #[.int .i64 (d:Int),.string (str nm)] 92 (0,0))=w4 at *;generalize w3.heap.size=sp at *;refine hr.out.mono ?_;rintro e w5 ⟨he,d5,h5⟩;have D5:=ae (dB.out.trans d5);clear hr dB d5 s0 s1;rcases he with ⟨hr0,rfl⟩|⟨hc,rfl⟩
   ·have hv:=h5.to (by unfold vA;ac_rfl:_=et x b (gG T) k*(pt v (bV b n)*(aF kc kd*(pt sp (.cells #[.int .i64 (d:Int),.string (str nm)] 92 (0,0))*(eK u ps*(aA pc p*F))))))
    have k0:w5.cell? ⟨v,0,none⟩=some (ax b)∧w5.cell? ⟨v,1,none⟩=some (.int .i64 (n:Int))∧w5.cell? ⟨kc,0,none⟩=some (.int .i64 kd):=⟨hv.ag.cell 0,hv.ag.cell 1,hv.aq.cell 0⟩
    have HV:=ae hv
    by_cases hk0:k=0
    ·have hc7:(7:Int)=fQ T k p:=by rw [HM2.out,if_neg (by rw [hr0];simp),if_pos hk0]
     exact absurd (hc7.trans hgd) (by decide)
    ·have hnew:=ae fun w' (h':Sat w' (et x b (gG T) k*(pt v (bV b n)*(aF kc kd*(pt sp (.cells #[.int .i64 (d:Int),.string (str nm)] 92 (0,0))*(eK u ps*(aA pc p*F)))))))=>Ps h' hkd (by omega)
     have Hck:=ae fun w=>du w;clear hv h5
     go_wp2_with fail
     go_region_held3 (fun w'=>w'.cell? ⟨v,0,none⟩=some (ax b)∧w'.cell? ⟨v,1,none⟩=some (.int .i64 (n:Int))∧w'.cell? ⟨kc,0,none⟩=some (.int .i64 kd))
      (first|exact k0|exact k1|go_keep)
      (first|(go_at_call 68;refine (hnew.out _ HV.out.drew).mono ?_;rintro e w6 ⟨id,rfl,i0,i1,i2,d6,h6⟩;have k1:w6.cell? ⟨v,0,none⟩=some (ax b)∧w6.cell? ⟨v,1,none⟩=some (.int .i64 (n:Int))∧w6.cell? ⟨kc,0,none⟩=some (.int .i64 kd):=⟨h6.ag.cell 0,h6.ag.cell 1,h6.aq.cell 0⟩))
     rename_i hHeld;clear hHeld k0 k1
     have i0':T id=none:=by unfold gG at i0;cases hx:T id with
      | none=>rfl
      | some y=>rw [hx] at i0;cases i0
     have hne':d≠id:=by rintro rfl;rw [HD.out] at i0';cases i0'
     rw [← Df hkd,xx] at h6;have h7:=h6.to (by unfold vA;ac_rfl:_=vA (x.more 3) b v (eS T id (some (lE kd))) (k-1)*(pt sp (.cells #[.int .i64 (d:Int),.string (str nm)] 92 (0,0))*(eK u ps*(aA pc p*(aF kc kd*F)))));have ha:=ae (zq (x:=x.more 3) (child:=id) i1 (by omega) (show eS T id (some (lE kd)) d=some (.dir L) by rw [aQ _ _ hne'];exact HD.out) HE.out HN.out h7);have s0:w6.cell? ⟨sp,0,none⟩=some (.int .i64 (d:Int)):=h7.ag.cell 0;have s1:w6.cell? ⟨sp,1,none⟩=some (.string (str nm)):=h7.ag.cell 1;have D6:=ae (D5.out.drew.trans d6);clear hnew HV h6 h7 d6 i0
     go_wp2_with fail
     refine (Hck.out _).mono ?_;rintro e w7 ⟨rfl,rfl⟩
     go_wp2_with fail
     refine ha.out.mono ?_;rintro e w8 hq;rcases hq with ⟨ha0,rfl,d8,h8⟩|⟨ha0,rfl,d8,h8⟩
     ·have hmk:lr (eS T id (some (lE kd))) d (L++[⟨id,nm⟩])=Kw T d id nm kd:=by unfold Kw lr;rw [HD.out];rfl
      rw [hmk] at h8;have hfin:=ae (Hok.out id i0' i1 i2 ha0 hr0 hk0 8 (by decide) _ (D6.out.trans d8) (h8.to (by unfold Pg;ac_rfl:_=(eK u ps*pt sp (.cells #[.int .i64 (d:Int),.string (str nm)] 92 (0,0)))*(vA (x.more 8) b v (Kw T d id nm kd) (Pg k L)*(aA pc p*(aF kc kd*F))))).right);clear ha h8 s0 s1
      go_wp2_with fail
      go_end0
      exact hfin.out
     ·exact absurd ((by rw [HM2.out,if_neg (by rw [hr0];simp),if_neg hk0]:fQ T k p=_).symm.trans hgd) ha0
   ·have h9:oN L=9:=by unfold oN at hc ⊢;split;rfl;rename_i q;rw [if_neg q] at hc;exact absurd rfl hc
    exact absurd ((by rw [HM2.out,if_pos hc]:fQ T k p=9).symm.trans hgd) (by decide)
  ·exact absurd ((by rw [HMC.out,if_pos hc]:fQ T k p=_).symm.trans hgd) hc
end
end Go.Cl

/- Steps. -/
import Derived.Test.YtacliaemfegopaaGreatDoorKP7
import Derived.Test.YtacliaemfegopaaGreatDoorKP8
import Derived.TacticsInMore
import Derived.LoopNIn
import Derived.LoopIn
set_option linter.unusedVariables false
set_option linter.unusedSimpArgs false
set_option maxRecDepth 100000
set_option maxHeartbeats 40000000
open Go.Proofs Go.SL
namespace Go.Nn
open Go.RowKit Go.SL
attribute [local go_sem] Oper.semAt_some
theorem kh {P:Program} {f:FuncId} {args:Array Value} {w:World} {R R':Ending→World→Prop} {n m:Nat} (h:Calls P f args w R) (hr:∀ e w,R e w→R' e w) :
  Fence.wide.fn f∧(Fence.wide.depth.isSome=true→1≤m)∧CallsIn Fence.wide n P f args w R':=⟨trivial,fun h=>(by cases h),(callsIn_wide.2 h).mono hr⟩
theorem l8 {P:Program} {f:FuncId} {args:Array Value} {w:World} {R R':Ending→World→Prop} {n:Nat} (h:Calls P f args w R) (hr:∀ e w,R e w→R' e w) :
  Fence.wide.fn f∧CallsIn Fence.wide n P f args w R':=⟨trivial,(callsIn_wide.2 h).mono hr⟩
theorem qF {P:Program} {f:FuncId} {args:Array Value} {w:World} {R R':Ending→World→Prop} {n l:Nat} (h:Calls P f args w R) (hr:∀ e w,R e w→R' e w) :
  Fence.wide.fn f∧CallsIn (Fence.wide.inRound l) n P f args w R':=⟨trivial,CallsIn.inRound l ((callsIn_wide.2 h).mono hr)⟩
def Ki (p:Option Addr) (w:World) (e:Ending) (w':World):Prop:=e = .returned (.func (.func 268) #[] #[.pointer (some ⟨w.heap.size,0,none⟩)])∧w'=w.alloc (.cells #[.pointer p] 24 (0,0))
theorem ze (w:World) (p:Option Addr):Calls Tryz.prog 247 #[.pointer p] w (Ki p w):=by
 go_enter Tryz.func247,Tryz.ntmps247
 go_wp2
 go_ret
 exact ⟨rfl,rfl⟩
def fV (bx:Nat) (x:Dx) (S:Hp) (d:Nat) (D:ay):ah:=pt bx (.cells #[.pointer (some ⟨d,0,none⟩)] 24 (0,0))*fO x S d D
def GB (z:Int × Value × List UInt8) (vs:Array Value):ah:=fact (vs=#[.agg #[.int .i64 z.1,z.2.1]]∧∃ a n c,z.2.1 = .slice a n c)
def DG (A:Zs→ah) (Z:Zs) (X:ah) (w0:World) (i:Value) (wr:World):Prop:=
 ∃ k:Nat,k≤Z.length∧i = .int .i64 ((k:Int)-1)∧ai w0 wr∧Sat wr (A (Z.reverse.take (Z.length-k))*X)
theorem GL (Z:Zs) (k:Nat) (h:k<Z.length):Z.reverse.take (Z.length-(k+1))++[Z[k]]=Z.reverse.take (Z.length-k):=by
 have e:Z.length-k=(Z.length-(k+1))+1:=by omega
 rw [e,List.take_succ_eq_append_getElem (by simp;omega)];congr 2;rw [List.getElem_reverse];congr 1;omega
theorem yS (n:Nat) (x:Dx) (S:Hp) (bx d:Nat) (D:ay) (hD:D.wait.length≤1000000) :
  fE Fence.wide n Tryz.prog 268 #[.pointer (some ⟨bx,0,none⟩)] (fV bx x S d D) GB (fun ys=>ys=x.Z.reverse) (fun ys=>ys <+: x.Z.reverse):=by
 intro l A Ax G w0 w hY hs h0;have hB:Sat w (fO x S d D*(pt bx (.cells #[.pointer (some ⟨d,0,none⟩)] 24 (0,0))*(A []*G))):=h0.to (by unfold fV;ac_rfl);have hbx:=hB.ag.cell 0;obtain ⟨wa,wc,hwv⟩:=hB.Ov;have hZ:=hB.oE;have k1:w.cell? ⟨d,1,none⟩=some (.slice wa x.Z.length wc):=(hB.cM 1).trans (by rw [hZ];simp only [Dx.cells,hwv];rfl);have Hwv:=ae hwv;have hn:(x.Z.length:Int)≤1000000:=by omega
 have hstart:Sat w (A (x.Z.reverse.take (x.Z.length-x.Z.length))*(fV bx x S d D*G)):=by rw [Nat.sub_self,List.take_zero];exact h0
 have HZ:=ae hZ;clear hwv hB hZ;refine callsIn_of_wp Tryz.func268 rfl trivial ?_ rfl;simp only [Tryz.ntmps268,List.size_toArray,List.length_cons,List.length_nil,Nat.reduceAdd,Nat.reduceSub,Array.replicate_succ,Array.replicate_zero,List.push_toArray,List.append_toArray,List.nil_append,List.cons_append]
 gi_wp2
 gi_loopw [3] (fun i wr=>DG A x.Z (fV bx x S d D*G) w0 i wr) (fun i _=>(intOf i+1).toNat)
 case atStart=>exact ⟨x.Z.length,Nat.le_refl _,rfl,hs,hstart⟩
 case round=>
  obtain ⟨k,hk,rfl,hside,hsat⟩:=hrel;have hB:Sat wr (fO x S d D*(pt bx (.cells #[.pointer (some ⟨d,0,none⟩)] 24 (0,0))*(A (x.Z.reverse.take (x.Z.length-k))*G))):=hsat.to (by unfold fV;ac_rfl);have hbx:=hB.ag.cell 0;have k1:wr.cell? ⟨d,1,none⟩=some (.slice wa x.Z.length wc):=(hB.cM 1).trans (by rw [HZ.out];simp only [Dx.cells,Hwv.out];rfl)
  match k,hk,hsat,hB with
  | 0,_,hsat,hB=>
   have hfin:x.Z.reverse.take (x.Z.length-0)=x.Z.reverse:=by rw [Nat.sub_zero,← List.length_reverse,List.take_length]
   rw [hfin] at hsat
   gi_wp2
   go_end0
   exact ⟨⟨_,rfl⟩,hside,.inl ⟨_,rfl,hsat⟩⟩
  | k+1,hk,hsat,hB=>
   have hkl:k<x.Z.length:=by omega
   have hk':(k:Int)<(x.Z.length:Int):=by omega
   have hkm:(((k+1:Nat):Int)-1)=(k:Int):=by omega
   have hsl:=hB.bd.2.aq;obtain ⟨g,c,hg⟩:=po hsl (by omega);have hga:wa=some ⟨g,0,none⟩∧wc=c:=by rw [Hwv.out,← HZ.out] at hg;exact ⟨(Value.slice.inj hg).1,(Value.slice.inj hg).2.2⟩
   obtain ⟨rfl,rfl⟩:=hga;rw [hg] at hsl;obtain ⟨hc0,hc1⟩:=hsl.jm hkl;have hen:=GL x.Z k hkl;obtain ⟨z,hz⟩:∃ z,x.Z[k]=z:=⟨_,rfl⟩
   rw [hz] at hc0 hc1 hen;have Hen:=ae hen;have hpre:x.Z.reverse.take (x.Z.length-(k+1))++[z] <+: x.Z.reverse:=by rw [hen];exact List.take_prefix _ _
   have Hpre:=ae hpre
   have hshape:∃ a n c,z.2.1 = .slice a n c:=by
    obtain ⟨a,c,hh⟩:=ij (hB.bd.1.wvals z (by rw [← hz];exact List.getElem_mem hkl));exact ⟨_,_,_,hh⟩
   have hT:Sat wr (A (x.Z.reverse.take (x.Z.length-(k+1)))*(GB z #[.agg #[.int .i64 z.1,z.2.1]]*(fV bx x S d D*G))):=
    (Sat.ak.2 ⟨(⟨rfl,hshape⟩:(#[Value.agg #[.int .i64 z.1,z.2.1]]:Array Value)=#[.agg #[.int .i64 z.1,z.2.1]]∧∃ a n c,z.2.1 = .slice a n c),hsat⟩:Sat wr (fact _*_)).to (by unfold GB;ac_rfl)
   obtain ⟨fn,tmps,assign,body,hy,hR⟩:=hY _ z #[.agg #[.int .i64 z.1,z.2.1]] _ wr Hpre.out hside hT;rw [hkm]
   gi_wp2
   refine ⟨fun h=>(by cases h),hR.mono ?_⟩;rintro e W' (⟨rfl,hs5,hsat5⟩|⟨rfl,hs5,hsat5⟩)
   ·gi_wp2
    go_roundw
    case rel=>exact ⟨k,by omega,rfl,hs5,by rw [← Hen.out];exact hsat5⟩
    case measure=>simp [intOf]
   ·gi_wp2
    refine bodyPost_ret (results_none rfl _ _ _) rfl ?_;exact ⟨⟨_,rfl⟩,hs5,.inr ⟨_,Hpre.out,hsat5⟩⟩
def jN (S:Hp) (d:Nat) (D:ay) (A:Int × List UInt8) (F:ah) (w:World) (e:Ending) (w':World):Prop:=
 ∃ dv,e = .returned (.tuple #[dv,.int .i64 A.1])∧Sat w' (nM 5 A dv*(aK S d D*(aj S*F)))∧ai w w'
def rk (S:Hp) (b3 r4 r5:Nat) (a:Int) (dv:Value) (c:Int):ah:=
 pt b3 (.cells #[.int .i64 a] 3 (0,0))*(pt r4 (.cells #[dv] 37 (0,0))*(pt r5 (.cells #[.int .i64 c] 28 (0,0))*aj S))
def kz (S:Hp) (b3 r4 r5:Nat) (a:Int) (ys:Zs):ah:=fact (∀ z ∈ ys,¬ z.1=a)*rk S b3 r4 r5 a (.slice none 0 0) 0
def Fo (S:Hp) (b3 r4 r5:Nat) (a:Int) (c:Code) (ys:Zs):ah:=ex fun p:Zs × (Int × Value × List UInt8) × Nat=>
 fact (c = .ret∧ys=p.1++[p.2.1]∧(∀ z ∈ p.1,¬ z.1=a)∧p.2.1.1=a)*(pt p.2.2 (.cells (dp (bJ 512 p.2.1.2.2)) 5 (0,0))*rk S b3 r4 r5 a (.slice (some ⟨p.2.2,0,none⟩) 512 512) 0)
def Pv (S:Hp) (b3 r4 r5 bx d:Nat) (a c1 c0:Int) (pre:Zs) (z:Int × Value × List UInt8) (a':Act):ah:=ex fun bz=>
 fact (a'={ tmps:=#[.pointer (some ⟨d,0,none⟩),.int .i64 a,undef,.pointer (some ⟨b3,0,none⟩),.pointer (some ⟨r4,0,none⟩),.pointer (some ⟨r5,0,none⟩),.int .i64 0,.pointer (some ⟨bz,0,none⟩),undef,undef,.pointer (some ⟨d,0,none⟩),.int .i64 a,.bool true,.bool false,.pointer (some ⟨d,0,none⟩),.int .i64 0,.int .i64 0,.bool false,undef,.pointer (some ⟨d,0,none⟩),.pointer (some ⟨d,0,none⟩),.pointer (some ⟨d,3,none⟩),.pointer (some ⟨d,3,none⟩),.int .i64 c0,.int .i64 c1,.pointer (some ⟨d,0,none⟩),.pointer (some ⟨d,3,none⟩),.pointer (some ⟨d,3,none⟩),.pointer (some ⟨d,0,none⟩),.func (.func 268) #[] #[.pointer (some ⟨bx,0,none⟩)],.agg #[.int .i64 z.1,z.2.1],undef,undef,undef,undef,undef,undef,undef,undef,undef,undef,undef,undef,undef,undef,undef,undef,undef,undef,undef,undef,undef,undef,undef,undef,undef],defers:=[] })*(pt bz (.cells #[.int .i64 z.1,z.2.1] 230 (0,0))*kz S b3 r4 r5 a pre)
theorem Ez (w:World):(zeroValue 202).run Tryz.prog w = .ok (.agg #[]) w:=by kernel_rfl
theorem En (t:List (Int × Unit)) (a:Int):(aH (gq t) a).getD (.agg #[]) = .agg #[]:=by
 have:=ju (fun _:Unit=>Value.agg #[]) t a;rw [gq,this];cases aH t a <;> rfl
theorem Ai {Z:Zs} {l:List (Int × List UInt8)} {a:Int} (e:Z.map (fun z=>(z.1,z.2.2))=l) (h:∀ z ∈ Z.reverse,¬ z.1=a):dQ l a=none:=by
 subst e;rw [dQ,Option.map_eq_none_iff,List.find?_eq_none];intro p hp;rw [List.mem_reverse,List.mem_map] at hp;obtain ⟨z,hz,rfl⟩:=hp;simpa using h z (by simpa using hz)
theorem yx {Z:Zs} {l:List (Int × List UInt8)} {a:Int} (e:Z.map (fun z=>(z.1,z.2.2))=l) {pre:Zs} {z:Int × Value × List UInt8} (hp:pre++[z] <+: Z.reverse) (h:∀ z ∈ pre,¬ z.1=a) (hz:z.1=a):dQ l a=some z.2.2:=by
 subst e;obtain ⟨t,ht⟩:=hp;rw [dQ,← List.map_reverse,← ht,List.append_assoc,List.map_append,List.find?_append,List.find?_eq_none.2]
 ·simp [hz]
 ·intro p hp
  obtain ⟨z,hz,rfl⟩:=List.mem_map.1 hp;simpa using h z hz
theorem oC {w:World} {T:TypeId} {g n:Nat} {l:List UInt8} {F:ah} (hl:l.length=n) (h:Sat w (pt g (.cells (dp l) T (0,0))*F)) (hn:n≤1000000:=by omega):Sat w (bs T (.slice (some ⟨g,0,none⟩) n n) l*F):=by
 have h2:=Sat.l7 (sz:=1) (n:=n) (cap:=n) h (Nat.le_refl n) (by unfold maxLen;omega) (by rw [ez,hl,Nat.mul_one]);refine h2.to ?_;have e:(dp l).toList.take (n*1)=l.map u8:=List.take_of_length_le (by rw [dp,List.toList_toArray,List.length_map,hl,Nat.mul_one];exact Nat.le_refl _);rw [e,bs,hl]
theorem eH {tmps:Array Value} {w:World} {r4 r5:Nat} {v u:Value} (h4:tmps[4]?=some (.pointer (some ⟨r4,0,none⟩))) (h5:tmps[5]?=some (.pointer (some ⟨r5,0,none⟩))) (c4:w.cell? ⟨r4,0,none⟩=some v) (c5:w.cell? ⟨r5,0,none⟩=some u) :
  (results Tryz.f228 tmps).run Tryz.prog w = .ok (.tuple #[v,u]) w:=by
 simp [results,Tryz.results228,go_sem,h4,h5,c4,c5]
theorem MK (w:World) (S:Hp) (d:Nat) (D:ay) (a:Int) (F:ah) (h:Sat w (aK S d D*(aj S*F))) (hD:D.Ok) (hh:D.has a) (hb:D.cD=0) :
  Calls Tryz.prog 228 #[.pointer (some ⟨d,0,none⟩),.int .i64 a] w (jN S d { D.begun with cr:=bU (D.begun.cr+1) } (D.begun.bT a) F w):=by
 have hok:=hD.up hb;obtain ⟨D1,hD1⟩:∃ D1,D1=D.begun:=⟨_,rfl⟩
 have hh1:D1.has a:=by rw [hD1,ay.yW hb];exact hh
 rw [← hD1] at hok ⊢;have HD1:=ae hD1;clear hD1;have hA:=((h.alloc (.cells #[.int .i64 a] 3 (0,0))).alloc (.cells #[.slice none 0 0] 37 (0,0))).alloc (.cells #[.int .i64 0] 28 (0,0));have hs1:=(((ai.refl w).alloc (.cells #[.int .i64 a] 3 (0,0))).alloc (.cells #[.slice none 0 0] 37 (0,0))).alloc (.cells #[.int .i64 0] 28 (0,0));rw [World.size_alloc,World.size_alloc] at hA;refine (callsIn_wide (n:=9)).1 ?_;refine callsIn_of_wp_marks Tryz.func228 rfl trivial ?_ rfl;simp only [Tryz.ntmps228,List.size_toArray,List.length_cons,List.length_nil,Nat.reduceAdd,Nat.reduceSub,Array.replicate_succ,Array.replicate_zero,List.push_toArray,List.append_toArray,List.nil_append,List.cons_append]
 gi_wp2_with fail
 generalize ((w.alloc (.cells #[.int .i64 a] 3 (0,0))).alloc (.cells #[.slice none 0 0] 37 (0,0))).alloc (.cells #[.int .i64 0] 28 (0,0))=w1 at hA hs1 ⊢;generalize w.heap.size+1+1=r5 at hA ⊢;generalize w.heap.size+1=r4 at hA ⊢;generalize w.heap.size=b3 at hA ⊢;have H1:Sat w1 (aK S d D*(aj S*(pt b3 (.cells #[.int .i64 a] 3 (0,0))*(pt r4 (.cells #[.slice none 0 0] 37 (0,0))*(pt r5 (.cells #[.int .i64 0] 28 (0,0))*F))))):=hA.to (by ac_rfl);have ch:=mH w1 S d D a _ H1;rw [show decide (D.has a)=true by simpa using hh] at ch;have cb:=nk w1 S d D _ H1 hD;rw [hb,← HD1.out] at cb;clear hA h hb hD;refine l8 ch ?_;rintro e w1 ⟨rfl,rfl⟩;clear ch
 gi_wp2_with fail
 refine l8 cb ?_;rintro e w2 ⟨rfl,H2,d2⟩;clear cb H1;obtain ⟨x,hx⟩:=H2.vz;have hfit:=hx.bd.1;have k3:w2.cell? ⟨d,3,none⟩=some (.int .i64 D1.cr):=hx.cM 3;have kf:=hx.nt
 have hx3:Sat (w2.setCell ⟨d,3,none⟩ (.int .i64 (bU (D1.cr+1)))) (fO x S d { D1 with cr:=bU (D1.cr+1) }*(aj S*(pt b3 (.cells #[.int .i64 a] 3 (0,0))*(pt r4 (.cells #[.slice none 0 0] 37 (0,0))*(pt r5 (.cells #[.int .i64 0] 28 (0,0))*F))))):=
  Sat.iC ⟨hfit.sec,hfit.vals,hfit.wait,hfit.wvals⟩ (hx.bd.2.setCell 3 (.int .i64 (bU (D1.cr+1))))
 have hs3:=(hs1.trans d2).setCell ⟨d,3,none⟩ (.int .i64 (bU (D1.cr+1)))
 gi_wp2_with fail
 generalize w2.setCell ⟨d,3,none⟩ (.int .i64 (wrap64 (D1.cr+1)))=w3 at hx3 hs3 ⊢;clear k3 kf hx H2 hs1 d2;refine l8 (ze w3 _) ?_;rintro e w4 ⟨rfl,rfl⟩;have H4:=hx3.alloc (.cells #[.pointer (some ⟨d,0,none⟩)] 24 (0,0));have hs4:=hs3.alloc (.cells #[.pointer (some ⟨d,0,none⟩)] 24 (0,0))
 gi_wp2_with fail
 generalize w3.alloc (.cells #[.pointer (some ⟨d,0,none⟩)] 24 (0,0))=w4 at H4 hs4 ⊢;generalize w3.heap.size=bx at H4 ⊢
 have hstart:Sat w4 (kz S b3 r4 r5 a []*(fV bx x S d { D1 with cr:=bU (D1.cr+1) }*F)):=
  (Sat.ak.2 ⟨fun z hz=>(by cases hz),H4⟩:Sat w4 (fact _*_)).to (by unfold kz rk fV;ac_rfl)
 refine jl (w0:=w) rfl (by decide) (gf:=268) (lb:=#[.pointer (some ⟨bx,0,none⟩)]) rfl trivial (enters Tryz.func268 (by kernel_rfl) rfl)
  (yS _ x S bx d { D1 with cr:=bU (D1.cr+1) } hok.many) (kz S b3 r4 r5 a) (Fo S b3 r4 r5 a) (Pv S b3 r4 r5 bx d a (wrap64 (D1.cr+1)) D1.cr) F ?hps hs4 hstart ?assign ?body ?done ?stop
 case hps=>
  intro z vs Fr W H;obtain ⟨⟨rfl,_⟩,_⟩:=Sat.ak.1 H
  rfl
 case assign=>
  intro l r pre z vs Fr W K _ hsd H hK;obtain ⟨⟨rfl,da,dn,dc,hz⟩,H2⟩:=Sat.ak.1 (H.to (aD _ _ _));obtain ⟨q,dv,zl⟩:=z;simp only at hz;subst hz;have H3:=H2.alloc (.cells #[.int .i64 q,.slice da dn dc] 230 (0,0));clear H H2 H4 hstart hx3
  gi_wp2
  refine hK _ _ (hsd.alloc _) (Sat.au.2 ⟨W.heap.size,(Sat.ak.2 ⟨rfl,H3⟩:Sat _ (fact _*_)).to (by ac_rfl)⟩)
 case body=>
  intro l r pre z a' Fr W hp hsd H;obtain ⟨bz,H1⟩:=Sat.au.1 H;obtain ⟨rfl,H2⟩:=Sat.ak.1 (H1.to (aw _ _ _))
  have hzm:z ∈ x.Z:=by
   obtain ⟨t,ht⟩:=hp;have:z ∈ x.Z.reverse:=by rw [← ht];simp
   simpa using this
  have hval:=hfit.wvals z hzm;obtain ⟨da,dc,hdv⟩:=ij hval;obtain ⟨q,dv,zl⟩:=z;simp only at hdv hval;subst hdv;have H3:Sat W (kz S b3 r4 r5 a pre*(pt bz (.cells #[.int .i64 q,.slice da zl.length dc] 230 (0,0))*(pt l (.loop r)*Fr))):=H2.to (by ac_rfl);obtain ⟨hpre,J4⟩:=Sat.ak.1 (H3.to (aw _ _ _));have H5:Sat W (aj S*(pt b3 (.cells #[.int .i64 a] 3 (0,0))*(pt r4 (.cells #[.slice none 0 0] 37 (0,0))*(pt r5 (.cells #[.int .i64 0] 28 (0,0))*(pt bz (.cells #[.int .i64 q,.slice da zl.length dc] 230 (0,0))*(pt l (.loop r)*Fr)))))):=J4.to (by unfold rk;ac_rfl);have c3:=H5.ag.cell 0;have cz0:=H5.aG.cell 0;have cz1:=H5.aG.cell 1;have hrd:=hval.rd H5;have hzl:zl.length≤9223372036854775807:=by have:=hval.1;unfold small at this;omega
  have Hp:=ae hpre
  by_cases hq:q=a
  ·have hqb:(q == a)=true:=by simpa using hq
   have Hq:=ae hq;clear hq
   gi_wp2_with fail
   refine qF (jI W _ zl hrd hzl) ?_;rintro e w5 ⟨g,rfl,h5,d5⟩;have H6:=h5.under H5;have c4:=H6.aC.cell 0;have f4:=H6.aC.frozen;have c5:=H6.aG.cell 0;have f5:=H6.aG.frozen;have c5':=(H6.aC.setCell 0 (.slice (some ⟨g,0,none⟩) 512 512)).aG.cell 0;have f5':=(H6.aC.setCell 0 (.slice (some ⟨g,0,none⟩) 512 512)).aG.frozen;have hne:r4≠r5:=(H6.aG.aG).ne;have H7:=((H6.aC.setCell 0 (.slice (some ⟨g,0,none⟩) 512 512)).rB.aG.setCell 0 (.int .i64 0)).vp;clear c3 cz0 cz1 hrd H5 h5 H6
   gi_wp2
   refine ⟨((hsd.trans d5).setCell _ _).setCell _ _,Sat.au.2 ⟨(pre,(q,.slice da zl.length dc,zl),g),(Sat.ak.2 ⟨(⟨rfl,rfl,Hp.out,Hq.out⟩:Code.ret = .ret∧pre++[(q,Value.slice da zl.length dc,zl)]=pre++[(q,Value.slice da zl.length dc,zl)]∧(∀ z ∈ pre,¬ z.1=a)∧q=a),H7.QB⟩:Sat _ (fact _*_)).to ?_⟩⟩;unfold rk;simp only [List.setIfInBounds_toArray,List.set_cons_zero]
   ac_rfl
  ·have hqb:(q == a)=false:=by simpa using hq
   gi_wp2
   refine ⟨hsd,(Sat.ak.2 ⟨?_,H5.Qe⟩:Sat _ (fact _*_)).to (by unfold kz rk;ac_rfl)⟩;intro z hz;rcases List.mem_append.1 hz with hz|hz
   ·exact Hp.out z hz
   ·rw [List.mem_singleton.1 hz];exact hq
 case done=>
  intro D2 ys W hS hsd H;subst hS;have H2:=H;obtain ⟨hno,H3⟩:=Sat.ak.1 (H2.to (aw _ _ _));have hnew:dQ D1.wait a=none:=Ai hfit.wait hno;clear hno hstart H4 hx3 H H2
  have H5:Sat W (fO x S d { D1 with cr:=bU (D1.cr+1) }*(aj S*(pt b3 (.cells #[.int .i64 a] 3 (0,0))*(pt r4 (.cells #[.slice none 0 0] 37 (0,0))*(pt r5 (.cells #[.int .i64 0] 28 (0,0))*(pt D2 (.deferred (some []))*F)))))):=
   (H3.to (by unfold rk fV;ac_rfl:_=pt bx (.cells #[.pointer (some ⟨d,0,none⟩)] 24 (0,0))*_)).right
  obtain ⟨BIG,hBIG⟩:∃ X,X=fO x S d { D1 with cr:=bU (D1.cr+1) }*(aj S*(pt b3 (.cells #[.int .i64 a] 3 (0,0))*(pt r4 (.cells #[.slice none 0 0] 37 (0,0))*(pt r5 (.cells #[.int .i64 0] 28 (0,0))*(pt D2 (.deferred (some []))*F))))):=⟨_,rfl⟩
  rw [← hBIG] at H5;have g2:∀ w',Sat w' BIG→w'.cell? ⟨d,2,none⟩=some (.map (some x.tm)):=fun w' h=>(hBIG▸h).cM 2;have g3:∀ w',Sat w' BIG→w'.cell? ⟨b3,0,none⟩=some (.int .i64 a):=fun w' h=>(hBIG▸h).aq.cell 0
  have gl:∀ w',Sat w' BIG→(Instr.lookup 102 (.map (some x.tm)) (.int .i64 a) true).run Tryz.prog w' = .ok (.tuple #[.agg #[],.bool (aH D1.torn a).isSome]) w':=fun w' h=>by
   have:=(hBIG▸h).bd.2.aC.lookup (P:=Tryz.prog) Tryz.underlying102 Tryz.underlying3 (Ez w') a true;rw [this,En,AD];rfl
  have HAl:Sat (W.drew.alloc (.cells #[] 202 (0,0))) BIG:=(Sat.alloc (w:=W.drew) H5 _).right;have HB:=ae hBIG;clear hBIG H3
  gi_wp2
  refine wpIn_wide.2 ?_
  go_region_held3 (fun w'=>Sat w' BIG) (first|assumption|exact H5.drew|exact HAl) (fail)
  ·have HAl':Sat (W.alloc (.cells #[] 202 (0,0))).drew BIG:=HAl
   have hs6:=(hsd.alloc (.cells #[] 202 (0,0))).drew;clear gl HAl H5;generalize (W.alloc (.cells #[] 202 (0,0))).drew=W6 at hs6 HAl' ⊢;generalize W.heap.size=bt;have H6:=HB.out▸HAl'
   by_cases ht:(aH D1.torn a).isSome=true
   ·have hT:D1.bT a=(3,[]):=by rw [ay.bT,hnew];simp only [ht,if_true]
    have c4:=H6.aC.cell 0;have f4:=H6.aC.frozen;have c5:=H6.aG.cell 0;have f5:=H6.aG.frozen;have c5':=(H6.aC.setCell 0 (.slice none 0 0)).aG.cell 0;have f5':=(H6.aC.setCell 0 (.slice none 0 0)).aG.frozen;have hne:r4≠r5:=(H6.aG.aG).ne;have H7:=((H6.aC.setCell 0 (.slice none 0 0)).aG.setCell 0 (.int .i64 3))
    have HT:=ae hT;have HB6:=ae H6;clear hT H6 hnew hh HAl' g2 g3 HB;rw [ht]
    go_wp2
    gi_wp2
    refine ⟨by simp,.inl ⟨_,_,rfl,run_takeDeferred H7.dj.heap,?_⟩⟩;have H8:=H7.dj.putObj (.deferred none);refine ⟨.tuple #[.slice none 0 0,.int .i64 3],eH rfl rfl (H8.aq.cell 0) (H8.ag.cell 0),_,by rw [HT.out],?_,((hs6.setCell _ _).setCell _ _).putObj _ _⟩;rw [HT.out];exact Sat.iL (Sat.devOf (H8.right.right.right.kD)) (by decide)
   ·simp only [Bool.not_eq_true] at ht
    have hle:x.Y.length=D1.sec.length:=by rw [← hfit.sec,List.length_map]
    obtain ⟨n,rfl⟩:=Int.eq_ofNat_of_zero_le hh1.1;have hnl:n<x.Y.length:=by have:=hh1.2;omega
    have hnl':(n:Int)<(x.Y.length:Int):=by omega
    have hT:D1.bT (n:Int)=(0,bJ 512 x.Y[n].2):=by
     rw [ay.bT,hnew];simp only [ht,Bool.false_eq_true,if_false,Int.toNat_natCast,← hfit.sec];simp [hnl]
    have hval:=hfit.vals _ (List.getElem_mem hnl);obtain ⟨va,vc,hv⟩:=ij hval;have hyc:(x.Y.map Prod.fst)[n]?=some (.slice va x.Y[n].2.length vc):=by rw [← hv];simp [hnl]
    rw [hv] at hval;generalize x.Y[n].2=yl at hT hval hyc;obtain ⟨B3,hB3⟩:∃ X,X=fO x S d { D1 with cr:=bU (D1.cr+1) }*(aj S*(pt b3 (.cells #[.int .i64 (n:Int)] 3 (0,0))*(pt D2 (.deferred (some []))*F))):=⟨_,rfl⟩
    have H7:Sat W6 (B3*(pt r4 (.cells #[.slice none 0 0] 37 (0,0))*pt r5 (.cells #[.int .i64 0] 28 (0,0)))):=H6.to (by rw [hB3];ac_rfl);have G0:∀ w',Sat w' B3→w'.cell? ⟨d,0,none⟩=some (.slice (some ⟨x.sg,0,none⟩) x.Y.length x.Y.length):=fun w' h=>(hB3▸h).cM 0;have G3:∀ w',Sat w' B3→w'.cell? ⟨b3,0,none⟩=some (.int .i64 (n:Int)):=fun w' h=>(hB3▸h).aq.cell 0;have Gs:∀ w',Sat w' B3→w'.cell? ⟨x.sg,n,none⟩=some (.slice va yl.length vc):=fun w' h=>((hB3▸h).bd.2.ag.cell n).trans (by simpa using hyc);have Gr:Hid (∀ w',Sat w' B3→Rd w' (.slice va yl.length vc) yl):=fun w' h=>hval.rd ((hB3▸h).ag);have hyl:yl.length≤9223372036854775807:=by have:=hval.1;unfold small at this;omega
    have HT:=ae hT;have HB3:=ae hB3;have Hnl:=ae hnl;clear hT H6 hnew hh hh1 HAl' g2 g3 HB hB3 hval hyc hv hnl hle;rw [ht]
    go_wp2
    gi_wp2
    refine wpIn_wide.2 ?_;have H70:=H7;have H7b:Sat W6.drew B3:=H7.left
    go_region_held3 (fun w'=>Sat w' B3) (first|assumption|exact H7b) (first
     | (go_at_call 217;(with_reducible refine (jI _ _ yl (Gr.out _ H7b) hyl).mono ?_);rintro e w7 ⟨g,rfl,h7,d7⟩;have J7:=h7.under H70;have Jb:Sat w7 B3:=J7.right.left;have K4:Sat w7 (pt r4 (.cells #[.slice none 0 0] 37 (0,0))*(pt r5 (.cells #[.int .i64 0] 28 (0,0))*(pt g (.cells (dp (bJ 512 yl)) 5 (0,0))*B3))):=J7.to (by ac_rfl);have c4:=K4.cell 0;have f4:=K4.frozen;have K5:=(K4.setCell 0 (.slice (some ⟨g,0,none⟩) 512 512)).ag;have c5:=K5.cell 0;have f5:=K5.frozen;have K6:=K5.setCell 0 (.int .i64 0);have S1:Sat (w7.setCell ⟨r4,0,none⟩ (.slice (some ⟨g,0,none⟩) 512 512)) B3:=K5.right.right.right;have S2:Sat ((w7.setCell ⟨r4,0,none⟩ (.slice (some ⟨g,0,none⟩) 512 512)).setCell ⟨r5,0,none⟩ (.int .i64 0)) B3:=K6.right.right.right))
    gi_wp2
    have K7:Sat ((w7.setCell ⟨r4,0,none⟩ (.slice (some ⟨g,0,none⟩) 512 512)).setCell ⟨r5,0,none⟩ (.int .i64 0)) (pt D2 (.deferred (some []))*(pt r5 (.cells #[.int .i64 0] 28 (0,0))*(pt r4 (.cells #[.slice (some ⟨g,0,none⟩) 512 512] 37 (0,0))*(pt g (.cells (dp (bJ 512 yl)) 5 (0,0))*(fO x S d { D1 with cr:=bU (D1.cr+1) }*(aj S*(pt b3 (.cells #[.int .i64 (n:Int)] 3 (0,0))*F))))))):=
     K6.to (by rw [HB3.out];simp only [List.setIfInBounds_toArray,List.set_cons_zero];ac_rfl)
    refine ⟨by simp,.inl ⟨_,_,rfl,run_takeDeferred K7.heap,?_⟩⟩;have K8:=K7.putObj (.deferred none);refine ⟨.tuple #[.slice (some ⟨g,0,none⟩) 512 512,.int .i64 0],eH rfl rfl (K8.aq.cell 0) (K8.ag.cell 0),_,by rw [HT.out],?_,(((hs6.drew.trans d7).setCell _ _).setCell _ _).putObj _ _⟩;rw [HT.out];have K9:=oC (bR 512 yl) K8.right.right.right;exact Sat.rq ((Sat.devOf K9.ag.jE).JL)
  ·have HAl':Sat (W.alloc (.cells #[] 202 (0,0))).drew BIG:=HAl
   have hs6:=(hsd.alloc (.cells #[] 202 (0,0))).drew;clear gl HAl H5;generalize (W.alloc (.cells #[] 202 (0,0))).drew=W6 at hs6 HAl' ⊢;generalize W.heap.size=bt;have H6:=HB.out▸HAl'
   by_cases ht:(aH D1.torn a).isSome=true
   ·have hT:D1.bT a=(3,[]):=by rw [ay.bT,hnew];simp only [ht,if_true]
    have c4:=H6.aC.cell 0;have f4:=H6.aC.frozen;have c5:=H6.aG.cell 0;have f5:=H6.aG.frozen;have c5':=(H6.aC.setCell 0 (.slice none 0 0)).aG.cell 0;have f5':=(H6.aC.setCell 0 (.slice none 0 0)).aG.frozen;have hne:r4≠r5:=(H6.aG.aG).ne;have H7:=((H6.aC.setCell 0 (.slice none 0 0)).aG.setCell 0 (.int .i64 3))
    have HT:=ae hT;have HB6:=ae H6;clear hT H6 hnew hh HAl' g2 g3 HB;rw [ht]
    go_wp2
    gi_wp2
    refine ⟨by simp,.inl ⟨_,_,rfl,run_takeDeferred H7.dj.heap,?_⟩⟩;have H8:=H7.dj.putObj (.deferred none);refine ⟨.tuple #[.slice none 0 0,.int .i64 3],eH rfl rfl (H8.aq.cell 0) (H8.ag.cell 0),_,by rw [HT.out],?_,((hs6.setCell _ _).setCell _ _).putObj _ _⟩;rw [HT.out];exact Sat.iL (Sat.devOf (H8.right.right.right.kD)) (by decide)
   ·simp only [Bool.not_eq_true] at ht
    have hle:x.Y.length=D1.sec.length:=by rw [← hfit.sec,List.length_map]
    obtain ⟨n,rfl⟩:=Int.eq_ofNat_of_zero_le hh1.1;have hnl:n<x.Y.length:=by have:=hh1.2;omega
    have hnl':(n:Int)<(x.Y.length:Int):=by omega
    have hT:D1.bT (n:Int)=(0,bJ 512 x.Y[n].2):=by
     rw [ay.bT,hnew];simp only [ht,Bool.false_eq_true,if_false,Int.toNat_natCast,← hfit.sec];simp [hnl]
    have hval:=hfit.vals _ (List.getElem_mem hnl);obtain ⟨va,vc,hv⟩:=ij hval;have hyc:(x.Y.map Prod.fst)[n]?=some (.slice va x.Y[n].2.length vc):=by rw [← hv];simp [hnl]
    rw [hv] at hval;generalize x.Y[n].2=yl at hT hval hyc;obtain ⟨B3,hB3⟩:∃ X,X=fO x S d { D1 with cr:=bU (D1.cr+1) }*(aj S*(pt b3 (.cells #[.int .i64 (n:Int)] 3 (0,0))*(pt D2 (.deferred (some []))*F))):=⟨_,rfl⟩
    have H7:Sat W6 (B3*(pt r4 (.cells #[.slice none 0 0] 37 (0,0))*pt r5 (.cells #[.int .i64 0] 28 (0,0)))):=H6.to (by rw [hB3];ac_rfl);have G0:∀ w',Sat w' B3→w'.cell? ⟨d,0,none⟩=some (.slice (some ⟨x.sg,0,none⟩) x.Y.length x.Y.length):=fun w' h=>(hB3▸h).cM 0;have G3:∀ w',Sat w' B3→w'.cell? ⟨b3,0,none⟩=some (.int .i64 (n:Int)):=fun w' h=>(hB3▸h).aq.cell 0;have Gs:∀ w',Sat w' B3→w'.cell? ⟨x.sg,n,none⟩=some (.slice va yl.length vc):=fun w' h=>((hB3▸h).bd.2.ag.cell n).trans (by simpa using hyc);have Gr:Hid (∀ w',Sat w' B3→Rd w' (.slice va yl.length vc) yl):=fun w' h=>hval.rd ((hB3▸h).ag);have hyl:yl.length≤9223372036854775807:=by have:=hval.1;unfold small at this;omega
    have HT:=ae hT;have HB3:=ae hB3;have Hnl:=ae hnl;clear hT H6 hnew hh hh1 HAl' g2 g3 HB hB3 hval hyc hv hnl hle;rw [ht]
    go_wp2
    gi_wp2
    refine wpIn_wide.2 ?_;have H70:=H7;have H7b:Sat W6.drew B3:=H7.left
    go_region_held3 (fun w'=>Sat w' B3) (first|assumption|exact H7b) (first
     | (go_at_call 217;(with_reducible refine (jI _ _ yl (Gr.out _ H7b) hyl).mono ?_);rintro e w7 ⟨g,rfl,h7,d7⟩;have J7:=h7.under H70;have Jb:Sat w7 B3:=J7.right.left;have K4:Sat w7 (pt r4 (.cells #[.slice none 0 0] 37 (0,0))*(pt r5 (.cells #[.int .i64 0] 28 (0,0))*(pt g (.cells (dp (bJ 512 yl)) 5 (0,0))*B3))):=J7.to (by ac_rfl);have c4:=K4.cell 0;have f4:=K4.frozen;have K5:=(K4.setCell 0 (.slice (some ⟨g,0,none⟩) 512 512)).ag;have c5:=K5.cell 0;have f5:=K5.frozen;have K6:=K5.setCell 0 (.int .i64 0);have S1:Sat (w7.setCell ⟨r4,0,none⟩ (.slice (some ⟨g,0,none⟩) 512 512)) B3:=K5.right.right.right;have S2:Sat ((w7.setCell ⟨r4,0,none⟩ (.slice (some ⟨g,0,none⟩) 512 512)).setCell ⟨r5,0,none⟩ (.int .i64 0)) B3:=K6.right.right.right))
    gi_wp2
    have K7:Sat ((w7.setCell ⟨r4,0,none⟩ (.slice (some ⟨g,0,none⟩) 512 512)).setCell ⟨r5,0,none⟩ (.int .i64 0)) (pt D2 (.deferred (some []))*(pt r5 (.cells #[.int .i64 0] 28 (0,0))*(pt r4 (.cells #[.slice (some ⟨g,0,none⟩) 512 512] 37 (0,0))*(pt g (.cells (dp (bJ 512 yl)) 5 (0,0))*(fO x S d { D1 with cr:=bU (D1.cr+1) }*(aj S*(pt b3 (.cells #[.int .i64 (n:Int)] 3 (0,0))*F))))))):=
     K6.to (by rw [HB3.out];simp only [List.setIfInBounds_toArray,List.set_cons_zero];ac_rfl)
    refine ⟨by simp,.inl ⟨_,_,rfl,run_takeDeferred K7.heap,?_⟩⟩;have K8:=K7.putObj (.deferred none);refine ⟨.tuple #[.slice (some ⟨g,0,none⟩) 512 512,.int .i64 0],eH rfl rfl (K8.aq.cell 0) (K8.ag.cell 0),_,by rw [HT.out],?_,(((hs6.drew.trans d7).setCell _ _).setCell _ _).putObj _ _⟩;rw [HT.out];have K9:=oC (bR 512 yl) K8.right.right.right;exact Sat.rq ((Sat.devOf K9.ag.jE).JL)
 case stop=>
  intro D2 c ys W hp hsd H;obtain ⟨⟨pre,z,g⟩,H1⟩:=Sat.au.1 H;obtain ⟨⟨rfl,rfl,hpre,hza⟩,H2⟩:=Sat.ak.1 (H1.to (aw _ _ _));have hT:D1.bT a=(0,bJ 512 z.2.2):=by rw [ay.bT,yx hfit.wait hp hpre hza]
  have HT:=ae hT
  have K7:Sat W (pt D2 (.deferred (some []))*(pt r5 (.cells #[.int .i64 0] 28 (0,0))*(pt r4 (.cells #[.slice (some ⟨g,0,none⟩) 512 512] 37 (0,0))*(pt g (.cells (dp (bJ 512 z.2.2)) 5 (0,0))*(fO x S d { D1 with cr:=bU (D1.cr+1) }*(aj S*(pt b3 (.cells #[.int .i64 a] 3 (0,0))*(pt bx (.cells #[.pointer (some ⟨d,0,none⟩)] 24 (0,0))*F)))))))):=
   H2.to (by unfold rk fV;ac_rfl)
  clear H H1 H2 hp hpre hza hT hstart H4 hx3
  gi_wp2
  refine ⟨by simp,.inl ⟨_,_,rfl,run_takeDeferred K7.heap,?_⟩⟩;have K8:=K7.putObj (.deferred none);refine ⟨.tuple #[.slice (some ⟨g,0,none⟩) 512 512,.int .i64 0],eH rfl rfl (K8.aq.cell 0) (K8.ag.cell 0),_,by rw [HT.out],?_,hsd.putObj _ _⟩;rw [HT.out];have K9:=oC (bR 512 z.2.2) K8.right.right.right;exact Sat.rq ((Sat.devOf K9.ag.jE.jE).JL)
theorem wE (w:World) (S:Hp) (d:Nat) (D:ay) (a:Int) (F:ah) (h:Sat w (aK S d D*(aj S*F))) (hh:¬ D.has a) :
  Calls Tryz.prog 228 #[.pointer (some ⟨d,0,none⟩),.int .i64 a] w (jN S d D (1,[]) F w):=by
 have hA:=((h.alloc (.cells #[.int .i64 a] 3 (0,0))).alloc (.cells #[.slice none 0 0] 37 (0,0))).alloc (.cells #[.int .i64 0] 28 (0,0));have hs1:=(((ai.refl w).alloc (.cells #[.int .i64 a] 3 (0,0))).alloc (.cells #[.slice none 0 0] 37 (0,0))).alloc (.cells #[.int .i64 0] 28 (0,0));rw [World.size_alloc,World.size_alloc] at hA;refine (callsIn_wide (n:=9)).1 ?_;refine callsIn_of_wp_marks Tryz.func228 rfl trivial ?_ rfl;simp only [Tryz.ntmps228,List.size_toArray,List.length_cons,List.length_nil,Nat.reduceAdd,Nat.reduceSub,Array.replicate_succ,Array.replicate_zero,List.push_toArray,List.append_toArray,List.nil_append,List.cons_append]
 gi_wp2_with fail
 generalize ((w.alloc (.cells #[.int .i64 a] 3 (0,0))).alloc (.cells #[.slice none 0 0] 37 (0,0))).alloc (.cells #[.int .i64 0] 28 (0,0))=w1 at hA hs1 ⊢;generalize w.heap.size+1+1=r5 at hA ⊢;generalize w.heap.size+1=r4 at hA ⊢;generalize w.heap.size=b3 at hA ⊢;have H1:Sat w1 (aK S d D*(aj S*(pt b3 (.cells #[.int .i64 a] 3 (0,0))*(pt r4 (.cells #[.slice none 0 0] 37 (0,0))*(pt r5 (.cells #[.int .i64 0] 28 (0,0))*F))))):=hA.to (by ac_rfl);have ch:=mH w1 S d D a _ H1;rw [show decide (D.has a)=false by simpa using hh] at ch;clear hA h;refine l8 ch ?_;rintro e w1 ⟨rfl,rfl⟩;have c4:=H1.aC.cell 0;have f4:=H1.aC.frozen;have c5':=(H1.aC.setCell 0 (.slice none 0 0)).aG.cell 0;have f5':=(H1.aC.setCell 0 (.slice none 0 0)).aG.frozen;have hne:r4≠r5:=(H1.aG.aG).ne;have c5:=H1.aG.cell 0;have f5:=H1.aG.frozen;have H7:=((H1.aC.setCell 0 (.slice none 0 0)).aG.setCell 0 (.int .i64 1))
 clear ch H1
 gi_wp2
 refine ⟨_,eH rfl rfl (H7.ag.cell 0) (H7.cell 0),?_⟩;exact ⟨_,rfl,Sat.iL (H7.right.right.kD) (by decide),(hs1.setCell _ _).setCell _ _⟩
theorem Ee (w:World) (S:Hp) (d:Nat) (D:ay) (a:Int) (F:ah) (h:Sat w (aK S d D*(aj S*F))) (hD:D.Ok) (hh:D.has a) (hb:D.cD=2) :
  Calls Tryz.prog 228 #[.pointer (some ⟨d,0,none⟩),.int .i64 a] w (jN S d D.begun (2,[]) F w):=by
 have hA:=((h.alloc (.cells #[.int .i64 a] 3 (0,0))).alloc (.cells #[.slice none 0 0] 37 (0,0))).alloc (.cells #[.int .i64 0] 28 (0,0));have hs1:=(((ai.refl w).alloc (.cells #[.int .i64 a] 3 (0,0))).alloc (.cells #[.slice none 0 0] 37 (0,0))).alloc (.cells #[.int .i64 0] 28 (0,0));rw [World.size_alloc,World.size_alloc] at hA;refine (callsIn_wide (n:=9)).1 ?_;refine callsIn_of_wp_marks Tryz.func228 rfl trivial ?_ rfl;simp only [Tryz.ntmps228,List.size_toArray,List.length_cons,List.length_nil,Nat.reduceAdd,Nat.reduceSub,Array.replicate_succ,Array.replicate_zero,List.push_toArray,List.append_toArray,List.nil_append,List.cons_append]
 gi_wp2_with fail
 generalize ((w.alloc (.cells #[.int .i64 a] 3 (0,0))).alloc (.cells #[.slice none 0 0] 37 (0,0))).alloc (.cells #[.int .i64 0] 28 (0,0))=w1 at hA hs1 ⊢;generalize w.heap.size+1+1=r5 at hA ⊢;generalize w.heap.size+1=r4 at hA ⊢;generalize w.heap.size=b3 at hA ⊢;have H1:Sat w1 (aK S d D*(aj S*(pt b3 (.cells #[.int .i64 a] 3 (0,0))*(pt r4 (.cells #[.slice none 0 0] 37 (0,0))*(pt r5 (.cells #[.int .i64 0] 28 (0,0))*F))))):=hA.to (by ac_rfl);have ch:=mH w1 S d D a _ H1;rw [show decide (D.has a)=true by simpa using hh] at ch;have cb:=nk w1 S d D _ H1 hD;rw [hb] at cb;clear hA h H1 hD hb hh;refine l8 ch ?_;rintro e w1 ⟨rfl,rfl⟩;clear ch
 gi_wp2_with fail
 refine l8 cb ?_;rintro e w2 ⟨rfl,H1,d2⟩;have c4:=H1.aC.cell 0;have f4:=H1.aC.frozen;have c5':=(H1.aC.setCell 0 (.slice none 0 0)).aG.cell 0;have f5':=(H1.aC.setCell 0 (.slice none 0 0)).aG.frozen;have hne:r4≠r5:=(H1.aG.aG).ne;have c5:=H1.aG.cell 0;have f5:=H1.aG.frozen;have H7:=((H1.aC.setCell 0 (.slice none 0 0)).aG.setCell 0 (.int .i64 2))
 clear cb H1
 gi_wp2
 refine ⟨_,eH rfl rfl (H7.ag.cell 0) (H7.cell 0),?_⟩;exact ⟨_,rfl,Sat.iL (H7.right.right.kD) (by decide),((hs1.trans d2).setCell _ _).setCell _ _⟩
theorem lN (w:World) (S:Hp) (d:Nat) (D:ay) (a:Int) (F:ah) (h:Sat w (aK S d D*(aj S*F))) (hD:D.Ok) :
  Calls Tryz.prog 228 #[.pointer (some ⟨d,0,none⟩),.int .i64 a] w (jN S d (D.read a).2 (D.read a).1 F w):=by
 unfold ay.read
 by_cases hh:D.has a
 ·rw [if_pos hh]
  rcases D.kP with hb|hb
  ·rw [if_pos hb];exact MK w S d D a F h hD hh hb
  ·rw [if_neg (by rw [hb];decide)];exact Ee w S d D a F h hD hh hb
 ·rw [if_neg hh];exact wE w S d D a F h hh
theorem Fy (n:Nat):madeCells #[Value.slice none 0 0] n=(List.replicate n (Value.slice none 0 0)).toArray:=by
 apply Array.ext
 ·simp [size_madeCells]
 ·intro i h1 h2
  simp [madeCells,Nat.mod_one]
def Oo (n:Nat) (w:World) (e:Ending) (w':World):Prop:=
 ∃ d,e = .returned (.tuple #[.pointer (some ⟨d,0,none⟩),.int .i64 0])∧(∀ S,Sat w' (aK S d (ay.fresh n)*whole w))∧ai w w'
theorem xO (n:Nat) (h1:1≤n) (h2:n≤20000) (w:World) :
  Calls Tryz.prog 24 #[.int .i64 n] w (Oo n w):=by
 have hn1:(1:Int)≤(n:Int):=by omega
 have hn2:(n:Int)≤20000:=by omega
 obtain ⟨i0,hi,hz,hs0,hb0⟩:=info_parts B6;have hmk:=run_make (P:=Tryz.prog) w 101 37 i0 _ Tryz.underlying101 hi hz .i64 .i64 n n (by omega) (by omega) (by rw [hb0];omega) (by omega);rw [hs0] at hmk;have hmm:=@run_makeMap Tryz.prog;have hA:=(((Sat.whole w).alloc (.cells (madeCells #[.slice none 0 0] n) 37 (0,0))).alloc (.map #[] 0)).alloc (.cells #[.slice (some ⟨w.heap.size,0,none⟩) n n,.slice none 0 0,.map (some (w.heap.size+1)),.int .i64 0,.int .i64 0,.int .i64 0,.bool false,.bool false,.int .i64 0,.slice none 0 0] 107 (0,0));have hs:=(((ai.refl w).alloc (.cells (madeCells #[.slice none 0 0] n) 37 (0,0))).alloc (.map #[] 0)).alloc (.cells #[.slice (some ⟨w.heap.size,0,none⟩) n n,.slice none 0 0,.map (some (w.heap.size+1)),.int .i64 0,.int .i64 0,.int .i64 0,.bool false,.bool false,.int .i64 0,.slice none 0 0] 107 (0,0));rw [World.size_alloc,World.size_alloc] at hA;clear hi hz hs0 hb0
 go_enter Tryz.func24,Tryz.ntmps24
 go_wp2
 go_ret2
 refine ⟨_,rfl,fun S=>?_,hs⟩;have h3:=((hA.ag.tH isMap_empty).aq.eA 230 2).eA 3 1;refine Sat.devOf (x:=⟨w.heap.size,w.heap.size+1,.slice none 0 0,.slice none 0 0,List.replicate n (.slice none 0 0,[]),[]⟩) (Sat.iC ⟨by simp [ay.fresh],fun y hy=>?_,rfl,by simp⟩ (h3.to ?_))
 ·rw [List.eq_of_mem_replicate hy];exact ⟨by simp [small],.inl ⟨rfl,rfl⟩⟩
 ·simp only [Dx.cells,ay.fresh,List.length_replicate,List.map_replicate,gq,List.map_nil,gX,bB,List.flatMap_nil,List.length_nil,Fy]
  ac_rfl
end Go.Nn
namespace Go.SL
open Go.RowKit
def yu (g r:Nat) (l:List Int):ah:=pt r (.cells #[.slice (some ⟨g,0,none⟩) l.length l.length] 285 (0,0))*pt g (.cells (ints l) 3 (0,0))
def bK (r:Nat) (l:List Int):ah:=ex fun g=>yu g r l
theorem Sat.lX {w:World} {r:Nat} {l:List Int} {F:ah} (h:Sat w (bK r l*F)):∃ g,Sat w (pt r (.cells #[.slice (some ⟨g,0,none⟩) l.length l.length] 285 (0,0))*(pt g (.cells (ints l) 3 (0,0))*F)):=by
 obtain ⟨g,h⟩:=Sat.au.1 h;exact ⟨g,h.to (aw _ _ _)⟩
theorem Sat.Gn {w:World} {g r:Nat} {l:List Int} {F:ah} (h:Sat w (pt r (.cells #[.slice (some ⟨g,0,none⟩) l.length l.length] 285 (0,0))*(pt g (.cells (ints l) 3 (0,0))*F))):Sat w (bK r l*F):=
 Sat.au.2 ⟨g,h.to (aw _ _ _).symm⟩
end Go.SL
namespace Go.Nn
open Go.RowKit Go.SL
theorem sM:(Tryz.prog.info? 3).map (fun i=>(i.zero,i.size,i.bytes))=some (some (.int .i64 0),1,8):=by kernel_rfl
theorem qk (n:Nat) (hn:n≤1048576) (w:World):(Instr.makeSlice 22 (.int .i64 n) (.int .i64 n)).run Tryz.prog w =
  .ok (.slice (some ⟨w.heap.size,0,none⟩) n n) (w.alloc (.cells (ints (List.replicate n 0)) 3 (0,0))):=by
 obtain ⟨i,hi,hz,hs,hb⟩:=info_parts sM;have:=run_make (P:=Tryz.prog) w 22 3 i _ Tryz.underlying22 hi hz .i64 .i64 n n (by omega) (by omega) (by rw [hb];omega) (by omega);rw [this,hs];simp only [Int.toNat_natCast];rw [EN]
theorem qU (w:World) (r:Nat) (l:List Int) (F:ah) (h:Sat w (bK r l*F)) :
  Calls Tryz.prog 173 #[.pointer (some ⟨r,0,none⟩)] w (mr l.length w):=by
 obtain ⟨g,h⟩:=h.lX;have hc:w.cell? ⟨r,0,none⟩=some (.slice (some ⟨g,0,none⟩) l.length l.length):=h.cell 0;clear h
 go_enter Tryz.func173,Tryz.ntmps173
 go_wp2
 go_ret
 exact ⟨rfl,rfl⟩
theorem xH {a n:Int} (hn:0<n):a%n=if a.tmod n<0 then a.tmod n+n else a.tmod n:=by
 rw [Int.tmod_eq_emod];have h1:=Int.emod_nonneg a (by omega:n≠0);have h2:=Int.emod_lt_of_pos a hn
 split <;> split <;> omega
theorem dF (w:World) (r:Nat) (l:List Int) (a:Int) (F:ah) (h:Sat w (bK r l*F)) (h0:0<l.length) (h1:l.length≤1048576) :
  Calls Tryz.prog 178 #[.pointer (some ⟨r,0,none⟩),.int .i64 a] w (mr (a%(l.length:Int)) w):=by
 obtain ⟨g,h⟩:=h.lX;have hc:w.cell? ⟨r,0,none⟩=some (.slice (some ⟨g,0,none⟩) l.length l.length):=h.cell 0;have hn0:0<(l.length:Int):=by omega
 have hn1:(l.length:Int)≤1048576:=by omega
 have he:=xH (a:=a) hn0
 have ht1:-(l.length:Int)<a.tmod l.length∧a.tmod l.length<l.length:=by
  rw [Int.tmod_eq_emod];have h1:=Int.emod_nonneg a (by omega:(l.length:Int)≠0);have h2:=Int.emod_lt_of_pos a hn0
  split <;> omega
 obtain ⟨ht1,ht2⟩:=ht1;rw [he];clear h he;have ht3:-1048576≤a.tmod l.length:=by omega
 have ht4:a.tmod l.length≤1048576:=by omega
 by_cases hlt:a.tmod l.length<0
 ·rw [if_pos hlt]
  go_enter Tryz.func178,Tryz.ntmps178
  go_wp2
  go_ret
  exact ⟨rfl,rfl⟩
 ·rw [if_neg hlt]
  go_enter Tryz.func178,Tryz.ntmps178
  go_wp2
  go_ret
  exact ⟨rfl,rfl⟩
theorem mB (a:Int) {n:Nat} (h0:0<n):∃ k:Nat,a%(n:Int)=(k:Int)∧k<n:=by
 obtain ⟨k,hk⟩:=Int.eq_ofNat_of_zero_le (Int.emod_nonneg a (by omega:(n:Int)≠0));exact ⟨k,hk,by have:=Int.emod_lt_of_pos a (by omega:(0:Int)<n);omega⟩
theorem C6 (w:World) (r:Nat) (l:List Int) (a:Int) (F:ah) (h:Sat w (bK r l*F)) (h0:0<l.length) (h1:l.length≤1048576) :
  Calls Tryz.prog 175 #[.pointer (some ⟨r,0,none⟩),.int .i64 a] w fun e w'=>e = .returned (.int .i64 (l.getD (a%(l.length:Int)).toNat 0))∧Sat w' (whole w)∧ai w w':=by
 obtain ⟨k,hk,hkl⟩:=mB a h0;have hp:=dF w r l a F h h0 h1;rw [hk] at hp;obtain ⟨g,hg⟩:=h.lX;have hc:w.cell? ⟨r,0,none⟩=some (.slice (some ⟨g,0,none⟩) l.length l.length):=hg.cell 0;have hv:w.cell? ⟨g,k,none⟩=some (.int .i64 (l.getD k 0)):=(hg.ag.cell k).trans (bA hkl);have hkl':(k:Int)<(l.length:Int):=by omega
 have hpd:Calls Tryz.prog 178 #[.pointer (some ⟨r,0,none⟩),.int .i64 a] w.drew (mr k w.drew):=by
  have:=dF w.drew r l a F h h0 h1
  rwa [hk] at this
 rw [hk,Int.toNat_natCast];generalize l.getD k 0=v at hv;clear h hg hk
 go_enter Tryz.func175,Tryz.ntmps175
 go_wp2_with fail
 go_region_held3 (fun w'=>w'.cell? ⟨r,0,none⟩=some (.slice (some ⟨g,0,none⟩) l.length l.length)∧w'.cell? ⟨g,k,none⟩=some (.int .i64 v)) (first|assumption|exact ⟨hc,hv⟩) (first
  | (go_at_call 178;(with_reducible refine hpd.mono ?_);rintro e w1 ⟨rfl,rfl⟩))
 go_wp2
 go_ret
 exact ⟨rfl,(Sat.whole w).drew,(ai.refl w).drew⟩
theorem sa (w:World) (r:Nat) (l:List Int) (a x:Int) (F:ah) (h:Sat w (bK r l*F)) (h0:0<l.length) (h1:l.length≤1048576) :
  Calls Tryz.prog 224 #[.pointer (some ⟨r,0,none⟩),.int .i64 a,.int .i64 x] w fun e w'=>e = .returned (.tuple #[])∧Sat w' (bK r (l.set (a%(l.length:Int)).toNat x)*F)∧ai w w':=by
 obtain ⟨k,hk,hkl⟩:=mB a h0
 have hpd:Calls Tryz.prog 178 #[.pointer (some ⟨r,0,none⟩),.int .i64 a] w.drew (mr k w.drew):=by
  have:=dF w.drew r l a F h h0 h1
  rwa [hk] at this
 obtain ⟨g,hg⟩:=h.lX;have hc:w.cell? ⟨r,0,none⟩=some (.slice (some ⟨g,0,none⟩) l.length l.length):=hg.cell 0;have hv:w.cell? ⟨g,k,none⟩=some (.int .i64 (l.getD k 0)):=(hg.ag.cell k).trans (bA hkl);have hf:w.frozen? ⟨g,k,none⟩=false:=hg.ag.frozen k;have hkl':(k:Int)<(l.length:Int):=by omega
 have h2:=(hg.ag.setCell k (.int .i64 x)).ag;have hc2:=h2.cell 0;have H2:=ae h2;rw [hk,Int.toNat_natCast];generalize l.getD k 0=v at hv;clear h hg hk h2
 go_enter Tryz.func224,Tryz.ntmps224
 go_region_held3 (fun w'=>w'.cell? ⟨r,0,none⟩=some (.slice (some ⟨g,0,none⟩) l.length l.length)) (first|assumption|exact hc|exact hc2) (first
  | (go_at_call 178;(with_reducible refine hpd.mono ?_);rintro e w1 ⟨rfl,rfl⟩))
 go_wp2
 go_end0
 have e:(l.set k x).length=l.length:=List.length_set;refine ⟨rfl,Sat.Gn (g:=g) ?_,((ai.refl w).setCell _ _).drew⟩;rw [e,← fZ];exact H2.out
theorem xL (w:World) (r:Nat) (l:List Int) (a b:Int) (F:ah) (h:Sat w (bK r l*F)) (h0:0<l.length) (h1:l.length≤1048576) :
  Calls Tryz.prog 130 #[.pointer (some ⟨r,0,none⟩),.int .i64 a,.int .i64 b] w (mr ((a+b)%(l.length:Int)) w):=by
 have p1:=dF w r l a F h h0 h1;have p2:=dF w r l b F h h0 h1;have p3:=dF w r l (a%(l.length:Int)+b%(l.length:Int)) F h h0 h1;rw [← Int.add_emod] at p3;have a1:=Int.emod_nonneg a (by omega:(l.length:Int)≠0);have a2:=Int.emod_lt_of_pos a (by omega:(0:Int)<l.length);have b1:=Int.emod_nonneg b (by omega:(l.length:Int)≠0);have b2:=Int.emod_lt_of_pos b (by omega:(0:Int)<l.length);have a3:a%(l.length:Int)≤1048576:=by omega
 have b3:b%(l.length:Int)≤1048576:=by omega
 generalize (a+b)%(l.length:Int)=s at p3 ⊢;generalize a%(l.length:Int)=ra at *;generalize b%(l.length:Int)=rb at *;clear h a2 b2
 go_enter Tryz.func130,Tryz.ntmps130
 go_wp2_with fail
 refine p1.mono ?_;rintro e w1 ⟨rfl,rfl⟩;clear p1
 go_wp2_with fail
 refine p2.mono ?_;rintro e w1 ⟨rfl,rfl⟩;clear p2
 go_wp2_with fail
 refine p3.mono ?_;rintro e w1 ⟨rfl,rfl⟩;clear p3
 go_wp2
 go_ret
 exact ⟨rfl,rfl⟩
def I8 (n:Nat) (v:Int) (w:World) (e:Ending) (w':World):Prop:=∃ r,e = .returned (.pointer (some ⟨r,0,none⟩))∧Sat w' (bK r (List.replicate n v)*whole w)∧ai w w'
def AI (g r:Nat) (n:Nat) (v:Int) (w:World) (u:Value) (wr:World):Prop:=
 ∃ k:Nat,k≤n∧u = .int .i64 k∧Sat wr (yu g r (List.replicate k v++List.replicate (n-k) 0)*whole w)∧ai w wr
theorem vH (n k:Nat) (v:Int) (h:k<n):(List.replicate k v++List.replicate (n-k) (0:Int)).set k v=List.replicate (k+1) v++List.replicate (n-(k+1)) 0:=by
 have e:n-k=(n-(k+1))+1:=by omega
 rw [e,List.replicate_succ,List.set_append_right _ _ (by simp)];simp [List.replicate_succ']
theorem y9 (n:Nat) (v:Int) (w:World) (h1:1≤n) (h2:n≤1048576) :
  Calls Tryz.prog 222 #[.int .i64 n,.int .i64 v] w (I8 n v w):=by
 have hn1:(1:Int)≤(n:Int):=by omega
 have hn2:(n:Int)≤1048576:=by omega
 have hmk:=qk n h2 w;have hA:=((Sat.whole w).alloc (.cells (ints (List.replicate n 0)) 3 (0,0))).alloc (.cells #[.slice (some ⟨w.heap.size,0,none⟩) n n] 285 (0,0));have hs:=((ai.refl w).alloc (.cells (ints (List.replicate n 0)) 3 (0,0))).alloc (.cells #[.slice (some ⟨w.heap.size,0,none⟩) n n] 285 (0,0));rw [World.size_alloc] at hA
 go_enter Tryz.func222,Tryz.ntmps222
 go_wp2
 generalize (w.alloc (.cells (ints (List.replicate n 0)) 3 (0,0))).alloc (.cells #[.slice (some ⟨w.heap.size,0,none⟩) n n] 285 (0,0))=w1 at hA hs ⊢;generalize w.heap.size+1=r at hA ⊢;generalize w.heap.size=g at hA ⊢;clear hmk
 go_loopw [18] (fun u wr=>AI g r n v w u wr) (fun u _=>n-(intOf u).toNat)
 case atStart=>exact ⟨0,Nat.zero_le _,rfl,hA.to (by unfold yu;simp only [List.replicate_zero,List.nil_append,Nat.sub_zero,List.length_replicate];ac_rfl),hs⟩
 case round=>
  obtain ⟨k,hk,rfl,hsat,hside⟩:=hrel;clear hA hs;have hl:(List.replicate k v++List.replicate (n-k) (0:Int)).length=n:=by simp;omega
  have h3:Sat wr (pt g (.cells (ints (List.replicate k v++List.replicate (n-k) 0)) 3 (0,0))*(pt r (.cells #[.slice (some ⟨g,0,none⟩) n n] 285 (0,0))*whole w)):=by
   unfold yu at hsat;rw [hl] at hsat;exact hsat.to (by ac_rfl)
  have hc:=h3.ag.cell 0
  by_cases hlt:k<n
  ·have hlt':(k:Int)<(n:Int):=by omega
   have hv:wr.cell? ⟨g,k,none⟩=some (.int .i64 ((List.replicate k v++List.replicate (n-k) (0:Int)).getD k 0)):=(h3.cell k).trans (bA (by rw [hl];exact hlt));have hf:=h3.frozen k;generalize (List.replicate k v++List.replicate (n-k) (0:Int)).getD k 0=q at hv;have h4:=h3.setCell k (.int .i64 v);rw [fZ,vH n k v hlt] at h4;have H4:=ae h4;have Hl:=ae hl;clear h3 hsat h4 hl
   go_wp2
   go_roundw
   case rel=>
    refine ⟨k+1,by omega,by go_num,H4.out.to ?_,hside.setCell _ _⟩;have e:(List.replicate (k+1) v++List.replicate (n-(k+1)) (0:Int)).length=n:=by simp;omega
    unfold yu;rw [e];ac_rfl
   case measure=>simp [intOf];omega
  ·obtain rfl:k=n:=by omega
   rw [Nat.sub_self,List.replicate_zero,List.append_nil] at hsat;have H4:=ae hsat;clear h3 hsat hl hlt
   go_wp2
   go_ret
   exact ⟨r,rfl,H4.out.fh fun _ p=>⟨g,p⟩,hside⟩
end Go.Nn
namespace Go.Nn
open Go.RowKit Go.SL
attribute [local go_sem] Oper.semAt_some
def ji (b5 b3 b7 r:Nat) (m first:Nat):ah:=
 pt b5 (.cells #[.int .i64 (m:Int)] 3 (0,0))*(pt b3 (.cells #[.pointer (some ⟨r,0,none⟩)] 180 (0,0))*pt b7 (.cells #[.int .i64 (first:Int)] 3 (0,0)))
def P9 (r:Nat) (l:List Int) (m first:Nat) (F:ah) (w:World) (e:Ending) (w':World):Prop:=
 ∃ b5 b3 b7,e = .returned (.func (.func 245) #[] #[.pointer (some ⟨b5,0,none⟩),.pointer (some ⟨b3,0,none⟩),.pointer (some ⟨b7,0,none⟩)])∧Sat w' (ji b5 b3 b7 r m first*(bK r l*F))∧ai w w'
theorem I2 (w:World) (r:Nat) (l:List Int) (a:Int) (m:Nat) (F:ah) (h:Sat w (bK r l*F)) (h0:0<l.length) (h1:l.length≤1048576) (hm:m≤l.length) :
  Calls Tryz.prog 226 #[.pointer (some ⟨r,0,none⟩),.int .i64 a,.int .i64 m] w (P9 r l m (a%(l.length:Int)).toNat F w):=by
 obtain ⟨k,hk,hkl⟩:=mB a h0;have hA:=(h.alloc (.cells #[.pointer (some ⟨r,0,none⟩)] 180 (0,0))).alloc (.cells #[.int .i64 m] 3 (0,0));have hs:=((ai.refl w).alloc (.cells #[.pointer (some ⟨r,0,none⟩)] 180 (0,0))).alloc (.cells #[.int .i64 m] 3 (0,0));rw [World.size_alloc] at hA;rw [hk,Int.toNat_natCast];have hm0:0≤(m:Int):=by omega
 have hm1:(m:Int)≤(l.length:Int):=by omega
 go_enter Tryz.func226,Tryz.ntmps226
 go_wp2_with fail
 generalize (w.alloc (.cells #[.pointer (some ⟨r,0,none⟩)] 180 (0,0))).alloc (.cells #[.int .i64 m] 3 (0,0))=w1 at hA hs ⊢;generalize w.heap.size+1=b5 at hA ⊢;generalize w.heap.size=b3 at hA ⊢;have hR:Sat w1 (bK r l*(pt b3 (.cells #[.pointer (some ⟨r,0,none⟩)] 180 (0,0))*(pt b5 (.cells #[.int .i64 m] 3 (0,0))*F))):=hA.to (by ac_rfl);have c5:w1.cell? ⟨b5,0,none⟩=some (.int .i64 m):=hA.cell 0;have f5:w1.frozen? ⟨b5,0,none⟩=false:=hA.frozen 0;have c3:w1.cell? ⟨b3,0,none⟩=some (.pointer (some ⟨r,0,none⟩)):=hA.ag.cell 0;have hlt5:b5<w1.heap.size:=hA.lt;have hlt3:b3<w1.heap.size:=hA.ag.lt;obtain ⟨BIG,hBIG⟩:∃ X,X=pt b5 (.cells #[.int .i64 m] 3 (0,0))*(pt b3 (.cells #[.pointer (some ⟨r,0,none⟩)] 180 (0,0))*(bK r l*F)):=⟨_,rfl⟩
 have g5:∀ w',Sat w' BIG→w'.cell? ⟨b5,0,none⟩=some (.int .i64 m):=fun w' h=>(hBIG▸h).cell 0;have g3:∀ w',Sat w' BIG→w'.cell? ⟨b3,0,none⟩=some (.pointer (some ⟨r,0,none⟩)):=fun w' h=>(hBIG▸h).ag.cell 0;have hA1:Sat w1.drew BIG:=hBIG▸hA;have hA2:Sat (w1.drew.alloc (.cells #[.int .i64 0] 3 (0,0))) BIG:=(hA1.alloc _).right;have hA3:Sat (w1.drew.alloc (.cells #[.int .i64 k] 3 (0,0))) BIG:=(hA1.alloc _).right
 have hA4:Sat ((w1.setCell ⟨b5,0,none⟩ (.int .i64 m)).alloc (.cells #[.int .i64 k] 3 (0,0))).drew (pt w1.heap.size (.cells #[.int .i64 k] 3 (0,0))*BIG):=by
  have h:=(hA.setCell 0 (.int .i64 m)).alloc (.cells #[.int .i64 k] 3 (0,0));rw [show (w1.setCell ⟨b5,0,none⟩ (.int .i64 m)).heap.size=w1.heap.size by simp [World.setCell]] at h;rw [hBIG];exact h.to (by simp only [List.setIfInBounds_toArray,List.set_cons_zero])
 have hRB:∀ w',Sat w' BIG→Sat w' (bK r l*(pt b3 (.cells #[.pointer (some ⟨r,0,none⟩)] 180 (0,0))*(pt b5 (.cells #[.int .i64 m] 3 (0,0))*F))):=fun w' h=>(hBIG▸h).to (by ac_rfl)
 have Hp:Hid (∀ w',Sat w' BIG→Calls Tryz.prog 178 #[.pointer (some ⟨r,0,none⟩),.int .i64 a] w' (mr k w')):=fun w' h=>by
  have:=dF w' r l a _ (hRB w' h) h0 h1
  rwa [hk] at this
 have Hl:Hid (∀ w',Sat w' BIG→Calls Tryz.prog 173 #[.pointer (some ⟨r,0,none⟩)] w' (mr l.length w')):=fun w' h=>qU w' r l _ (hRB w' h);have hv0:(if l.length<m then (l.length:Int) else (m:Int))=(m:Int):=if_neg (by omega)
 have hv1:(if (l.length:Int)<(if (m:Int)<0 then 0 else (m:Int)) then (l.length:Int) else if (m:Int)<0 then 0 else (m:Int))=(m:Int):=by
  rw [if_neg (by omega:¬ (m:Int)<0),if_neg (by omega)]
 have Hv0:=ae hv0;have Hv1:=ae hv1;have HB:=ae hBIG;clear h hk hR hA hBIG c5 c3 hRB hv0 hv1
 go_region_held3 (fun w'=>Sat w' BIG) (first|assumption|(rw [Hv0.out];exact hA4.right)|(rw [Hv1.out];exact hA4.right)|exact hA4.right) (first
  | (go_at_call 178;(with_reducible refine (Hp.out _ (by assumption)).mono ?_);rintro e w2 ⟨rfl,rfl⟩)
  | (go_at_call 173;(with_reducible refine (Hl.out _ (by assumption)).mono ?_);rintro e w2 ⟨rfl,rfl⟩))
 all_goals
  first|rw [Hv0.out]|rw [Hv1.out]
  go_wp2
  go_ret
  refine ⟨b5,b3,w1.heap.size,rfl,?_,((hs.setCell _ _).alloc _).drew⟩;exact hA4.to (by rw [HB.out];unfold ji;ac_rfl)
def places (n first m:Nat):List Nat:=(List.range m).map fun i=>(first+i)%n
theorem nK (n first m:Nat):(places n first m).length=m:=by simp [places]
theorem yr (n first m k:Nat) (h:k<m):(places n first m).take k++[(first+k)%n]=(places n first m).take (k+1):=by
 rw [List.take_succ_eq_append_getElem (by rw [nK];exact h)];simp [places]
def y5 (l:List Int) (p:Nat) (vs:Array Value):ah:=fact (vs=#[.int .i64 (p:Int),.int .i64 (l.getD p 0)])
def KG (A:List Nat→ah) (n first m:Nat) (X:ah) (w0:World) (i:Value) (wr:World):Prop:=
 ∃ k:Nat,k≤m∧i = .int .i64 (k:Int)∧ai w0 wr∧Sat wr (A ((places n first m).take k)*X)
theorem DQ (n:Nat) (b5 b3 b7 r:Nat) (l:List Int) (m first:Nat) (h0:0<l.length) (h1:l.length≤1048576) (hm:m≤l.length) (hf:first<l.length) :
  mP (yk (bK r l)) Fence.wide n Tryz.prog 245 #[.pointer (some ⟨b5,0,none⟩),.pointer (some ⟨b3,0,none⟩),.pointer (some ⟨b7,0,none⟩)] (ji b5 b3 b7 r m first) (y5 l)
   (fun ys=>ys=places l.length first m) (fun ys=>ys <+: places l.length first m):=by
 rintro lp _ Ax G w0 w ⟨A,rfl⟩ hY hs h0';have hB:Sat w (pt b5 (.cells #[.int .i64 (m:Int)] 3 (0,0))*(pt b3 (.cells #[.pointer (some ⟨r,0,none⟩)] 180 (0,0))*(pt b7 (.cells #[.int .i64 (first:Int)] 3 (0,0))*(bK r l*(A []*G))))):=h0'.to (by unfold ji;dsimp only;ac_rfl);have c5:=hB.cell 0;have hm1:(m:Int)≤1048576:=by omega
 have hl1:(l.length:Int)≤1048576:=by omega
 clear hB;refine callsIn_of_wp Tryz.func245 rfl trivial ?_ rfl;simp only [Tryz.ntmps245,List.size_toArray,List.length_cons,List.length_nil,Nat.reduceAdd,Nat.reduceSub,Array.replicate_succ,Array.replicate_zero,List.push_toArray,List.append_toArray,List.nil_append,List.cons_append]
 gi_wp2
 gi_loopw [8] (fun i wr=>KG (fun ys=>bK r l*A ys) l.length first m (ji b5 b3 b7 r m first*G) w0 i wr) (fun i _=>m-(intOf i).toNat)
 case atStart=>exact ⟨0,Nat.zero_le _,rfl,hs,h0'⟩
 case round=>
  clear h0' c5;obtain ⟨k,hk,rfl,hside,hsat⟩:=hrel;replace hsat:Sat wr ((bK r l*A ((places l.length first m).take k))*(ji b5 b3 b7 r m first*G)):=hsat;have hB:Sat wr (pt b5 (.cells #[.int .i64 (m:Int)] 3 (0,0))*(pt b3 (.cells #[.pointer (some ⟨r,0,none⟩)] 180 (0,0))*(pt b7 (.cells #[.int .i64 (first:Int)] 3 (0,0))*(bK r l*(A ((places l.length first m).take k)*G))))):=hsat.to (by unfold ji;ac_rfl)
  by_cases hlt:k<m
  ·have hlt':(k:Int)<(m:Int):=by omega
   have c3:=hB.ag.cell 0;have c7:=hB.aq.cell 0;have hgo:=xL wr r l (first:Int) (k:Int) _ hB.aC h0 h1;have hpk:((first:Int)+(k:Int))%(l.length:Int)=(((first+k)%l.length:Nat):Int):=by simp
   rw [hpk] at hgo;have hpl:(first+k)%l.length<l.length:=Nat.mod_lt _ h0;have hen:=yr l.length first m k hlt
   have hpre:(places l.length first m).take k++[(first+k)%l.length] <+: places l.length first m:=by rw [hen];exact List.take_prefix _ _
   generalize (first+k)%l.length=p at hgo hpl hen hpre;have hpl':(p:Int)<(l.length:Int):=by omega
   obtain ⟨g,hg⟩:=hB.aC.lX;have cr:=hg.cell 0;have cv:wr.cell? ⟨g,p,none⟩=some (.int .i64 (l.getD p 0)):=(hg.ag.cell p).trans (bA hpl)
   have hT:Sat wr ((bK r l*A ((places l.length first m).take k))*(y5 l p #[.int .i64 (p:Int),.int .i64 (l.getD p 0)]*(ji b5 b3 b7 r m first*G))):=
    (Sat.ak.2 ⟨rfl,hsat⟩:Sat wr (fact _*_)).to (by unfold y5;ac_rfl)
   obtain ⟨fn,tmps,assign,body,hy,hR⟩:=hY _ p #[.int .i64 (p:Int),.int .i64 (l.getD p 0)] _ wr hpre hside hT;have Hen:=ae hen;have Hpre:=ae hpre;clear hT hsat hB hen hpre hg hpk;generalize l.getD p 0=v at cv hy
   gi_wp2_with fail
   refine kh hgo ?_;rintro e w1 ⟨rfl,rfl⟩;clear hgo
   gi_wp2
   refine ⟨fun h=>(by cases h),hR.mono ?_⟩;rintro e W' (⟨rfl,hs5,hsat5⟩|⟨rfl,hs5,hsat5⟩)
   ·gi_wp2
    go_roundw
    case rel=>exact ⟨k+1,by omega,by go_num,hs5,by rw [← Hen.out];exact hsat5⟩
    case measure=>simp [intOf];omega
   ·gi_wp2
    refine bodyPost_ret (results_none rfl _ _ _) rfl ?_;exact ⟨⟨_,rfl⟩,hs5,.inr ⟨_,Hpre.out,hsat5⟩⟩
  ·obtain rfl:k=m:=by omega
   have hfin:(places l.length first k).take k=places l.length first k:=by
    have:=nK l.length first k
    exact List.take_of_length_le (by omega)
   rw [hfin] at hsat;clear hB hfin
   gi_wp2
   go_end0
   exact ⟨⟨_,rfl⟩,hside,.inl ⟨_,rfl,hsat⟩⟩
end Go.Nn
namespace Go.SL
open Go.RowKit
structure Tb where
 ps:List Int
 os:List Int
 c:Int
structure Tb.Ok (T:Tb):Prop where
 n:T.ps.length≤1048576
 m:T.os.length≤1048576
 ps:∀ v ∈ T.ps,v=-1∨(0≤v∧v<T.os.length)
def told (l:List Int) (i:Int):Option Int:=if 0≤i∧i<l.length∧l.getD i.toNat 0 ≠ -1 then some (l.getD i.toNat 0) else none
def oo (o:Option Int):Value:=.tuple #[.int .i64 (o.getD 0),.bool o.isSome]
def Tb.fresh (b p:Nat):Tb:=⟨List.replicate b (-1),List.replicate p (-1),0⟩
def Tb.drop (T:Tb) (id:Int):Bool × Tb:=match told T.ps id with
 | some p=>(true,⟨T.ps.set id.toNat (-1),T.os.set p.toNat (-1),bU (T.c-1)⟩)
 | none=>(false,T)
def Tb.put (T:Tb) (id place:Int):Bool × Tb:=
 if 0≤id∧id<T.ps.length∧0≤place∧place<T.os.length∧(T.os.getD place.toNat 0=-1∨T.os.getD place.toNat 0=id) then
  (true,⟨(T.drop id).2.ps.set id.toNat place,(T.drop id).2.os.set place.toNat id,bU ((T.drop id).2.c+1)⟩)
 else (false,T)
structure Tx where
 g1:Nat
 g2:Nat
def A8 (x:Tx) (t:Nat) (T:Tb):ah:=
 pt t (.cells #[.slice (some ⟨x.g1,0,none⟩) T.ps.length T.ps.length,.slice (some ⟨x.g2,0,none⟩) T.os.length T.os.length,.int .i64 T.c] 249 (0,0))*(pt x.g1 (.cells (ints T.ps) 3 (0,0))*pt x.g2 (.cells (ints T.os) 3 (0,0)))
def bq (t:Nat) (T:Tb):ah:=ex fun x=>A8 x t T
theorem Sat.pH {w:World} {t:Nat} {T:Tb} {F:ah} (h:Sat w (bq t T*F)):∃ x:Tx,Sat w (pt t (.cells #[.slice (some ⟨x.g1,0,none⟩) T.ps.length T.ps.length,.slice (some ⟨x.g2,0,none⟩) T.os.length T.os.length,.int .i64 T.c] 249 (0,0))*(pt x.g1 (.cells (ints T.ps) 3 (0,0))*(pt x.g2 (.cells (ints T.os) 3 (0,0))*F))):=by
 obtain ⟨x,h⟩:=Sat.au.1 h;exact ⟨x,h.to (by unfold A8;ac_rfl)⟩
theorem Sat.wR {w:World} {t:Nat} {T:Tb} {F:ah} (x:Tx) (h:Sat w (pt t (.cells #[.slice (some ⟨x.g1,0,none⟩) T.ps.length T.ps.length,.slice (some ⟨x.g2,0,none⟩) T.os.length T.os.length,.int .i64 T.c] 249 (0,0))*(pt x.g1 (.cells (ints T.ps) 3 (0,0))*(pt x.g2 (.cells (ints T.os) 3 (0,0))*F)))):Sat w (bq t T*F):=
 Sat.au.2 ⟨x,h.to (by unfold A8;ac_rfl)⟩
end Go.SL
namespace Go.Nn
open Go.RowKit Go.SL
theorem gj (w:World) (a:Option Addr) (n c:Nat) (i:Int):Calls Tryz.prog 176 #[.slice a n c,.int .i64 i] w (tR (decide (0≤i∧i<(n:Int))) w):=by
 by_cases h0:0≤i
 ·by_cases h1:i<(n:Int)
  ·rw [show decide (0≤i∧i<(n:Int))=true by simp [h0,h1]]
   go_enter Tryz.func176,Tryz.ntmps176
   go_wp2
   go_ret
   exact ⟨rfl,rfl⟩
  ·rw [show decide (0≤i∧i<(n:Int))=false by simp [h1]]
   have hd:decide (i<(n:Int))=false:=by simpa using h1
   go_enter Tryz.func176,Tryz.ntmps176
   go_wp2
   go_ret
   exact ⟨rfl,rfl⟩
 ·rw [show decide (0≤i∧i<(n:Int))=false by simp [h0]]
  go_enter Tryz.func176,Tryz.ntmps176
  go_wp2
  go_ret
  exact ⟨rfl,rfl⟩
def AO (o:Option Int) (w:World) (e:Ending) (w':World):Prop:=e = .returned (oo o)∧w=w'
theorem yC (w:World) (g:Nat) (l:List Int) (i:Int) (F:ah) (h:Sat w (pt g (.cells (ints l) 3 (0,0))*F)) :
  Calls Tryz.prog 246 #[.slice (some ⟨g,0,none⟩) l.length l.length,.int .i64 i] w (AO (told l i) w):=by
 have hw:=gj w (some ⟨g,0,none⟩) l.length l.length i
 by_cases hin:0≤i∧i<(l.length:Int)
 ·rw [show decide (0≤i∧i<(l.length:Int))=true by simpa using hin] at hw
  obtain ⟨k,rfl⟩:=Int.eq_ofNat_of_zero_le hin.1;have hkl':(k:Int)<(l.length:Int):=hin.2;have hkl:k<l.length:=by omega
  have hc:w.cell? ⟨g,k,none⟩=some (.int .i64 (l.getD k 0)):=(h.cell k).trans (bA hkl)
  by_cases hv:l.getD k 0=-1
  ·have e:told l (k:Int)=none:=by unfold told;rw [if_neg];rintro ⟨_,_,h3⟩;exact h3 (by rw [Int.toNat_natCast];exact hv)
   rw [e];rw [hv] at hc;clear e hin h hv
   go_enter Tryz.func246,Tryz.ntmps246
   go_wp2_with (go_at_call 176;(with_reducible refine hw.mono ?_);rintro e w1 ⟨rfl,rfl⟩)
   go_ret2
   exact ⟨rfl,rfl⟩
  ·have e:told l (k:Int)=some (l.getD k 0):=by unfold told;rw [if_pos ⟨hin.1,hin.2,by rw [Int.toNat_natCast];exact hv⟩,Int.toNat_natCast]
   have hvb:(l.getD k 0 == -1)=false:=by simpa using hv
   rw [e];clear e hin h hv;generalize l.getD k 0=v at hc hvb
   go_enter Tryz.func246,Tryz.ntmps246
   go_wp2_with (go_at_call 176;(with_reducible refine hw.mono ?_);rintro e w1 ⟨rfl,rfl⟩)
   go_ret2
   exact ⟨rfl,rfl⟩
 ·rw [show decide (0≤i∧i<(l.length:Int))=false by simpa using hin] at hw
  have e:told l i=none:=by unfold told;rw [if_neg];rintro ⟨h1,h2,_⟩;exact hin ⟨h1,h2⟩
  rw [e];clear e hin h
  go_enter Tryz.func246,Tryz.ntmps246
  go_wp2_with (go_at_call 176;(with_reducible refine hw.mono ?_);rintro e w1 ⟨rfl,rfl⟩)
  go_ret2
  exact ⟨rfl,rfl⟩
theorem Gv (w:World) (t:Nat) (T:Tb) (id:Int) (F:ah) (h:Sat w (bq t T*F)) :
  Calls Tryz.prog 232 #[.pointer (some ⟨t,0,none⟩),.int .i64 id] w (AO (told T.ps id) w):=by
 obtain ⟨x,hx⟩:=h.pH;have ht:=yC w x.g1 T.ps id _ hx.ag;have c0:w.cell? ⟨t,0,none⟩=some (.slice (some ⟨x.g1,0,none⟩) T.ps.length T.ps.length):=hx.cell 0;generalize told T.ps id=o at ht ⊢;clear h hx
 go_enter Tryz.func232,Tryz.ntmps232
 go_wp2_with (go_at_call 246;(with_reducible refine ht.mono ?_);rintro e w1 ⟨rfl,rfl⟩;unfold oo)
 go_ret2
 exact ⟨rfl,rfl⟩
theorem EC (w:World) (t:Nat) (T:Tb) (id:Int) (F:ah) (h:Sat w (bq t T*F)) :
  Calls Tryz.prog 227 #[.pointer (some ⟨t,0,none⟩),.int .i64 id] w (AO (told T.os id) w):=by
 obtain ⟨x,hx⟩:=h.pH;have ht:=yC w x.g2 T.os id _ hx.aq;have c0:w.cell? ⟨t,1,none⟩=some (.slice (some ⟨x.g2,0,none⟩) T.os.length T.os.length):=hx.cell 1;generalize told T.os id=o at ht ⊢;clear h hx
 go_enter Tryz.func227,Tryz.ntmps227
 go_wp2_with (go_at_call 246;(with_reducible refine ht.mono ?_);rintro e w1 ⟨rfl,rfl⟩;unfold oo)
 go_ret2
 exact ⟨rfl,rfl⟩
theorem qL {l:List Int} {i p:Int} (h:told l i=some p):∃ k:Nat,i=(k:Int)∧k<l.length∧l.getD k 0=p∧p ≠ -1:=by
 unfold told at h
 split at h
 ·rename_i hc
  obtain ⟨h1,h2,h3⟩:=hc;obtain ⟨k,rfl⟩:=Int.eq_ofNat_of_zero_le h1;rw [Int.toNat_natCast] at h h3;have h:=Option.some.inj h;exact ⟨k,rfl,by omega,h,by rw [← h];exact h3⟩
 ·cases h
theorem Ju {T:Tb} (h:T.Ok) {i p:Int} (ht:told T.ps i=some p):∃ j:Nat,p=(j:Int)∧j<T.os.length:=by
 obtain ⟨k,rfl,hk,hp,hn⟩:=qL ht;have hm:p ∈ T.ps:=by rw [← hp,List.getD,List.getElem?_eq_getElem hk];exact List.getElem_mem hk
 rcases h.ps p hm with e|⟨e1,e2⟩
 ·exact absurd e hn
 ·obtain ⟨j,rfl⟩:=Int.eq_ofNat_of_zero_le e1
  exact ⟨j,rfl,by omega⟩
def P7 (t:Nat) (b:Bool) (T:Tb) (F:ah) (w:World) (e:Ending) (w':World):Prop:=e = .returned (.bool b)∧Sat w' (bq t T*F)∧ai w w'
theorem GS (w:World) (t:Nat) (T:Tb) (id:Int) (F:ah) (h:Sat w (bq t T*F)) (hT:T.Ok) :
  Calls Tryz.prog 177 #[.pointer (some ⟨t,0,none⟩),.int .i64 id] w (P7 t (T.drop id).1 (T.drop id).2 F w):=by
 have ha:=Gv w t T id F h;unfold Tb.drop
 match hm:told T.ps id with
 | none=>
  rw [hm] at ha;clear hm
  go_enter Tryz.func177,Tryz.ntmps177
  go_wp2_with (go_at_call 232;(with_reducible refine ha.mono ?_);rintro e w1 ⟨rfl,rfl⟩;unfold oo)
  go_ret
  exact ⟨rfl,h,ai.refl w⟩
 | some p=>
  rw [hm] at ha;obtain ⟨k,rfl,hk,_,_⟩:=qL hm;obtain ⟨j,rfl,hj⟩:=Ju hT hm;obtain ⟨x,hx⟩:=h.pH;have hk':(k:Int)<(T.ps.length:Int):=by omega
  have hj':(j:Int)<(T.os.length:Int):=by omega
  have c0:w.cell? ⟨t,0,none⟩=some (.slice (some ⟨x.g1,0,none⟩) T.ps.length T.ps.length):=hx.cell 0;have c1:w.cell? ⟨t,1,none⟩=some (.slice (some ⟨x.g2,0,none⟩) T.os.length T.os.length):=hx.cell 1;have s1:w.cell? ⟨x.g1,k,none⟩=some (.int .i64 (T.ps.getD k 0)):=(hx.ag.cell k).trans (bA hk);have f1:=hx.ag.frozen k;have H2:=(hx.ag.setCell k (.int .i64 (-1)))
  have c0':=H2.ag.cell 0;have c1':=H2.ag.cell 1;have s2:(w.setCell ⟨x.g1,k,none⟩ (.int .i64 (-1))).cell? ⟨x.g2,j,none⟩=some (.int .i64 (T.os.getD j 0)):=(H2.aq.cell j).trans (bA hj);have f2:=H2.aq.frozen j;have H3:=H2.aq.setCell j (.int .i64 (-1));have c0'':=H3.aq.cell 0;have c1'':=H3.aq.cell 1;have c2'':((w.setCell ⟨x.g1,k,none⟩ (.int .i64 (-1))).setCell ⟨x.g2,j,none⟩ (.int .i64 (-1))).cell? ⟨t,2,none⟩=some (.int .i64 T.c):=H3.aq.cell 2;have f2'':=H3.aq.frozen 2;rw [fZ] at H3 H2;rw [fZ] at H3;have H4:=ae (H3.aq.setCell 2 (.int .i64 (bU (T.c-1))));simp only [Int.toNat_natCast];generalize T.ps.getD k 0=vk at s1;generalize T.os.getD j 0=vj at s2;clear hm h hx H2 H3 hT
  go_enter Tryz.func177,Tryz.ntmps177
  go_wp2_with (go_at_call 232;(with_reducible refine ha.mono ?_);rintro e w1 ⟨rfl,rfl⟩;unfold oo)
  go_region_held3 (fun w'=>w'.cell? ⟨t,0,none⟩=some (.slice (some ⟨x.g1,0,none⟩) T.ps.length T.ps.length)∧w'.cell? ⟨t,1,none⟩=some (.slice (some ⟨x.g2,0,none⟩) T.os.length T.os.length)) (first|assumption|exact ⟨c0,c1⟩|exact ⟨c0',c1'⟩|exact ⟨c0'',c1''⟩) (fail)
  go_wp2
  go_ret
  refine ⟨rfl,Sat.wR x ?_,((((ai.refl w).setCell _ _).setCell _ _).drew).setCell _ _⟩;simp only [List.length_set];exact (H4.out.drew).to (by simp only [List.setIfInBounds_toArray,List.set_cons_zero,List.set_cons_succ];ac_rfl)
theorem xg (T:Tb) (id:Int):(T.drop id).2.ps.length=T.ps.length∧(T.drop id).2.os.length=T.os.length:=by
 unfold Tb.drop
 split <;> simp
theorem eM (w:World) (t:Nat) (T:Tb) (id place:Int) (F:ah) (h:Sat w (bq t T*F)) (hT:T.Ok) :
  Calls Tryz.prog 129 #[.pointer (some ⟨t,0,none⟩),.int .i64 id,.int .i64 place] w (P7 t (T.put id place).1 (T.put id place).2 F w):=by
 obtain ⟨x,hx⟩:=h.pH;have c0:w.cell? ⟨t,0,none⟩=some (.slice (some ⟨x.g1,0,none⟩) T.ps.length T.ps.length):=hx.cell 0;have c1:w.cell? ⟨t,1,none⟩=some (.slice (some ⟨x.g2,0,none⟩) T.os.length T.os.length):=hx.cell 1;have w1:=gj w (some ⟨x.g1,0,none⟩) T.ps.length T.ps.length id;have w2:=gj w (some ⟨x.g2,0,none⟩) T.os.length T.os.length place
 by_cases h1:0≤id∧id<(T.ps.length:Int)
 ·rw [show decide (0≤id∧id<(T.ps.length:Int))=true by simpa using h1] at w1
  by_cases h2:0≤place∧place<(T.os.length:Int)
  ·rw [show decide (0≤place∧place<(T.os.length:Int))=true by simpa using h2] at w2
   obtain ⟨k,rfl⟩:=Int.eq_ofNat_of_zero_le h1.1;obtain ⟨j,rfl⟩:=Int.eq_ofNat_of_zero_le h2.1;have hk:k<T.ps.length:=by omega
   have hj:j<T.os.length:=by omega
   have hk':(k:Int)<(T.ps.length:Int):=by omega
   have hj':(j:Int)<(T.os.length:Int):=by omega
   have so:w.cell? ⟨x.g2,j,none⟩=some (.int .i64 (T.os.getD j 0)):=(hx.aq.cell j).trans (bA hj)
   by_cases hv:T.os.getD j 0=-1∨T.os.getD j 0=(k:Int)
   ·have e:T.put (k:Int) (j:Int)=(true,⟨(T.drop (k:Int)).2.ps.set k (j:Int),(T.drop (k:Int)).2.os.set j (k:Int),bU ((T.drop (k:Int)).2.c+1)⟩):=by
     unfold Tb.put;rw [if_pos ⟨h1.1,h1.2,h2.1,h2.2,by simpa using hv⟩];simp
    have hd:=GS w t T k F h hT;obtain ⟨l1,l2⟩:=xg T k;rw [e];generalize hD:(T.drop (k:Int)).2=D at hd l1 l2 ⊢;generalize (T.drop (k:Int)).1=db at hd
    have hvb:((T.os.getD j 0 != -1)=false)∨((T.os.getD j 0 != -1)=true∧(T.os.getD j 0 != (k:Int))=false):=by
     rcases hv with hv|hv
     ·left;rw [hv];rfl
     ·by_cases hq:T.os.getD j 0=-1
      ·left;rw [hq];rfl
      ·right;exact ⟨by simpa using hq,by rw [hv];simp⟩
    clear e hv h1 h2 h hx hT hD;generalize T.os.getD j 0=v at so hvb;have Hl1:=ae l1;have Hl2:=ae l2;clear l1 l2;rcases hvb with hvb|⟨hvb,hvb2⟩
    all_goals
     go_enter Tryz.func129,Tryz.ntmps129
     go_wp2_with (first
      | (go_at_call_of 176 (Value.int .i64 (k:Int));(with_reducible refine w1.mono ?_);rintro e w1' ⟨rfl,rfl⟩)
      | (go_at_call_of 176 (Value.int .i64 (j:Int));(with_reducible refine w2.mono ?_);rintro e w1' ⟨rfl,rfl⟩))
     (with_reducible refine hd.mono ?_)
     rintro e w3 ⟨rfl,h3,d3⟩;obtain ⟨y,hy⟩:=h3.pH;rw [Hl1.out,Hl2.out] at hy;have hk1:k<D.ps.length:=by rw [Hl1.out];exact hk
     have hj1:j<D.os.length:=by rw [Hl2.out];exact hj
     have c0:w3.cell? ⟨t,0,none⟩=some (.slice (some ⟨y.g1,0,none⟩) T.ps.length T.ps.length):=hy.cell 0;have c1:w3.cell? ⟨t,1,none⟩=some (.slice (some ⟨y.g2,0,none⟩) T.os.length T.os.length):=hy.cell 1;have s1:w3.cell? ⟨y.g1,k,none⟩=some (.int .i64 (D.ps.getD k 0)):=(hy.ag.cell k).trans (bA hk1);have f1:=hy.ag.frozen k;have H2:=(hy.ag.setCell k (.int .i64 (j:Int)))
     have c0':=H2.ag.cell 0;have c1':=H2.ag.cell 1;have s2:(w3.setCell ⟨y.g1,k,none⟩ (.int .i64 (j:Int))).cell? ⟨y.g2,j,none⟩=some (.int .i64 (D.os.getD j 0)):=(H2.aq.cell j).trans (bA hj1);have f2:=H2.aq.frozen j;have H3:=H2.aq.setCell j (.int .i64 (k:Int));have c0'':=H3.aq.cell 0;have c1'':=H3.aq.cell 1;have c2'':((w3.setCell ⟨y.g1,k,none⟩ (.int .i64 (j:Int))).setCell ⟨y.g2,j,none⟩ (.int .i64 (k:Int))).cell? ⟨t,2,none⟩=some (.int .i64 D.c):=H3.aq.cell 2;have f2'':=H3.aq.frozen 2;rw [fZ] at H3 H2;rw [fZ] at H3;have H4:=ae (H3.aq.setCell 2 (.int .i64 (bU (D.c+1))));generalize D.ps.getD k 0=vk at s1;generalize D.os.getD j 0=vj at s2;clear hd w1 w2 so h3 hy H2 H3 hvb
     go_wp2
     go_region_held3 (fun w'=>w'.cell? ⟨t,0,none⟩=some (.slice (some ⟨y.g1,0,none⟩) T.ps.length T.ps.length)∧w'.cell? ⟨t,1,none⟩=some (.slice (some ⟨y.g2,0,none⟩) T.os.length T.os.length)) (first|assumption|exact ⟨c0,c1⟩|exact ⟨c0',c1'⟩|exact ⟨c0'',c1''⟩) (fail)
     go_wp2
     go_ret
     refine ⟨rfl,Sat.wR y ?_,(((d3.setCell _ _).setCell _ _).drew).setCell _ _⟩;simp only [List.length_set,Hl1.out,Hl2.out];exact (H4.out.drew).to (by simp only [List.setIfInBounds_toArray,List.set_cons_zero,List.set_cons_succ];ac_rfl)
   ·have e:T.put (k:Int) (j:Int)=(false,T):=by
     unfold Tb.put;rw [if_neg];rintro ⟨_,_,_,_,h5⟩;exact hv (by simpa using h5)
    rw [e];have hvb:(T.os.getD j 0 != -1)=true:=by simp only [bne_iff_ne,ne_eq];exact fun q=>hv (.inl q)
    have hvb2:(T.os.getD j 0 != (k:Int))=true:=by simp only [bne_iff_ne,ne_eq];exact fun q=>hv (.inr q)
    have H:=ae h;clear e hv h1 h2 h hx hT;generalize T.os.getD j 0=v at so hvb hvb2
    go_enter Tryz.func129,Tryz.ntmps129
    go_wp2_with (first
     | (go_at_call_of 176 (Value.int .i64 (k:Int));(with_reducible refine w1.mono ?_);rintro e w1' ⟨rfl,rfl⟩)
     | (go_at_call_of 176 (Value.int .i64 (j:Int));(with_reducible refine w2.mono ?_);rintro e w1' ⟨rfl,rfl⟩))
    go_ret
    exact ⟨rfl,H.out,ai.refl w⟩
  ·rw [show decide (0≤place∧place<(T.os.length:Int))=false by simpa using h2] at w2
   have e:T.put id place=(false,T):=by
    unfold Tb.put;rw [if_neg];rintro ⟨_,_,h3,h4,_⟩;exact h2 ⟨h3,h4⟩
   rw [e];have H:=ae h;clear e h1 h2 h hx hT
   go_enter Tryz.func129,Tryz.ntmps129
   go_wp2_with fail
   refine w1.mono ?_;rintro e w1' ⟨rfl,rfl⟩;clear w1
   go_wp2_with fail
   refine w2.mono ?_;rintro e w1' ⟨rfl,rfl⟩;clear w2
   go_wp2
   go_ret
   exact ⟨rfl,H.out,ai.refl w⟩
 ·rw [show decide (0≤id∧id<(T.ps.length:Int))=false by simpa using h1] at w1
  have e:T.put id place=(false,T):=by
   unfold Tb.put;rw [if_neg];rintro ⟨h3,h4,_⟩;exact h1 ⟨h3,h4⟩
  rw [e];have H:=ae h;clear e h1 h hx hT w2
  go_enter Tryz.func129,Tryz.ntmps129
  go_wp2_with (go_at_call 176;(with_reducible refine w1.mono ?_);rintro e w1' ⟨rfl,rfl⟩)
  go_ret
  exact ⟨rfl,H.out,ai.refl w⟩
end Go.Nn
namespace Go.Nn
open Go.RowKit Go.SL
attribute [local go_sem] Oper.semAt_some
def OD (n:Nat) (w:World) (e:Ending) (w':World):Prop:=∃ g,e = .returned (.slice (some ⟨g,0,none⟩) n n)∧Sat w' (pt g (.cells (ints (List.replicate n (-1))) 3 (0,0))*whole w)∧ai w w'
def Ij (g:Nat) (n:Nat) (w:World) (u:Value) (wr:World):Prop:=
 ∃ k:Nat,k≤n∧u = .int .i64 k∧Sat wr (pt g (.cells (ints (List.replicate k (-1)++List.replicate (n-k) 0)) 3 (0,0))*whole w)∧ai w wr
theorem vT (n:Nat) (w:World) (h2:n≤1048576):Calls Tryz.prog 244 #[.int .i64 n] w (OD n w):=by
 have hn1:(0:Int)≤(n:Int):=by omega
 have hn2:(n:Int)≤1048576:=by omega
 have hmk:=qk n h2 w;have hA:=((Sat.whole w).alloc (.cells (ints (List.replicate n 0)) 3 (0,0)))
 have hs:=((ai.refl w).alloc (.cells (ints (List.replicate n 0)) 3 (0,0)))
 go_enter Tryz.func244,Tryz.ntmps244
 go_wp2
 generalize w.alloc (.cells (ints (List.replicate n 0)) 3 (0,0))=w1 at hA hs ⊢;generalize w.heap.size=g at hA ⊢;clear hmk
 go_loopw [11] (fun u wr=>Ij g n w u wr) (fun u _=>n-(intOf u).toNat)
 case atStart=>exact ⟨0,Nat.zero_le _,rfl,hA.to (by simp only [List.replicate_zero,List.nil_append,Nat.sub_zero]),hs⟩
 case round=>
  obtain ⟨k,hk,rfl,hsat,hside⟩:=hrel;clear hA hs;have hl:(List.replicate k (-1)++List.replicate (n-k) (0:Int)).length=n:=by simp;omega
  by_cases hlt:k<n
  ·have hlt':(k:Int)<(n:Int):=by omega
   have hv:wr.cell? ⟨g,k,none⟩=some (.int .i64 ((List.replicate k (-1)++List.replicate (n-k) (0:Int)).getD k 0)):=(hsat.cell k).trans (bA (by rw [hl];exact hlt));have hf:=hsat.frozen k;generalize (List.replicate k (-1)++List.replicate (n-k) (0:Int)).getD k 0=q at hv;have h4:=hsat.setCell k (.int .i64 (-1));rw [fZ,vH n k (-1) hlt] at h4;have H4:=ae h4;clear hsat h4 hl
   go_wp2
   go_roundw
   case rel=>exact ⟨k+1,by omega,by go_num,H4.out,hside.setCell _ _⟩
   case measure=>simp [intOf];omega
  ·obtain rfl:k=n:=by omega
   rw [Nat.sub_self,List.replicate_zero,List.append_nil] at hsat;have H4:=ae hsat;clear hsat hl hlt
   go_wp2
   go_ret
   exact ⟨g,rfl,H4.out,hside⟩
def Lt (b p:Nat) (w:World) (e:Ending) (w':World):Prop:=∃ t,e = .returned (.pointer (some ⟨t,0,none⟩))∧Sat w' (bq t (Tb.fresh b p)*whole w)∧ai w w'
theorem A3 (b p:Nat) (w:World) (hb:b≤1048576) (hp:p≤1048576):Calls Tryz.prog 223 #[.int .i64 b,.int .i64 p] w (Lt b p w):=by
 go_enter Tryz.func223,Tryz.ntmps223
 go_wp2_with fail
 refine (vT b w hb).mono ?_;rintro e w1 ⟨g1,rfl,h1,d1⟩
 go_wp2_with fail
 refine (vT p w1 hp).mono ?_;rintro e w2 ⟨g2,rfl,h2,d2⟩;have h3:=(h2.under h1).alloc (.cells #[.slice (some ⟨g1,0,none⟩) b b,.slice (some ⟨g2,0,none⟩) p p,.int .i64 0] 249 (0,0))
 go_wp2
 go_ret
 refine ⟨_,rfl,Sat.wR ⟨g1,g2⟩ ?_,(d1.trans d2).alloc _⟩;exact h3.to (by simp only [Tb.fresh,List.length_replicate];ac_rfl)
def Ak (x:Int × Int) (vs:Array Value):ah:=fact (vs=#[.int .i64 x.1,.int .i64 x.2])
end Go.Nn

/- Steps. -/
import Derived.Test.YtacliaemfegopaaGreatDoorKP26
import Derived.Lib.Bytealg
set_option linter.unusedVariables false
set_option linter.unusedSimpArgs false
set_option maxRecDepth 100000
set_option maxHeartbeats 40000000
open Go.Proofs Go.SL
namespace Go.SL
open Go.RowKit
structure Ord {α:Type} (lt:α→α→Bool):Prop where
 asy:∀ x y,lt x y=true→lt y x=false
 tr:∀ x y z,lt y x=false→lt z y=false→lt z x=false
def jD {α:Type} (lt:α→α→Bool) (L:List α):Prop:=L.Pairwise fun x y=>lt y x=false
section
variable {α:Type} {lt:α→α→Bool}
theorem jD.nil:jD lt []:=List.Pairwise.nil
theorem jD.one (x:α):jD lt [x]:=List.pairwise_singleton _ _
theorem jD.app {A B:List α}:jD lt (A++B)↔jD lt A∧jD lt B∧∀ x ∈ A,∀ y ∈ B,lt y x=false:=List.pairwise_append
theorem jD.cons {x:α} {B:List α}:jD lt (x :: B)↔(∀ y ∈ B,lt y x=false)∧jD lt B:=List.pairwise_cons
theorem jD.last (O:Ord lt) {A:List α} {z x:α} (h:jD lt (A++[z])) (hx:x ∈ A++[z]):lt z x=false:=by
 rcases List.mem_append.1 hx with h1|h1
 ·exact (jD.app.1 h).2.2 x h1 z (List.mem_singleton_self z)
 ·rw [List.mem_singleton.1 h1]
  cases hz:lt z z with
  | false=>rfl
  | true=>have h9:=O.asy z z hz;rw [hz] at h9;cases h9
theorem jD.head (O:Ord lt) {B:List α} {z x:α} (h:jD lt (z :: B)) (hx:x ∈ z :: B):lt x z=false:=by
 rcases List.mem_cons.1 hx with h1|h1
 ·rw [h1]
  cases hz:lt z z with
  | false=>rfl
  | true=>have h9:=O.asy z z hz;rw [hz] at h9;cases h9
 ·exact (jD.cons.1 h).1 x h1
theorem jD.PS (O:Ord lt) {A B:List α} (hA:jD lt A) (hB:jD lt B) (h:∀ A' z y B',A=A'++[z]→B=y :: B'→lt y z=false):∀ x ∈ A,∀ y ∈ B,lt y x=false:=by
 intro x hx y hy;rcases List.eq_nil_or_concat A with rfl|⟨A',z,rfl⟩
 ·cases hx
 ·cases B with
  | nil=>cases hy
  | cons b B'=>
   rw [List.concat_eq_append] at hx hA;have h1:=hA.last O hx;have h2:=hB.head O hy;have h3:=h A' z b B' (List.concat_eq_append ..) rfl;exact O.tr x b y (O.tr x z b h1 h3) h2
theorem jD.join (O:Ord lt) {A B:List α} (hA:jD lt A) (hB:jD lt B) (h:∀ A' z y B',A=A'++[z]→B=y :: B'→lt y z=false):jD lt (A++B):=
 jD.app.2 ⟨hA,hB,jD.PS O hA hB h⟩
theorem jD.insert (O:Ord lt) {A B:List α} {u:α} (h:jD lt (A++B)) (h1:∀ A' z,A=A'++[z]→lt u z=false) (h2:∀ y B',B=y :: B'→lt y u=false):jD lt (A++u :: B):=by
 obtain ⟨hA,hB,hx⟩:=jD.app.1 h;refine jD.join O hA (jD.cons.2 ⟨fun y hy=>?_,hB⟩) fun A' z y B' e1 e2=>?_
 ·cases B with
  | nil=>cases hy
  | cons b B'=>exact O.tr u b y (h2 b B' rfl) (hB.head O hy)
 ·simp only [List.cons.injEq] at e2
  rw [← e2.1];exact h1 A' z e1
end
def zr (x y:aM):Bool:=decide (Lib.compareBytes x.nm y.nm<0)
theorem vS:∀ a b:List UInt8,Lib.compareBytes a b=- Lib.compareBytes b a
 | [],[]=>rfl
 | [],_ :: _=>rfl
 | _ :: _,[]=>rfl
 | a :: aa,b :: bs=>by
  unfold Lib.compareBytes
  by_cases h:a<b
  ·have h2:¬ b<a:=fun h3=>absurd (UInt8.lt_trans h h3) (UInt8.lt_irrefl a)
   rw [if_pos h,if_neg h2,if_pos h]
  ·rw [if_neg h]
   by_cases h2:b<a
   ·rw [if_pos h2,if_pos h2];rfl
   ·rw [if_neg h2,if_neg h2,if_neg h];exact vS aa bs
theorem s5:∀ a b:List UInt8,Lib.compareBytes a b=-1∨Lib.compareBytes a b=0∨Lib.compareBytes a b=1
 | [],[]=>.inr (.inl rfl)
 | [],_ :: _=>.inl rfl
 | _ :: _,[]=>.inr (.inr rfl)
 | a :: aa,b :: bs=>by
  unfold Lib.compareBytes
  split
  ·exact .inl rfl
  ·split
   ·exact .inr (.inr rfl)
   ·exact s5 aa bs
theorem te:∀ a b c:List UInt8,0≤Lib.compareBytes b a→0≤Lib.compareBytes c b→0≤Lib.compareBytes c a
 | [],_,[],_,_=>by simp [Lib.compareBytes]
 | [],_,_ :: _,_,_=>by simp [Lib.compareBytes]
 | a :: aa,[],_,h,_=>by simp [Lib.compareBytes] at h
 | a :: aa,b :: bs,[],_,h=>by simp [Lib.compareBytes] at h
 | a :: aa,b :: bs,c :: cs,h1,h2=>by
  unfold Lib.compareBytes at h1 h2 ⊢
  by_cases x1:b<a
  ·rw [if_pos x1] at h1;omega
  ·by_cases x2:c<b
   ·rw [if_pos x2] at h2;omega
   ·rw [if_neg x1] at h1
    rw [if_neg x2] at h2;have hab:a≤b:=UInt8.not_lt.1 x1;have hbc:b≤c:=UInt8.not_lt.1 x2;have x3:¬ c<a:=UInt8.not_lt.2 (UInt8.le_trans hab hbc);rw [if_neg x3]
    by_cases y3:a<c
    ·rw [if_pos y3];decide
    ·rw [if_neg y3]
     have hac:a=c:=UInt8.le_antisymm (UInt8.le_trans hab hbc) (UInt8.not_lt.1 y3);subst hac;have y1:¬ a<b:=UInt8.not_lt.2 hbc;have y2:¬ b<a:=x1;rw [if_neg y1] at h1;rw [if_neg y2] at h2;exact te aa bs cs h1 h2
theorem LW:Ord zr where
 asy:=fun x y h=>by
  unfold zr at h ⊢;have:=of_decide_eq_true h;have e:=vS x.nm y.nm;exact decide_eq_false (by omega)
 tr:=fun x y z h1 h2=>by
  unfold zr at h1 h2 ⊢;have e1:=of_decide_eq_false h1;have e2:=of_decide_eq_false h2;have:=te x.nm y.nm z.nm (by omega) (by omega);exact decide_eq_false (by omega)
def Ke {α:Type} (L:List α) (i j:Nat) (x y:α):List α:=(L.set i y).set j x
theorem GQ {α:Type} (S T R:List α) (x y:α):Ke (S++x :: (T++y :: R)) S.length (S.length+1+T.length) x y=S++y :: (T++x :: R):=by
 unfold Ke;rw [List.set_append_right _ _ (Nat.le_refl _),Nat.sub_self,List.set_cons_zero,List.set_append_right _ _ (by omega),show S.length+1+T.length-S.length=T.length+1 by omega,List.set_cons_succ,List.set_append_right _ _ (Nat.le_refl _),Nat.sub_self,List.set_cons_zero]
end Go.SL
namespace Go.Fs
open Go.RowKit Go.SL Go.Ba
abbrev N8:Value:=.func (.func 101) #[] #[]
def Dr (x y:aM):Int:=Lib.compareBytes x.nm y.nm
theorem MJ (x y:aM):decide (Dr x y<0)=zr x y:=rfl
theorem AT (x y:aM):-1≤Dr x y∧Dr x y≤1:=by
 unfold Dr;rcases s5 x.nm y.nm with h|h|h <;> omega
def QZ (x y:aM) (w:World) (e:Ending) (w':World):Prop:=e = .returned (.int .i64 (Dr x y))∧Sat w' (whole w)∧ai w w'
theorem Jz (x y:aM) (w:World):Calls Tryz.prog 101 #[.agg #[.int .i64 (x.nd:Int),.string (str x.nm)],.agg #[.int .i64 (y.nd:Int),.string (str y.nm)]] w (QZ x y w):=by
 refine aI fun Q HQ=>?_;have hA:=ae (((Sat.whole w).alloc (.cells #[.int .i64 (x.nd:Int),.string (str x.nm)] 99 (0,0))).alloc (.cells #[.int .i64 (y.nd:Int),.string (str y.nm)] 99 (0,0))).right.right;have dA:=ae (((ai.refl w).alloc (.cells #[.int .i64 (x.nd:Int),.string (str x.nm)] 99 (0,0))).alloc (.cells #[.int .i64 (y.nd:Int),.string (str y.nm)] 99 (0,0)));have hc:=fun w=>Tryz.strings_Compare (str x.nm) (str y.nm) w;have HC:=ae hc;clear hc
 go_enter Tryz.func101,Tryz.ntmps101
 go_wp2_with fail
 refine (HC.out _).mono ?_;rintro e w2 ⟨rfl,rfl⟩
 go_wp2_with fail
 exact HQ.out _ _ ⟨rfl,hA.out,dA.out⟩
def gr (v:Value) (L:List aM):ah:=sl 99 2 v L.length (bk L)
theorem FO {L:List aM} {i:Nat} (hi:i<L.length) (e:aM):((bk L).set (i*2) (.int .i64 (e.nd:Int))).set (i*2+1) (.string (str e.nm))=bk (L.set i e):=by
 induction L generalizing i with
 | nil=>simp at hi
 | cons a L ih=>
  have e1:bk (a :: L) = .int .i64 (a.nd:Int) :: .string (str a.nm) :: bk L:=rfl
  cases i with
  | zero=>rw [e1];rfl
  | succ i=>
   have h2:(i+1)*2=i*2+1+1:=by omega
   rw [e1,h2,List.set_cons_succ,List.set_cons_succ,List.set_cons_succ,List.set_cons_succ];show _ = .int .i64 (a.nd:Int) :: .string (str a.nm) :: bk (L.set i e)
   rw [← ih (by simpa using hi)]
section
variable {w:World} {v:Value} {L:List aM} {F:ah} {i j:Nat}
theorem sL (h:Sat w (gr v L*F)) (hi:i<L.length) (e:aM):∃ g c,v = .slice (some ⟨g,0,none⟩) L.length c∧w.frozen? ⟨g,i*2,none⟩=false∧w.frozen? ⟨g,i*2+1,none⟩=false ∧
  Sat ((w.setCell ⟨g,i*2,none⟩ (.int .i64 (e.nd:Int))).setCell ⟨g,i*2+1,none⟩ (.string (str e.nm))) (gr v (L.set i e)*F):=by
 rcases h.cX with ⟨_,h0,_⟩|⟨g,cap,cur,rfl,h3,h4,h5,h6,h7⟩
 ·omega
 ·refine ⟨g,cap,rfl,h7.frozen _,h7.frozen _,?_⟩
  have h8:=(h7.setCell (i*2) (.int .i64 (e.nd:Int))).setCell (i*2+1) (.string (str e.nm));have h9:=Sat.l7 (sz:=2) (n:=L.length) (cap:=cap) h8 h3 h4 (by rw [Array.size_setIfInBounds,Array.size_setIfInBounds];exact h5);unfold gr;rw [List.length_set];refine h9.to ?_;congr 2;rw [← FO hi,← h6];simp only [Array.toList_setIfInBounds];rw [List.take_set,List.take_set]
theorem oU (h:Sat w (gr v L*F)) (hi:i<L.length) {x:aM} (hx:L[i]?=some x):∃ g c,v = .slice (some ⟨g,0,none⟩) L.length c∧w.cell? ⟨g,i*2,none⟩=some (.int .i64 (x.nd:Int))∧w.cell? ⟨g,i*2+1,none⟩=some (.string (str x.nm))∧L.length≤c∧(c:Int)≤9223372036854775807:=by
 obtain ⟨g,c,e,e1,e2,k1,k2⟩:=rV h hi;have:L[i]=x:=by rw [List.getElem?_eq_getElem hi] at hx;exact Option.some.inj hx
 rw [this] at e1 e2;exact ⟨g,c,e,e1,e2,k1,by omega⟩
theorem vU (h:Sat w (gr v L*F)) (hi:i<L.length) (hj:j<L.length) (hij:i≠j) {x y:aM} (hx:L[i]?=some x) (hy:L[j]?=some y):∃ g c,v = .slice (some ⟨g,0,none⟩) L.length c∧L.length≤c∧(c:Int)≤9223372036854775807 ∧
  (w.cell? ⟨g,i*2,none⟩=some (.int .i64 (x.nd:Int))∧w.cell? ⟨g,i*2+1,none⟩=some (.string (str x.nm))∧w.cell? ⟨g,j*2,none⟩=some (.int .i64 (y.nd:Int))∧w.cell? ⟨g,j*2+1,none⟩=some (.string (str y.nm))) ∧
  (w.frozen? ⟨g,i*2,none⟩=false∧w.frozen? ⟨g,i*2+1,none⟩=false∧w.frozen? ⟨g,j*2,none⟩=false∧w.frozen? ⟨g,j*2+1,none⟩=false) ∧
  Sat ((((w.setCell ⟨g,i*2,none⟩ (.int .i64 (y.nd:Int))).setCell ⟨g,i*2+1,none⟩ (.string (str y.nm))).setCell ⟨g,j*2,none⟩ (.int .i64 (x.nd:Int))).setCell ⟨g,j*2+1,none⟩ (.string (str x.nm))) (gr v (Ke L i j x y)*F):=by
 obtain ⟨g,c,rfl,e1,e2,k1,k2⟩:=oU h hi hx;obtain ⟨g',c',e,e3,e4,-,-⟩:=oU h hj hy;simp only [Value.slice.injEq,Option.some.injEq,Addr.mk.injEq] at e;obtain ⟨⟨rfl,-⟩,-⟩:=e;obtain ⟨g',c',e,f1,f2,h1⟩:=sL h hi y;simp only [Value.slice.injEq,Option.some.injEq,Addr.mk.injEq] at e;obtain ⟨⟨rfl,-⟩,-⟩:=e;obtain ⟨g',c',e,f3,f4,-⟩:=sL h hj y;simp only [Value.slice.injEq,Option.some.injEq,Addr.mk.injEq] at e;obtain ⟨⟨rfl,-⟩,-⟩:=e;obtain ⟨g',c',e,_,_,h2⟩:=sL h1 (by rw [List.length_set];exact hj:j<_) x;simp only [Value.slice.injEq,Option.some.injEq,Addr.mk.injEq] at e;obtain ⟨⟨rfl,-⟩,-⟩:=e;exact ⟨g,c,rfl,k1,k2,⟨e1,e2,e3,e4⟩,⟨f1,f2,f3,f4⟩,h2⟩
end
theorem mG {w:World} {v:Value} {S T:List aM} {x y:aM} {F:ah} (h:Sat w (gr v (S++x :: y :: T)*F)) {N i:Nat} (hi:S.length=i) (hN:(S++x :: y :: T).length=N):∃ g c,v = .slice (some ⟨g,0,none⟩) N c∧N≤c∧(c:Int)≤9223372036854775807 ∧
  (w.cell? ⟨g,i*2,none⟩=some (.int .i64 (x.nd:Int))∧w.cell? ⟨g,i*2+1,none⟩=some (.string (str x.nm))∧w.cell? ⟨g,(i+1)*2,none⟩=some (.int .i64 (y.nd:Int))∧w.cell? ⟨g,(i+1)*2+1,none⟩=some (.string (str y.nm))) ∧
  (w.frozen? ⟨g,i*2,none⟩=false∧w.frozen? ⟨g,i*2+1,none⟩=false∧w.frozen? ⟨g,(i+1)*2,none⟩=false∧w.frozen? ⟨g,(i+1)*2+1,none⟩=false) ∧
  Sat ((((w.setCell ⟨g,i*2,none⟩ (.int .i64 (y.nd:Int))).setCell ⟨g,i*2+1,none⟩ (.string (str y.nm))).setCell ⟨g,(i+1)*2,none⟩ (.int .i64 (x.nd:Int))).setCell ⟨g,(i+1)*2+1,none⟩ (.string (str x.nm))) (gr v (S++y :: x :: T)*F) ∧
  Sat ((((w.setCell ⟨g,(i+1)*2,none⟩ (.int .i64 (x.nd:Int))).setCell ⟨g,(i+1)*2+1,none⟩ (.string (str x.nm))).setCell ⟨g,i*2,none⟩ (.int .i64 (y.nd:Int))).setCell ⟨g,i*2+1,none⟩ (.string (str y.nm))) (gr v (S++y :: x :: T)*F):=by
 subst hi hN;have ex:(S++x :: y :: T)[S.length]?=some x:=by rw [List.getElem?_append_right (Nat.le_refl _),Nat.sub_self];rfl
 have ey:(S++x :: y :: T)[S.length+1]?=some y:=by rw [List.getElem?_append_right (by omega),show S.length+1-S.length=1 by omega];rfl
 obtain ⟨g,c,rfl,k1,k2,hc,hf,h1⟩:=vU h (by simp) (by simp) (by omega) ex ey;obtain ⟨g',c',e,_,_,_,_,h2⟩:=vU h (i:=S.length+1) (j:=S.length) (by simp) (by simp) (by omega) ey ex;simp only [Value.slice.injEq,Option.some.injEq,Addr.mk.injEq] at e;obtain ⟨⟨rfl,-⟩,-⟩:=e;refine ⟨g,c,rfl,k1,k2,hc,hf,?_,?_⟩
 ·have e:=GQ S [] T x y
  rw [List.length_nil,Nat.add_zero,List.nil_append,List.nil_append] at e;rw [e] at h1;exact h1
 ·have e:Ke (S++x :: y :: T) (S.length+1) S.length y x=S++y :: x :: T:=by
   unfold Ke;rw [List.set_append_right _ _ (by omega),show S.length+1-S.length=1 by omega,List.set_append_right _ _ (Nat.le_refl _),Nat.sub_self];rfl
  rw [e] at h2;exact h2
def RC (v:Value) (X W Y:List aM) (a b N:Nat) (w0:World) (F:ah) (u8:Value) (wr:World):Prop:=
 ∃ (S R:List aM),u8 = .int .i64 ((a+S.length:Nat):Int)∧1≤S.length∧a+S.length+R.length=b∧(S++R).Perm W∧jD zr S∧ai w0 wr∧Sat wr (gr v (X++(S++(R++Y)))*F)
def Ri (v:Value) (X S Z:List aM) (x:aM) (a:Nat) (w0:World) (F:ah) (u9:Value) (wr:World):Prop:=
 ∃ (P Q:List aM),u9 = .int .i64 ((a+P.length:Nat):Int)∧P++Q=S∧(∀ y B',Q=y :: B'→zr x y=true)∧ai w0 wr∧Sat wr (gr v (X++(P++x :: (Q++Z)))*F)
def wO (v:Value) (X W Y:List aM) (F:ah) (w:World) (e:Ending) (w':World):Prop:=
 ∃ W':List aM,e = .returned (.tuple #[])∧W'.Perm W∧jD zr W'∧ai w w'∧Sat w' (gr v (X++(W'++Y))*F)
theorem Bz (v:Value) (X W Y:List aM) (a b:Nat) (ha:X.length=a) (hb:a+W.length=b) (w:World) (F:ah) (hl:(X++(W++Y)).length≤4000) (h:Sat w (gr v (X++(W++Y))*F)) :
  Calls Tryz.prog 213 #[v,.int .i64 (a:Int),.int .i64 (b:Int),N8] w (wO v X W Y F w):=by
 refine aI fun Q' HQ=>?_;obtain ⟨va,vc,rfl⟩:=aB h;obtain ⟨N,hN⟩:∃ N,(X++(W++Y)).length=N:=⟨_,rfl⟩
 rw [hN] at hl h HQ ⊢;have hNs:a+W.length+Y.length=N:=by rw [← hN,List.length_append,List.length_append,ha];omega
 have hN':(N:Int)≤4000:=by omega
 have hb':(b:Int)≤(N:Int):=by omega
 have ha':(a:Int)≤(b:Int):=by omega
 have H:=ae h;have Ha:=ae ha;have Hb:=ae hb;have HNs:=ae hNs;have HN:=ae hN;clear h ha hb hNs hN
 cases W with
 | nil=>
  have hab:b=a:=by rw [← Hb.out];rfl
  subst hab
  go_enter Tryz.func213,Tryz.ntmps213
  go_wp2_with fail
  refine wp_loop_rounds 1 ?_;rw [rounds_succ]
  go_wp2_with fail
  go_end0
  exact HQ.out _ _ ⟨[],rfl,List.Perm.refl _,jD.nil,ai.refl w,H.out⟩
 | cons x0 R0=>
  go_enter Tryz.func213,Tryz.ntmps213
  go_wp2_with fail
  go_loopw [8] (fun u8 wr=>RC (.slice va N vc) X (x0 :: R0) Y a b N w F u8 wr) (fun u8 _=>b-(Proofs.intOf u8).toNat)
  case atStart=>exact ⟨[x0],R0,by simp,Nat.le_refl _,by have:=Hb.out;simp at this ⊢;omega,List.Perm.refl _,jD.one _,ai.refl w,H.out⟩
  case round=>
   obtain ⟨S,R,rfl,hS1,hSR,hP,hS,hside,hsat⟩:=hrel;clear H;obtain ⟨i,hi⟩:∃ i,a+S.length=i:=⟨_,rfl⟩
   rw [hi] at hSR ⊢;have HP:=ae hP;have HS:=ae hS;clear hP hS
   cases R with
   | nil=>
    have hib:i=b:=by simpa using hSR
    subst hib;have H2:=ae hsat;clear hsat hi
    go_wp2_with fail
    go_end0
    exact HQ.out _ _ ⟨S,rfl,by have:=HP.out;rwa [List.append_nil] at this,HS.out,hside,by simpa using H2.out⟩
   | cons x R1=>
    rw [List.length_cons] at hSR;have hib:(i:Int)<(b:Int):=by omega
    have hst:Ri (.slice va N vc) X S (R1++Y) x a w F (.int .i64 (i:Int)) wr:=⟨S,[],by rw [hi],List.append_nil S,fun y B' h=>(by cases h),hside,hsat⟩
    have Hst:=ae hst;have Hi:=ae hi;clear hsat hst hi
    go_wp2_with fail
    go_loopw [9] (fun u9 wr=>Ri (.slice va N vc) X S (R1++Y) x a w F u9 wr) (fun u9 _=>(Proofs.intOf u9).toNat)
    case atStart=>exact Hst.out
    case round=>
     clear Hst;obtain ⟨P,Q,rfl,hPQ,hQ,hside2,hsat2⟩:=hrel;obtain ⟨j,hj⟩:∃ j,a+P.length=j:=⟨_,rfl⟩
     rw [hj]
     have hlen:(X++(P++x :: (Q++(R1++Y)))).length=N:=by
      have h1:=HNs.out;have h2:=Hb.out;have h3:=Hi.out;rw [← hPQ,List.length_append] at h3;rw [List.length_cons] at h1 h2;simp only [List.length_append,List.length_cons,Ha.out];omega
     have hjN:j<N:=by rw [← hlen];simp only [List.length_append,List.length_cons,Ha.out];omega
     have hja:a≤j:=by omega
     rcases List.eq_nil_or_concat P with rfl|⟨P',z,rfl⟩
     ·obtain rfl:a=j:=by simpa using hj
      rw [List.nil_append] at hPQ hsat2;subst hPQ;have H2:=ae hsat2;have HQ2:=ae hQ;clear hsat2 hj hlen hQ;have hnl:¬ ((a:Int)<(a:Int)):=by omega
      go_wp2_with fail
      go_quiet (fail)
      go_wp2_with fail
      go_roundw
      case rel=>exact ⟨x :: Q,R1,by simp;have:=Hi.out;omega,by simp,by rw [List.length_cons];have:=Hi.out;omega,(List.perm_middle.symm.trans HP.out),jD.insert LW (A:=[]) HS.out (fun A' z h=>absurd h (by simp)) (fun y B' h=>LW.asy _ _ (HQ2.out y B' h)),hside2.drewN nq,by have h9:=Sat.of_heap (w':=wr.drewN nq) H2.out rfl;simpa using h9⟩
      case measure=>have:=Hi.out;simp [Proofs.intOf];omega
     ·rw [List.concat_eq_append] at *
      obtain ⟨k,hk⟩:∃ k,(X++P').length=k:=⟨_,rfl⟩
      have hkj:k+1=j:=by rw [← hk,← hj];simp only [List.length_append,List.length_singleton,Ha.out];omega
      have e0:X++(P'++[z]++x :: (Q++(R1++Y)))=(X++P')++z :: x :: (Q++(R1++Y)):=by simp
      rw [e0] at hsat2 hlen;obtain ⟨g,c,e,k1,k2,⟨c1,c2,c3,c4⟩,-,-,-⟩:=mG hsat2 hk hlen;simp only [Value.slice.injEq] at e;obtain ⟨rfl,-,rfl⟩:=e;rw [hkj] at c3 c4;have hcmp:=Jz x z;have hcl:=MJ x z;have hcr:=AT x z;obtain ⟨cz,hcz⟩:∃ c,Dr x z=c:=⟨_,rfl⟩
      have hcmp2:∀ w,Calls Tryz.prog 101 #[.agg #[.int .i64 (x.nd:Int),.string (str x.nm)],.agg #[.int .i64 (z.nd:Int),.string (str z.nm)]] w (fun e w'=>e = .returned (.int .i64 cz)∧Sat w' (whole w)∧ai w w'):=fun w=>by
       refine (hcmp w).mono ?_;rintro e w' ⟨rfl,h1,h2⟩;exact ⟨by rw [hcz],h1,h2⟩
      rw [hcz] at hcl hcr;have HC:=ae hcmp2;have HS2:=ae hsat2;have Hk:=ae hk;have HQ2:=ae hQ;have HPQ:=ae hPQ;have Hlen:=ae hlen;have Hkj:=ae hkj;have Hj:=ae hj;have t1:(a:Int)<(j:Int):=by have:=hj;simp only [List.length_append,List.length_singleton] at this;omega
      have t2:(j:Int)<(N:Int):=by omega
      have t3:(k:Int)<(N:Int):=by omega
      have t4:(N:Int)≤(vc:Int):=by omega
      have t5:IntKind.i64.wrap ((j:Int)-1)=(k:Int):=by rw [IntKind.wrap_i64];omega
      have hcl2:=ae hcl;have hgt:decide ((a:Int)<(j:Int))=true:=by simpa using t1
      clear hcmp hcmp2 hcz hsat2 hk hQ hPQ hlen hkj hj k1 e0 hcl
      by_cases hz:cz<0
      ·have hlt:Hid (zr x z=true):=by show _=_;rw [← hcl2.out];exact decide_eq_true hz
       have hzb:decide (cz<0)=true:=decide_eq_true hz
       go_wp2_with fail
       go_region_held3 (fun w'=>w'.cell? ⟨g,k*2,none⟩=some (.int .i64 (z.nd:Int))∧w'.cell? ⟨g,k*2+1,none⟩=some (.string (str z.nm))∧w'.cell? ⟨g,j*2,none⟩=some (.int .i64 (x.nd:Int))∧w'.cell? ⟨g,j*2+1,none⟩=some (.string (str x.nm))) (first|exact ⟨c1,c2,c3,c4⟩|exact kA|go_keep)
        (first|(go_at_call 101;refine (HC.out wr.drew).mono ?_;rintro e w5 ⟨rfl,h5,d5⟩;have H5:=h5.dO (Sat.drew HS2.out);obtain ⟨g',c',e',-,-,kA',-,-,-⟩:=mG H5 Hk.out Hlen.out;have kA:w5.cell? ⟨g,k*2,none⟩=some (.int .i64 (z.nd:Int))∧w5.cell? ⟨g,k*2+1,none⟩=some (.string (str z.nm))∧w5.cell? ⟨g,j*2,none⟩=some (.int .i64 (x.nd:Int))∧w5.cell? ⟨g,j*2+1,none⟩=some (.string (str x.nm)):=by simp only [Value.slice.injEq,Option.some.injEq,Addr.mk.injEq] at e';obtain ⟨⟨rfl,-⟩,-⟩:=e';rwa [Hkj.out] at kA'))
       rename_i hHeld;have D5:=ae (hside2.drew.trans d5);obtain ⟨g',c',e',-,-,⟨b1,b2,b3,b4⟩,⟨f1,f2,f3,f4⟩,h7,h8⟩:=mG H5 Hk.out Hlen.out;simp only [Value.slice.injEq,Option.some.injEq,Addr.mk.injEq] at e';obtain ⟨⟨rfl,-⟩,-⟩:=e';rw [Hkj.out] at b3 b4 f3 f4 h7 h8;have H7:=ae h7;have H8:=ae h8;have t6:IntKind.i64.wrap (k:Int)=(k:Int):=by rw [IntKind.wrap_i64];omega
       have t7:(j:Int)-1=(k:Int):=by have:=Hkj.out;omega
       clear h7 h8 H5 h5 d5 kA hHeld HC HS2 c1 c2 c3 c4
       go_wp2_with fail
       go_region_law (fail)
       all_goals
        go_wp2
        go_roundw
        case rel=>exact ⟨P',z :: Q,by have:=Hk.out;rw [List.length_append,Ha.out] at this;rw [this],by rw [← HPQ.out];simp,fun y B' h=>by
          simp only [List.cons.injEq] at h;rw [← h.1];exact hlt.out,((((D5.out.setCell _ _).setCell _ _).setCell _ _).setCell _ _).drew,by
          first
           | (have h9:=H8.out.drew;simpa using h9)
           | (have h9:=H7.out.drew;simpa using h9)⟩
        case measure=>have:=Hkj.out;simp [Proofs.intOf];omega
      ·have hlt:Hid (zr x z=false):=by show _=_;rw [← hcl2.out];exact decide_eq_false hz
       have hzb:decide (cz<0)=false:=decide_eq_false hz
       go_wp2_with fail
       go_region_held3 (fun w'=>w'.cell? ⟨g,k*2,none⟩=some (.int .i64 (z.nd:Int))∧w'.cell? ⟨g,k*2+1,none⟩=some (.string (str z.nm))∧w'.cell? ⟨g,j*2,none⟩=some (.int .i64 (x.nd:Int))∧w'.cell? ⟨g,j*2+1,none⟩=some (.string (str x.nm))) (first|exact ⟨c1,c2,c3,c4⟩|exact kA|go_keep)
        (first|(go_at_call 101;refine (HC.out wr.drew).mono ?_;rintro e w5 ⟨rfl,h5,d5⟩;have H5:=h5.dO (Sat.drew HS2.out);obtain ⟨g',c',e',-,-,kA',-,-,-⟩:=mG H5 Hk.out Hlen.out;have kA:w5.cell? ⟨g,k*2,none⟩=some (.int .i64 (z.nd:Int))∧w5.cell? ⟨g,k*2+1,none⟩=some (.string (str z.nm))∧w5.cell? ⟨g,j*2,none⟩=some (.int .i64 (x.nd:Int))∧w5.cell? ⟨g,j*2+1,none⟩=some (.string (str x.nm)):=by simp only [Value.slice.injEq,Option.some.injEq,Addr.mk.injEq] at e';obtain ⟨⟨rfl,-⟩,-⟩:=e';rwa [Hkj.out] at kA'))
       rename_i hHeld;have D5:=ae (hside2.drew.trans d5);have HH5:=ae H5;clear H5 h5 d5 kA hHeld HC HS2 c1 c2 c3 c4
       go_wp2_with fail
       go_roundw
       case rel=>exact ⟨(P'++[z])++x :: Q,R1,by
         have h2:a+((P'++[z])++x :: Q).length=i+1:=by
          have h1:=Hi.out;rw [← HPQ.out] at h1;simp only [List.length_append,List.length_cons,List.length_nil] at h1 ⊢;omega
         rw [h2];simp,by simp only [List.length_append,List.length_cons];omega,by
         have h1:=Hi.out;rw [← HPQ.out] at h1;simp only [List.length_append,List.length_cons,List.length_nil] at h1 ⊢;omega,by
         have h1:=HP.out;rw [← HPQ.out] at h1;refine (List.Perm.trans ?_ h1);have e9:((P'++[z])++x :: Q)++R1=(P'++[z])++(x :: (Q++R1)):=by simp
         rw [e9,List.append_assoc (P'++[z]) Q];exact List.Perm.append_left _ List.perm_middle.symm,by
         have h1:=HS.out;rw [← HPQ.out] at h1
         exact jD.insert LW h1 (fun A' y h=>by
          have:=List.append_inj_right' h rfl;simp only [List.cons.injEq] at this;rw [← this.1];exact hlt.out) (fun y B' h=>LW.asy _ _ (HQ2.out y B' h)),D5.out,by have h9:=HH5.out;simpa using h9⟩
       case measure=>have:=Hi.out;simp [Proofs.intOf];omega
theorem ya {w:World} {v:Value} {L:List aM} {F:ah} {x y:aM} {i j N:Nat} (h:Sat w (gr v L*F)) (hN:L.length=N) (hi:i<N) (hj:j<N) (hx:L[i]?=some x) (hy:L[j]?=some y):∃ g c,v = .slice (some ⟨g,0,none⟩) N c∧N≤c∧(c:Int)≤9223372036854775807 ∧
  (w.cell? ⟨g,i*2,none⟩=some (.int .i64 (x.nd:Int))∧w.cell? ⟨g,i*2+1,none⟩=some (.string (str x.nm))∧w.cell? ⟨g,j*2,none⟩=some (.int .i64 (y.nd:Int))∧w.cell? ⟨g,j*2+1,none⟩=some (.string (str y.nm))):=by
 subst hN;obtain ⟨g,c,rfl,e1,e2,k1,k2⟩:=oU h hi hx;obtain ⟨g',c',e,e3,e4,-,-⟩:=oU h hj hy;simp only [Value.slice.injEq,Option.some.injEq,Addr.mk.injEq] at e;obtain ⟨⟨rfl,-⟩,-⟩:=e;exact ⟨g,c,rfl,k1,k2,e1,e2,e3,e4⟩
def yz:Nat:=19
def P4 (v:Value) (L0:List aM) (F:ah) (w:World) (e:Ending) (w':World):Prop:=
 ∃ W:List aM,e = .returned (.tuple #[])∧W.Perm L0∧jD zr W∧ai w w'∧Sat w' (gr v W*F)
theorem AY (v:Value) (L0:List aM) (w:World) (F:ah) (hl:L0.length≤19) (h:Sat w (gr v L0*F)) (N:Nat) (hN:L0.length=N) :
  Calls Tryz.prog 158 #[v,.int .i64 (N:Int),N8] w (P4 v L0 F w):=by
 refine aI fun Q' HQ=>?_;obtain ⟨va,vc,rfl⟩:=aB h;have hc:=Bz _ [] L0 [] 0 N rfl (by omega) w F (by simp;omega) (by rw [List.append_nil];exact h);rw [hN] at hl HQ hc ⊢;have hN1:¬ (20:Int)≤(N:Int):=by omega
 have hN2:¬ (20:Int)<(N:Int):=by omega
 have Hc:=ae hc;clear h hN hc
 go_enter Tryz.func158,Tryz.ntmps158
 go_wp2_with fail
 refine wp_loop_rounds 1 ?_;rw [rounds_succ]
 go_wp2_with fail
 refine Hc.out.mono ?_;rintro r w2 ⟨W,rfl,p2,s2,d2,h2⟩;have H2:=ae h2;have P2:=ae p2;have S2:=ae s2;clear h2 p2 s2 Hc
 go_wp2_with fail
 refine wp_loop_rounds 1 ?_;rw [rounds_succ]
 go_wp2_with fail
 go_end0
 exact HQ.out _ _ ⟨W,rfl,P2.out,S2.out,d2,by have h9:=H2.out;simpa using h9⟩
theorem sr (v:Value) (L0:List aM) (w:World) (F:ah) (hl:L0.length≤yz) (h:Sat w (gr v L0*F)) :
  Calls Tryz.prog 100 #[v,N8] w (P4 v L0 F w):=by
 refine aI fun Q' HQ=>?_;have hs:=ae (AY v L0 w F (Nat.le_trans hl (by decide)) h _ rfl);obtain ⟨va,vc,rfl⟩:=aB h;clear h;generalize L0.length=N at *
 go_enter Tryz.func100,Tryz.ntmps100
 go_wp2_with fail
 refine hs.out.mono ?_;rintro r w2 ⟨W,rfl,p2,s2,d2,h2⟩;have H2:=ae h2;have P2:=ae p2;have S2:=ae s2;clear h2 p2 s2 hs
 go_wp2_with fail
 go_end0
 exact HQ.out _ _ ⟨W,rfl,P2.out,S2.out,d2,H2.out⟩
end Go.Fs

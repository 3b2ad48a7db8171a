/- Steps. -/
import Derived.Test.YtacliaemfegopaaGreatDoorKP10
import Derived.BigQuiet
set_option linter.unusedVariables false
set_option linter.unusedSimpArgs false
set_option maxRecDepth 100000
set_option maxHeartbeats 40000000
open Go.Proofs Go.SL
namespace Go.SL
open Go.RowKit
abbrev Wr:=Int × Value × List UInt8
def Wr.nil:Wr:=(0,.slice none 0 0,[])
def QH (w:World) (v:Value) (Z:List Wr):Prop:=
 (v = .slice none 0 0∧Z=[])∨∃ g o c,v = .slice (some ⟨g,o,none⟩) Z.length c∧Z.length≤c∧c≤maxLen ∧
  ∀ k,k<Z.length→w.cell? ⟨g,o+k*2,none⟩=some (.int .i64 (Z.getD k Wr.nil).1)∧w.cell? ⟨g,o+k*2+1,none⟩=some (Z.getD k Wr.nil).2.1
def eR (Z:List Wr):Nat→KV
 | 0=>[]
 | k+1=>eR Z k++[((Z.getD k Wr.nil).1,.int .i64 (k:Int))]
def okW (n:Int) (Z:List Wr) (k:Nat):Prop:=
 0≤(Z.getD k Wr.nil).1∧(Z.getD k Wr.nil).1<n∧(Z.getD k Wr.nil).2.2.length=480∧(Z.getD k Wr.nil).1 ∉ (Z.take k).map Prod.fst
structure Fm (n:Int) (Z:List Wr):Prop where
 n0:1≤Z.length
 n1:Z.length≤24
 ok:∀ k,k<Z.length→okW n Z k
theorem EB (Z:List Wr) (k:Nat) (hk:k≤Z.length):(eR Z k).map Prod.fst=(Z.take k).map Prod.fst:=by
 induction k with
 | zero=>simp [eR]
 | succ k ih=>
  have ht:Z.take (k+1)=Z.take k++[Z.getD k Wr.nil]:=by
   rw [List.take_add_one,List.getD,List.getElem?_eq_getElem (by omega)];rfl
  rw [ht,eR,List.map_append,List.map_append,ih (by omega)];rfl
theorem vy {Z:List Wr} {k:Nat} (hk:k≤Z.length) (v:Int):(aH (eR Z k) v).isSome=decide (v ∈ (Z.take k).map Prod.fst):=by
 rw [Bool.eq_iff_iff,decide_eq_true_iff,← EB Z k hk]
 cases h:aH (eR Z k) v with
 | none=>
  have:=fK.1 h;simp only [Option.isSome_none,Bool.false_eq_true,this]
 | some x=>
  have hm:v ∈ (eR Z k).map Prod.fst:=Classical.byContradiction fun q=>by rw [fK.2 q] at h;cases h
  simp only [Option.isSome_some,hm]
end Go.SL
namespace Go.Nn
open Go.RowKit Go.SL
theorem kV {a b:World} (h:ai a b) (n:Nat):ai a (b.drewN n):=h.trans ⟨rfl,rfl,rfl,Nat.le_refl _⟩
def KE (w:World) (e:Ending) (w':World):Prop:=e = .returned (.tuple #[.map none,.bool false])∧Sat w' (whole w)∧ai w w'
def I9 (Z:List Wr) (w:World) (e:Ending) (w':World):Prop:=∃ m,e = .returned (.tuple #[.map (some m),.bool true])∧Sat w' (mp m (eR Z Z.length)*whole w)∧ai w w'
def NO (B:Bool) (Z:List Wr) (w:World) (e:Ending) (w':World):Prop:=if B then I9 Z w e w' else KE w e w'
def Ji (n:Int) (Z:List Wr) (len m:Nat) (w:World) (u:Value) (wr:World):Prop:=
 ∃ k:Nat,k≤len∧u = .int .i64 (k:Int)∧(∀ i,i<k→okW n Z i)∧Sat wr (mp m (eR Z k)*whole w)∧ai w wr
theorem AK (w:World) (j d:Nat) (J:Jr) (F:ah) (h:Sat w (nN j d J*F)) (v:Value) (Z:List Wr) (hv:QH w v Z) (hs:∀ z ∈ Z,∃ a c,z.2.1 = .slice a z.2.2.length c) (hl:Z.length≤1000000) (B:Bool) (hB:B=true↔Fm J.n Z) :
  Calls Tryz.prog 123 #[ax j,v] w (NO B Z w):=by
 obtain ⟨r,t,hx⟩:=h.qm;have c3:w.cell? ⟨j,3,none⟩=some (.int .i64 J.n):=hx.cell 3;clear h hx;have HB:=ae hB;have no:Hid (¬ Fm J.n Z→B=false):=fun h=>Bool.eq_false_iff.2 fun hb=>h (hB.1 hb);clear hB;obtain ⟨n,hn⟩:∃ n,n=Z.length:=⟨_,rfl⟩
 obtain ⟨aa,ac,hav⟩:∃ aa ac,v = .slice aa n ac:=by
  rcases hv with ⟨rfl,h⟩|⟨g,o,c,rfl,_⟩
  ·rw [hn,h];exact ⟨_,_,rfl⟩
  ·rw [hn];exact ⟨_,_,rfl⟩
 subst hav;rw [← hn] at hl;have Hn:=ae hn;have Hv:=ae hv;have Hs:=ae hs;clear hn hv hs;have hl':(n:Int)≤1000000:=by omega
 by_cases h9:n<1
 ·have e:=no.out fun h=>by have:=h.n0;have:=Hn.out;omega
  subst e;obtain rfl:n=0:=by omega
  go_enter Tryz.func123,Tryz.ntmps123
  go_wp2
  go_ret2
  exact ⟨rfl,Sat.whole w,ai.refl w⟩
 have h9':¬ (n:Int)<1:=by omega
 by_cases h10:24<(n:Int)
 ·have e:=no.out fun h=>by have:=h.n1;have:=Hn.out;omega
  subst e
  go_enter Tryz.func123,Tryz.ntmps123
  go_wp2
  go_ret2
  exact ⟨rfl,Sat.whole w,ai.refl w⟩
 have hmm:=@iq Tryz.prog _ _ _ Tryz.underlying177;have hm2:=((Sat.whole w).alloc (.map #[] 0)).tH isMap_empty;have hs2:=(ai.refl w).alloc (.map #[] 0)
 go_enter Tryz.func123,Tryz.ntmps123
 go_wp2
 generalize w.alloc (.map #[] 0)=w2 at hm2 hs2 ⊢;generalize w.heap.size=m at hm2 ⊢;clear hmm
 go_loopw [24] (fun u wr=>Ji J.n Z n m w u wr) (fun u _=>n-(intOf u).toNat)
 case atStart=>exact ⟨0,Nat.zero_le _,rfl,fun i hi=>absurd hi (Nat.not_lt_zero i),hm2,hs2⟩
 case round=>
  clear hm2 hs2;obtain ⟨k,hk,rfl,hok,hsat,hside⟩:=hrel
  by_cases hlt:k<n
  ·have hlt':(k:Int)<(n:Int):=by omega
   obtain ⟨g,o,rfl,hcell⟩:∃ g o,aa=some ⟨g,o,none⟩∧(wr.cell? ⟨g,o+k*2,none⟩=some (.int .i64 (Z.getD k Wr.nil).1)∧wr.cell? ⟨g,o+k*2+1,none⟩=some (Z.getD k Wr.nil).2.1):=by
    have hn:=Hn.out;rcases Hv.out with ⟨h,h0⟩|⟨g,o,c,h,_,_,hc⟩
    ·rw [h0] at hn;simp at hn;omega
    ·injection h with e1 e2 e3
     exact ⟨g,o,e1,hsat.bD (hc k (by omega)).1,hsat.bD (hc k (by omega)).2⟩
   obtain ⟨da,dc,hda⟩:=Hs.out (Z.getD k Wr.nil) (by rw [List.getD,List.getElem?_eq_getElem (by have:=Hn.out;omega)];exact List.getElem_mem _);have k3:wr.cell? ⟨j,3,none⟩=some (.int .i64 J.n):=hsat.bD c3;have hkg:=vy (Z:=Z) (k:=k) (by have:=Hn.out;omega) (Z.getD k Wr.nil).1;have htk:eR Z (k+1)=eR Z k++[((Z.getD k Wr.nil).1,.int .i64 (k:Int))]:=rfl;have hokk:okW J.n Z k↔(0≤(Z.getD k Wr.nil).1∧(Z.getD k Wr.nil).1<J.n∧(Z.getD k Wr.nil).2.2.length=480∧(Z.getD k Wr.nil).1 ∉ (Z.take k).map Prod.fst):=Iff.rfl;have hbad:¬ okW J.n Z k→¬ Fm J.n Z:=fun q h=>q (h.ok k (by have:=Hn.out;omega))
   have hnext:okW J.n Z k→∀ i,i<k+1→okW J.n Z i:=fun q i hi=>by
    rcases Nat.lt_or_eq_of_le (Nat.lt_succ_iff.1 hi) with h|h
    ·exact hok i h
    ·rw [h];exact q
   generalize Z.getD k Wr.nil=z at hcell htk hokk hda hkg;obtain ⟨id,dv,db⟩:=z;simp only at hcell htk hokk hda hkg;subst hda;obtain ⟨hc1,hc2⟩:=hcell;have hW:=hsat.alloc (.cells #[.int .i64 id,.slice da db.length dc] 188 (0,0));have dW:=hside.alloc (.cells #[.int .i64 id,.slice da db.length dc] 188 (0,0));have a0:(wr.alloc (.cells #[.int .i64 id,.slice da db.length dc] 188 (0,0))).cell? ⟨wr.heap.size,0,none⟩=some (.int .i64 id):=hW.cell 0;have a1:(wr.alloc (.cells #[.int .i64 id,.slice da db.length dc] 188 (0,0))).cell? ⟨wr.heap.size,1,none⟩=some (.slice da db.length dc):=hW.cell 1;have a3:(wr.alloc (.cells #[.int .i64 id,.slice da db.length dc] 188 (0,0))).cell? ⟨j,3,none⟩=some (.int .i64 J.n):=bH _ _ _ _ k3;have Htk:=ae htk;have Hokk:=ae hokk;have Hbad:=ae hbad;have Hnext:=ae hnext;have hlk:=0;clear htk hokk hbad hnext hsat
   by_cases hi0:id<0
   ·have e:=no.out (Hbad.out fun q=>by have:=Hokk.out.1 q;omega)
    subst e;clear hlk hkg
    go_wp2_with fail
    generalize wr.alloc (.cells #[.int .i64 id,.slice da db.length dc] 188 (0,0))=wA at hW dW a0 a1 a3 ⊢
    go_quiet (fail)
    go_wp2
    go_ret2
    exact ⟨rfl,hW.right.right.drew,kV dW _⟩
   by_cases hin:J.n≤id
   ·have e:=no.out (Hbad.out fun q=>by have:=Hokk.out.1 q;omega)
    subst e;clear hlk hkg
    go_wp2_with fail
    generalize wr.alloc (.cells #[.int .i64 id,.slice da db.length dc] 188 (0,0))=wA at hW dW a0 a1 a3 ⊢
    go_quiet (fail)
    go_wp2
    go_ret2
    exact ⟨rfl,hW.right.right.drew,kV dW _⟩
   by_cases hlen:db.length=480
   ·rw [hlen] at hc2 hW dW a0 a1 a3
    have Hok2:Hid (id ∉ (Z.take k).map Prod.fst→okW J.n Z k):=fun htw=>Hokk.out.2 ⟨by omega,by omega,hlen,htw⟩;clear hlen;have hlks:=fun w' h'=>Sat.lookup (P:=Tryz.prog) Tryz.underlying177 Tryz.underlying3 (z:=.int .i64 0) (by kernel_rfl) (w:=w') (F:=whole w) (b:=m) (M:=eR Z k) h' id true;clear hlk
    go_wp2_with fail
    generalize wr.alloc (.cells #[.int .i64 id,.slice da 480 dc] 188 (0,0))=wA at hW dW a0 a1 a3 ⊢
    go_quiet (fail)
    have hX:Sat (wA.drewN nq) _:=hW;have dX:=kV dW nq;have b0:(wA.drewN nq).cell? ⟨wr.heap.size,0,none⟩=some (.int .i64 id):=a0;generalize wA.drewN nq=wB at hX dX b0 ⊢;have hY:=hX.right;have hlk:=hlks wB hY;clear hlks hW dW a0 a1 a3
    by_cases htw:id ∈ (Z.take k).map Prod.fst
    ·have e:=no.out (Hbad.out fun q=>(Hokk.out.1 q).2.2.2 htw)
     subst e;rw [hkg,decide_eq_true htw,if_pos True.intro] at hlk;generalize (aH (eR Z k) id).getD (.int .i64 0)=vv at hlk;clear hkg htw
     go_wp2
     go_ret2
     exact ⟨rfl,hY.right,dX⟩
    ·have hkn:aH (eR Z k) id=none:=by
      rw [decide_eq_false htw] at hkg
      cases h:aH (eR Z k) id with
      | none=>rfl
      | some x=>rw [h] at hkg;cases hkg
     rw [hkg,decide_eq_false htw,if_pos True.intro,hkn,Option.getD_none] at hlk;obtain ⟨w6,hup,h6,d6,ce⟩:=Sat.mapUpdate (P:=Tryz.prog) Tryz.underlying177 Tryz.underlying3 hY id (.int .i64 (k:Int));have e6:SL.fw (eR Z k) id (.int .i64 (k:Int))=eR Z k++[(id,.int .i64 (k:Int))]:=by unfold SL.fw;rw [hkn];rfl
     rw [e6,← Htk.out] at h6;have D6:=dX.trans d6;have H6:=ae h6;have Hx:=ae (Hnext.out (Hok2.out htw));clear hkg hkn ce e6 h6 htw
     go_wp2
     go_roundw
     case rel=>exact ⟨k+1,by omega,by go_num,Hx.out,H6.out,D6⟩
     case measure=>simp [intOf];omega
   ·have hlenb:((db.length:Int) != 480)=true:=by simp;omega
    have e:=no.out (Hbad.out fun q=>by have:=Hokk.out.1 q;omega);subst e;clear hlk hkg
    go_wp2_with fail
    generalize wr.alloc (.cells #[.int .i64 id,.slice da db.length dc] 188 (0,0))=wA at hW dW a0 a1 a3 ⊢
    go_quiet (fail)
    go_wp2
    go_ret2
    exact ⟨rfl,hW.right.right.drew,kV dW _⟩
  ·obtain rfl:k=n:=by omega
   have e:=HB.out.2 ⟨by have:=Hn.out;omega,by have:=Hn.out;omega,by rw [← Hn.out];exact hok⟩;subst e;rw [Hn.out] at hsat;have H4:=ae hsat;clear hok hsat hlt
   go_wp2
   go_ret2
   exact ⟨m,rfl,H4.out,hside⟩
end Go.Nn
namespace Go.SL
open Go.RowKit
structure ay.iN (D D':ay) (n:Nat):Prop where
 sec:D'.sec.length=D.sec.length
 wait:∀ x ∈ D'.wait,D.has x.1
 many:D'.wait.length≤D.wait.length+n
 aX:D'.aX.length≤4611686018427387904
theorem ay.Ok.keeps {D:ay} (h:D.Ok):D.iN D 0:=⟨rfl,h.wait,by omega,h.aX⟩
theorem ay.iN.ok {D D':ay} {n:Nat} (k:D.iN D' n) (h:D.Ok) (hn:D.wait.length+n≤1000000):D'.Ok:=
 ⟨by rw [k.sec];exact h.n,fun x hx=>by unfold ay.has;rw [k.sec];exact k.wait x hx,by have:=k.many;omega,k.aX⟩
theorem ay.iN.trans {D D1 D2:ay} {n m:Nat} (h:D.iN D1 n) (g:D1.iN D2 m):D.iN D2 (n+m):=
 ⟨g.sec.trans h.sec,fun x hx=>by have:=g.wait x hx;unfold ay.has at this ⊢;rw [← h.sec];exact this,by have:=h.many;have:=g.many;omega,g.aX⟩
theorem ay.kC (D:ay) (x:Int × List UInt8):(D.done x).sec.length=D.sec.length∧(D.done x).wait=D.wait∧(D.done x).aX=D.aX:=by simp [ay.done]
theorem ay.F3 (D:ay) (f:Int) (x:Int × List UInt8):(D.qi f x).sec.length=D.sec.length:=by
 unfold ay.qi
 split
 ·exact (D.kC x).1
 ·split <;> rfl
theorem ay.E9 (D:ay) (aX:List Int) (k:Nat):(D.dU aX k).sec.length=D.sec.length:=by
 induction k with
 | zero=>rfl
 | succ k ih=>
  rw [ay.dU]
  split
  ·rw [ay.F3];exact ih
  ·exact ih
theorem ay.xb {D:ay} (h:D.Ok):D.iN D.cV 0:=by
 unfold ay.cV
 split
 ·exact ⟨by simp only [ay.fm];exact ay.E9 _ _ _,by simp [ay.fm],by simp [ay.fm],by simp [ay.fm]⟩
 ·exact h.keeps
theorem ay.lQ {D:ay} (h:D.Ok):D.iN D.begun 0:=by
 have hs:=ay.xb h;unfold ay.begun
 split
 ·exact hs
 ·split
  ·exact ⟨hs.sec,hs.wait,hs.many,hs.aX⟩
  ·exact hs
theorem ay.yv {D:ay} (h:D.Ok) (a:Int) (l:List UInt8):D.iN (D.write a l).2 1:=by
 have hb:=ay.lQ h;unfold ay.write
 split
 ·rename_i hc
  split
  ·refine ⟨hb.sec,fun x hx=>?_,by simp only [List.length_append,List.length_cons,List.length_nil];have:=hb.many;omega,hb.aX⟩
   rcases List.mem_append.1 hx with hx|hx
   ·exact hb.wait x hx
   ·rw [List.mem_singleton.1 hx];exact hc.1
  ·exact ⟨hb.sec,hb.wait,Nat.le_trans hb.many (Nat.le_succ _),hb.aX⟩
 ·exact ⟨rfl,h.wait,Nat.le_succ _,h.aX⟩
theorem ay.BH {D:ay} (h:D.Ok) (a:Int):D.iN (D.read a).2 0:=by
 have hb:=ay.lQ h;unfold ay.read
 split
 ·split
  ·exact ⟨hb.sec,hb.wait,hb.many,hb.aX⟩
  ·exact hb
 ·exact h.keeps
theorem ay.rA (D:ay) (l:List (Int × List UInt8)):(D.bC l).sec.length=D.sec.length∧(D.bC l).aX=D.aX:=by
 unfold ay.bC
 induction l generalizing D with
 | nil=>exact ⟨rfl,rfl⟩
 | cons x l ih=>rw [List.foldl_cons,(ih _).1,(ih _).2];exact ⟨(D.kC x).1,(D.kC x).2.2⟩
theorem ay.gx {D:ay} (h:D.Ok):D.iN D.flush.2 0:=by
 have hb:=ay.lQ h;unfold ay.flush
 split
 ·unfold ay.aE
  have hd:=ay.rA ({ D.begun with cf:=bU (D.begun.cf+1) }:ay) D.begun.wait;exact ⟨hd.1.trans hb.sec,by simp,by simp,by simp only [hd.2];exact hb.aX⟩
 ·exact hb
def Jr.tag (J:Jr) (i n:Nat) (id:Int):Tg:=⟨J.ep,J.st,J.sq+1,J.sq,i,n,id⟩
def Jr.bp (J:Jr) (D:ay) (Z:List Wr):Nat→Int × ay
  | 0=>(0,D)
  | k+1=>if (Jr.bp J D Z k).1=0 then
      (let R:=(Jr.bp J D Z k).2.write ((J.hd+(k:Int))%(J.P:Int)+1) (enc (J.tag k Z.length (Z.getD k Wr.nil).1)++(Z.getD k Wr.nil).2.2)
       (if R.1=0 then 0 else 2,R.2))
    else Jr.bp J D Z k
theorem Jr.ou (J:Jr) {D:ay} (h:D.Ok) (Z:List Wr) (k:Nat) (hk:D.wait.length+k≤1000000):D.iN (J.bp D Z k).2 k:=by
 induction k with
 | zero=>exact h.keeps
 | succ k ih=>
  have ih:=ih (by omega);rw [Jr.bp]
  split
  ·exact ih.trans (ay.yv (ih.ok h (by omega)) _ _)
  ·exact ⟨ih.sec,ih.wait,by have:=ih.many;omega,ih.aX⟩
theorem Jr.zj (J:Jr) (D:ay) (Z:List Wr) (k n:Nat) (hn:k≤n) (h:(J.bp D Z k).1≠0):J.bp D Z n=J.bp D Z k:=by
 obtain ⟨m,rfl⟩:=Nat.le.dest hn;clear hn
 induction m with
 | zero=>rfl
 | succ m ih=>
  rw [show k+(m+1)=(k+m)+1 by omega,Jr.bp,if_neg (by rw [ih];exact h),ih]
structure Jr.r9 (J:Jr):Prop where
 ep0:1≤J.ep
 ep1:J.ep<4294967296
 st0:1≤J.st
 st1:J.st≤J.sq+1
 sq0:0≤J.sq
 sq1:J.sq<281474976710655
theorem Jr.Kt {J:Jr} (h:J.r9) {i n:Nat} {id:Int} (hi:i<n) (hn:n≤72) (h0:0≤id) (h1:id<3840):(J.tag i n id).ok=true:=by
 obtain ⟨a,b,c,d,e,f⟩:=h;unfold Tg.ok;simp only [Bool.and_eq_true,decide_eq_true_eq,and_assoc];exact ⟨a,c,d,(show J.sq+1≤281474976710655 by omega),(show J.sq<J.sq+1 by omega),(show (1:Int)≤(n:Int) by omega),(show (n:Int)≤72 by omega),(show (0:Int)≤(i:Int) by omega),(show (i:Int)<(n:Int) by omega),h0,h1⟩
theorem Jr.CP {J:Jr} (h:J.r9) (i n:Nat) (id:Int):(J.tag i n id).Fit:=by
 obtain ⟨a,b,c,d,e,f⟩:=h;exact ⟨(show 0≤J.ep by omega),b,(show 0≤J.st by omega),(show J.st<18446744073709551616 by omega),(show 0≤J.sq+1 by omega),(show J.sq+1<18446744073709551616 by omega),e,(show J.sq<18446744073709551616 by omega)⟩
end Go.SL
namespace Go.Nn
open Go.RowKit Go.SL
def Reads (S:Hp) (v:Value) (Z:List Wr) (F:ah):Prop:=
 ∀ S' X w',Ext S S'→Sat w' (X*(aj S'*F))→QH w' v Z∧∀ z ∈ Z,Rd w' z.2.1 z.2.2
def Mc (S:Hp) (j d:Nat) (J:Jr) (R:Int × ay) (F:ah) (w:World) (e:Ending) (w':World):Prop:=
 ∃ S',Ext S S'∧e = .returned (.int .i64 R.1)∧Sat w' (nN j d (if R.1=0 then J else { J with br:=true })*(aK S' d R.2*(aj S'*F)))∧ai w w'
def FL (S:Hp) (j d r t:Nat) (J:Jr) (D:ay) (Z:List Wr) (n:Nat) (F:ah) (w:World) (u:Value) (wr:World):Prop:=
 ∃ (k:Nat) (S':Hp),k≤n∧u = .int .i64 (k:Int)∧Ext S S'∧(J.bp D Z k).1=0 ∧
  Sat wr (pt j (.cells (J.cells d r t) 183 (0,0))*(bK r (bX J.P)*(bq t J.T*(aK S' d (J.bp D Z k).2*(aj S'*F)))))∧ai w wr
theorem A7 (w:World) (S:Hp) (j d:Nat) (J:Jr) (D:ay) (F:ah) (v:Value) (Z:List Wr) (h:Sat w (nN j d J*(aK S d D*(aj S*F)))) (hJ:J.Ok) (hN:J.r9) (hD:D.Ok)
    (hm:D.wait.length+Z.length≤1000000) (hZ:Z.length≤72) (hid:∀ z ∈ Z,0≤z.1∧z.1<3840∧z.2.2.length=480) (hr:Reads S v Z F) :
    Calls Tryz.prog 128 #[ax j,v] w (Mc S j d J (J.bp D Z Z.length) F w):=by
  obtain ⟨r,t,hx⟩:=h.qm;have hv:=(hr S (nN j d J*aK S d D) w (Ext.refl S) (h.to (by ac_rfl))).1;clear h;obtain ⟨n,hn⟩:∃ n,n=Z.length:=⟨_,rfl⟩
  obtain ⟨aa,ac,hav⟩:∃ aa ac,v = .slice aa n ac:=by
    rcases hv with ⟨rfl,h⟩|⟨g,o,c,rfl,_⟩
    · rw [hn,h];exact ⟨_,_,rfl⟩
    · rw [hn];exact ⟨_,_,rfl⟩
  subst hav;rw [← hn] at hm hZ ⊢;have Hn:=ae hn;have Hr:=ae hr;have Hid':=ae hid;clear hn hr hid hv;have hZ':(n:Int)≤72:=by omega
  go_enter Tryz.func128,Tryz.ntmps128
  go_wp2
  go_loopw [12] (fun u wr=>FL S j d r t J D Z n F w u wr) (fun u _=>n-(intOf u).toNat)
  case atStart=>exact ⟨0,S,Nat.zero_le _,rfl,Ext.refl S,rfl,hx,ai.refl w⟩
  case round=>
    clear hx;obtain ⟨k,S1,hk,rfl,hE,h0,hsat,hside⟩:=hrel
    by_cases hlt:k<n
    · have hlt':(k:Int)<(n:Int):=by omega
      have hrd:=Hr.out S1 (pt j (.cells (J.cells d r t) 183 (0,0))*(bK r (bX J.P)*(bq t J.T*aK S1 d (J.bp D Z k).2))) wr hE (hsat.to (by ac_rfl))
      obtain ⟨g,o,rfl,hc1,hc2⟩:∃ g o,aa=some ⟨g,o,none⟩∧wr.cell? ⟨g,o+k*2,none⟩=some (.int .i64 (Z.getD k Wr.nil).1)∧wr.cell? ⟨g,o+k*2+1,none⟩=some (Z.getD k Wr.nil).2.1:=by
        have hn:=Hn.out;rcases hrd.1 with ⟨h,h0⟩|⟨g,o,c,h,_,_,hc⟩
        · rw [h0] at hn;simp at hn;omega
        · injection h with e1 e2 e3
          exact ⟨g,o,e1,(hc k (by omega)).1,(hc k (by omega)).2⟩
      have hmem:Z.getD k Wr.nil ∈ Z:=by rw [List.getD,List.getElem?_eq_getElem (by have:=Hn.out;omega)];exact List.getElem_mem _
      obtain ⟨i0,i1,i2⟩:=Hid'.out _ hmem;have hRd:=hrd.2 _ hmem;have hRdA:∀ S' X w',Ext S S'→Sat w' (X*(aj S'*F))→Rd w' (Z.getD k Wr.nil).2.1 (Z.getD k Wr.nil).2.2:=fun S' X w' e h=>(Hr.out S' X w' e h).2 _ hmem
      have hst:J.bp D Z (k+1)=if (J.bp D Z k).1=0 then
        (let R:=(J.bp D Z k).2.write ((J.hd+(k:Int))%(J.P:Int)+1) (enc (J.tag k Z.length (Z.getD k Wr.nil).1)++(Z.getD k Wr.nil).2.2)
         (if R.1=0 then 0 else 2,R.2)) else J.bp D Z k:=rfl
      rw [if_pos h0,← Hn.out] at hst;have hstop:=J.zj D Z (k+1) n (by omega);have hDk:(J.bp D Z k).2.Ok:=(J.ou hD Z k (by omega)).ok hD (by omega);obtain ⟨da,dc,hda⟩:=hRd.shape;generalize hz:Z.getD k Wr.nil=z at *;obtain ⟨id,dv,db⟩:=z;simp only at hc1 hc2 i0 i1 i2 hRd hRdA hst hda;subst hda;rw [i2] at hc2 hRd hRdA;have hok:=Jr.Kt hN (i:=k) (n:=n) (id:=id) (by omega) hZ i0 i1;have hfit:=Jr.CP hN k n id;obtain ⟨tg,htg⟩:∃ tg,tg=J.tag k n id:=⟨_,rfl⟩
      rw [← htg] at hst hok hfit;have hW:=hsat.alloc (.cells #[.int .i64 id,.slice da 480 dc] 188 (0,0));have dW:=hside.alloc (.cells #[.int .i64 id,.slice da 480 dc] 188 (0,0));obtain ⟨REST,hREST⟩:∃ X,X=bK r (bX J.P)*(bq t J.T*(aK S1 d (J.bp D Z k).2*(aj S1*F))):=⟨_,rfl⟩
      rw [← hREST] at hW;obtain ⟨BIG,hBIG⟩:∃ X,X=pt wr.heap.size (.cells #[.int .i64 id,.slice da 480 dc] 188 (0,0))*(pt j (.cells (J.cells d r t) 183 (0,0))*REST):=⟨_,rfl⟩
      rw [← hBIG] at hW;have gw0:∀ w',Sat w' BIG→w'.cell? ⟨wr.heap.size,0,none⟩=some (.int .i64 id):=fun w' h=>(hBIG▸h).cell 0;have gw1:∀ w',Sat w' BIG→w'.cell? ⟨wr.heap.size,1,none⟩=some (.slice da 480 dc):=fun w' h=>(hBIG▸h).cell 1;have g4:∀ w',Sat w' BIG→w'.cell? ⟨j,4,none⟩=some (.int .u32 J.ep):=fun w' h=>(hBIG▸h).ag.cell 4;have g5:∀ w',Sat w' BIG→w'.cell? ⟨j,5,none⟩=some (.int .u64 J.st):=fun w' h=>(hBIG▸h).ag.cell 5;have g6:∀ w',Sat w' BIG→w'.cell? ⟨j,6,none⟩=some (.int .u64 J.sq):=fun w' h=>(hBIG▸h).ag.cell 6
      have hsq:IntKind.u64.wrap (J.sq+1)=J.sq+1:=by
        have:=hN.sq0;have:=hN.sq1;rw [IntKind.wrap_u64];omega
      have HB:=ae hBIG;have HREST:=ae hREST;have Htg:=ae htg;have Hst:=ae hst;have Hstop:=ae hstop;have Hok:=ae hok;have HRd:=ae hRdA;have Hi2:=ae i2;have HDk:=ae hDk;have H0:=ae h0;have HE:=ae hE;clear hsat hrd hRd hRdA hst hstop hok htg hREST hBIG hmem hz i2 hDk h0 hE hside
      go_wp2_with fail
      generalize wr.alloc (.cells #[.int .i64 id,.slice da 480 dc] 188 (0,0))=w1 at hW dW ⊢;generalize wr.heap.size=bw at *;have hWd:=hW.drew;have hA:=hW.alloc (.cells #[.int .u32 J.ep,.int .u64 J.st,.int .u64 (J.sq+1),.int .u64 J.sq,.int .i64 (k:Int),.int .i64 (n:Int),.int .i64 id] 245 (0,0));have hA1:=hA.right.drew;have hA0:=(hW.alloc (.cells #[.int .u32 0,.int .u64 0,.int .u64 0,.int .u64 0,.int .i64 0,.int .i64 0,.int .i64 0] 245 (0,0))).right.drew
      go_region_held3 (fun w'=>Sat w' BIG) (first|(with_reducible exact hW)|(with_reducible exact hWd)|(with_reducible exact hA0)|(with_reducible exact hA1)) (fail)
      have hT:Sat (w1.alloc (.cells #[.int .u32 J.ep,.int .u64 J.st,.int .u64 (J.sq+1),.int .u64 J.sq,.int .i64 (k:Int),.int .i64 (n:Int),.int .i64 id] 245 (0,0))).drew _:=hA.drew;have dT:=(dW.alloc (.cells #[.int .u32 J.ep,.int .u64 J.st,.int .u64 (J.sq+1),.int .u64 J.sq,.int .i64 (k:Int),.int .i64 (n:Int),.int .i64 id] 245 (0,0))).drew;generalize (w1.alloc (.cells #[.int .u32 J.ep,.int .u64 J.st,.int .u64 (J.sq+1),.int .u64 J.sq,.int .i64 (k:Int),.int .i64 (n:Int),.int .i64 id] 245 (0,0))).drew=w2 at hT dT ⊢;generalize w1.heap.size=tb at hT ⊢;clear hA hA0 hA1 hWd hW dW g4 g5 g6 gw0;have q0:w2.cell? ⟨tb,0,none⟩=some (.int .u32 J.ep):=hT.cell 0;have q1:w2.cell? ⟨tb,1,none⟩=some (.int .u64 J.st):=hT.cell 1;have q2:w2.cell? ⟨tb,2,none⟩=some (.int .u64 (J.sq+1)):=hT.cell 2;have q3:w2.cell? ⟨tb,3,none⟩=some (.int .u64 J.sq):=hT.cell 3;have q4:w2.cell? ⟨tb,4,none⟩=some (.int .i64 (k:Int)):=hT.cell 4;have q5:w2.cell? ⟨tb,5,none⟩=some (.int .i64 (n:Int)):=hT.cell 5;have q6:w2.cell? ⟨tb,6,none⟩=some (.int .i64 id):=hT.cell 6;have qw:=gw1 w2 hT.right
      have hrd2:Rd w2 (.slice da 480 dc) db:=by
        have hh:=hT.right;rw [HB.out,HREST.out] at hh;exact HRd.out S1 (pt bw (.cells #[.int .i64 id,.slice da 480 dc] 188 (0,0))*(pt j (.cells (J.cells d r t) 183 (0,0))*(bK r (bX J.P)*(bq t J.T*aK S1 d (J.bp D Z k).2)))) w2 HE.out (hh.to (by ac_rfl))
      have henc:=lj tg hfit Hok.out (.slice da 480 dc) db Hi2.out w2 hrd2;have hcells:tg.cells=#[.int .u32 J.ep,.int .u64 J.st,.int .u64 (J.sq+1),.int .u64 J.sq,.int .i64 (k:Int),.int .i64 (n:Int),.int .i64 id]:=by rw [Htg.out];rfl
      rw [hcells] at henc;clear hcells hrd2
      go_wp2_with fail
      refine henc.mono ?_;rintro e w3 ⟨v3,rfl,h3,d3⟩;have H3:=(h3.under hT).gZ;have D3:=dT.trans d3;clear henc h3 d3 hT dT q0 q1 q2 q3 q4 q5 q6 qw gw1;obtain ⟨va,vc,rfl⟩:=aB H3;rw [HB.out,HREST.out] at H3
      have H4:Sat w3 (pt j (.cells (J.cells d r t) 183 (0,0))*(bK r (bX J.P)*(aK S1 d (J.bp D Z k).2*(aj S1*(bs 5 (.slice va (enc tg++db).length vc) (enc tg++db)*(bq t J.T*F)))))):=
        Sat.right (H3.to (by ac_rfl:_=pt bw (.cells #[.int .i64 id,.slice da 480 dc] 188 (0,0))*(pt j (.cells (J.cells d r t) 183 (0,0))*(bK r (bX J.P)*(aK S1 d (J.bp D Z k).2*(aj S1*(bs 5 (.slice va (enc tg++db).length vc) (enc tg++db)*(bq t J.T*F))))))))
      clear H3;generalize enc tg++db=L at H4 Hst ⊢
      have hL63:L.length≤9223372036854775807:=by
        rcases H4.aG.cX with ⟨_,h0,_⟩|⟨g',cap',cur,hv,h5,h6,_⟩
        · omega
        · unfold maxLen at h6;omega
      have hget:=C6 w3.drew r (bX J.P) (J.hd+(k:Int)) _ H4.ag.drew (by rw [aO];exact hJ.p0) (by rw [aO];have:=hJ.p1;omega);obtain ⟨kk,hkk,hkl⟩:=mB (J.hd+(k:Int)) hJ.p0;rw [aO,hkk,Int.toNat_natCast,uV hkl,← hkk] at hget
      have hadd:IntKind.i64.wrap (J.hd+(k:Int))=J.hd+(k:Int):=by
        have:=hJ.hd0;have:=hJ.hd1;have:=hJ.p1;rw [IntKind.wrap_i64];omega
      have hwr:∀ w',Sat w' (pt j (.cells (J.cells d r t) 183 (0,0))*(bK r (bX J.P)*(aK S1 d (J.bp D Z k).2*(aj S1*(bs 5 (.slice va L.length vc) L*(bq t J.T*F)))))) →
          Calls Tryz.prog 161 #[ax d,.int .i64 ((J.hd+(k:Int))%(J.P:Int)+1),.slice va L.length vc] w' (gp S1 d ((J.bp D Z k).2.write ((J.hd+(k:Int))%(J.P:Int)+1) L).2 (.int .i64 ((J.bp D Z k).2.write ((J.hd+(k:Int))%(J.P:Int)+1) L).1) (pt j (.cells (J.cells d r t) 183 (0,0))*(bK r (bX J.P)*(bs 5 (.slice va L.length vc) L*(bq t J.T*F)))) w'):=fun w' h'=>
        mO w' S1 d (J.bp D Z k).2 _ _ L _ (h'.to (by ac_rfl)) HDk.out h'.aG.oZ (fun w'' D' h''=>h''.aG.oZ) hL63
      have Hwr:=ae hwr;obtain ⟨R,hR⟩:∃ R,R=(J.bp D Z k).2.write ((J.hd+(k:Int))%(J.P:Int)+1) L:=⟨_,rfl⟩
      rw [← hR] at Hwr Hst;clear hwr hkk hkl hR hL63;generalize (J.hd+(k:Int))%(J.P:Int)+1=sec at *;have c0:w3.cell? ⟨j,0,none⟩=some (ax d):=H4.cell 0;have c1:w3.cell? ⟨j,1,none⟩=some (ax r):=H4.cell 1;have c7:w3.cell? ⟨j,7,none⟩=some (.int .i64 J.hd):=H4.cell 7;obtain ⟨rc,D'⟩:=R;simp only at Hwr Hst;have Hdr:=ae (Sat.drew H4);clear H4
      go_wp2_with fail
      go_region_held3 (fun w'=>w'.cell? ⟨j,0,none⟩=some (ax d)∧w'.cell? ⟨j,1,none⟩=some (ax r)∧w'.cell? ⟨j,7,none⟩=some (.int .i64 J.hd)) (first|(with_reducible exact ⟨a0,a1,a7⟩)|(with_reducible exact ⟨b0,b1,b7⟩)|exact ⟨c0,c1,c7⟩) (first
        | (go_at_call 175;(with_reducible refine hget.mono ?_);rintro e w4 ⟨rfl,h4,d4⟩;have H5:=h4.dO Hdr.out;have a0:w4.cell? ⟨j,0,none⟩=some (ax d):=H5.cell 0;have a1:w4.cell? ⟨j,1,none⟩=some (ax r):=H5.cell 1;have a7:w4.cell? ⟨j,7,none⟩=some (.int .i64 J.hd):=H5.cell 7;have hw4:=Hwr.out w4 H5)
        | (go_at_call 161;(with_reducible refine hw4.mono ?_);rintro e w5 ⟨S2,E2,rfl,h5,d5⟩;have b0:w5.cell? ⟨j,0,none⟩=some (ax d):=h5.aq.cell 0;have b1:w5.cell? ⟨j,1,none⟩=some (ax r):=h5.aq.cell 1;have b7:w5.cell? ⟨j,7,none⟩=some (.int .i64 J.hd):=h5.aq.cell 7))
      have D5:=((D3.drew).trans d4).trans d5
      have H6:Sat w5 (pt j (.cells (J.cells d r t) 183 (0,0))*(bK r (bX J.P)*(bq t J.T*(aK S2 d D'*(aj S2*F))))):=
        Sat.right (h5.to (by ac_rfl:_=bs 5 (.slice va L.length vc) L*(pt j (.cells (J.cells d r t) 183 (0,0))*(bK r (bX J.P)*(bq t J.T*(aK S2 d D'*(aj S2*F)))))))
      clear h4 d4 d5 h5 H5 Hdr hget Hwr hw4 a0 a1 a7 b0 b1 b7 c0 c1 c7 D3
      by_cases hrc:rc=0
      · have Hq:=ae H6
        have HD5:=ae D5;have HE2:=ae (HE.out.trans E2);rw [if_pos hrc] at Hst;subst hrc;clear H6 D5 E2
        go_wp2
        go_roundw
        case rel=>exact ⟨k+1,S2,by omega,by go_num,HE2.out,by rw [Hst.out],by rw [Hst.out];exact Hq.out,HD5.out⟩
        case measure=>simp [intOf];omega
      · have hrb:(rc == 0)=false:=by simpa using hrc
        rw [if_neg hrc] at Hst;have hne:(J.bp D Z (k+1)).1≠0:=by rw [Hst.out];show (2:Int)≠0;decide
        have hw:J.bp D Z n=(2,D'):=(Hstop.out hne).trans Hst.out;have hfl:=yF w5 j d J _ (Sat.xD (r:=r) (t:=t) H6);have Hw:=ae hw;have HD5:=ae D5;have HE2:=ae (HE.out.trans E2);clear hw hne H6 D5 E2 hrc
        go_wp2_with fail
        refine hfl.mono ?_;rintro e w6 ⟨rfl,h6,d6⟩;clear hfl
        go_wp2
        go_ret
        refine ⟨S2,HE2.out,by rw [Hw.out];rfl,?_,HD5.out.trans d6⟩;rw [Hw.out];exact h6
    · obtain rfl:k=n:=by omega
      have H4:=ae hsat;have h0':=ae h0;clear hsat hlt h0
      go_wp2
      go_ret
      refine ⟨S1,hE,by rw [h0'.out];rfl,?_,hside⟩;rw [if_pos h0'.out];exact Sat.xD H4.out
theorem zX {P:Program} {l fn:Nat} {tmps:Array Value} {assign body:Code} {w:World} {R:Ending→World→Prop} {n m:Nat} (h:RoundIn Fence.wide n P l fn tmps assign body w R):RoundIn Fence.wide m P l fn tmps assign body w R:=
 ⟨h.1,fun c cs _=>h.2 c cs (room_wide _)⟩
theorem uF {P:Program} {l k fn:Nat} {tmps:Array Value} {assign body:Code} {w:World} {R:Ending→World→Prop} {n m:Nat} (h:RoundIn Fence.wide n P l fn tmps assign body w R):RoundIn (Fence.wide.inRound k) m P l fn tmps assign body w R:=
 zX (n:=n) h
theorem kN {F:Fence} {n:Nat} {P:Program} {α:Type} {C:(List α→ah)→Prop} {g:Operand} {ps:Array Tmp} {assign body:Code} {Q:Exit→Act→World→Prop} {a:Act} {w w0:World}
  (hro:F.round=none) (h1:1≤n) {gf:Nat} {lb:Array Value} (hg:a.eval g = .func (.func gf) #[] lb) (hFg:F.fn gf) (eg:∀ args w,(callFunc gf args).run P w = .ok (.enter gf args) w)
  {It:ah} {T:α→Array Value→ah} {S Sp:List α→Prop} (hit:mP C F (n-1) P gf lb It T S Sp)
  (f:α→Array Value→Array Value) (A:List α→ah) (hC:∀ X,C fun ys=>A ys*X) (Ax:Code→List α→ah) (B:List α→α→ah) (G:ah)
  (hps:∀ x vs Fr W,Sat W (T x vs*Fr)→vs.size=ps.size) (hs:ai w0 w) (h0:Sat w (A []*(It*G)))
  (hassign:∀ (l:Nat) (r:Loop) (pre:List α) (x:α) (vs:Array Value) (Fr:ah) (W:World) (K:Act→World→Prop),Sp (pre++[x])→ai w0 W→Sat W (A pre*(T x vs*(pt l (.loop r)*Fr))) →
   (∀ W',ai w0 W'→Sat W' (B pre x*(pt l (.loop r)*Fr))→K { tmps:=f x a.tmps,defers:=[] } W') →
   assign.wpIn (F.inRound l) (n-1-1) P (Exit.then K (fun _ _ _=>False)) { tmps:=(ps.zip vs).foldl (fun t (p,v)=>t.setIfInBounds p v) a.tmps,defers:=[] } W)
  (hbody:∀ (l:Nat) (r:Loop) (pre:List α) (x:α) (Fr:ah) (W:World),Sp (pre++[x])→ai w0 W→Sat W (B pre x*(pt l (.loop r)*Fr)) →
   body.wpIn (F.inRound l) (n-1-1) P (sK w0 A Ax (pre++[x]) (pt l (.loop r)*Fr)) { tmps:=f x a.tmps,defers:=[] } W)
  (hdone:∀ (D:Nat) (ys:List α) (W:World),S ys→ai w0 W→Sat W (A ys*(It*(pt D (.deferred (some []))*G))) →
   Q .normal { a with defers:={ target:=.collected D,args:=#[] } :: a.defers } W)
  (hstop:∀ (D:Nat) (c:Code) (ys:List α) (W:World),Sp ys→ai w0 W→Sat W (Ax c ys*(It*(pt D (.deferred (some []))*G))) →
   c.wpIn F n P Q { a with defers:={ target:=.collected D,args:=#[] } :: a.defers } W) :
  (Code.rangeFunc g ps assign body).wpIn F n P Q a w:=by
 refine rn hro h1 hg hFg eg hit A hC Ax (fun pre x a'=>fact (a'={ tmps:=f x a.tmps,defers:=[] })*B pre x) G hps hs h0 ?_ ?_ hdone hstop
 ·intro l r pre x vs Fr W K hsp hsd H hK
  exact hassign l r pre x vs Fr W K hsp hsd H fun W' h1 h2=>hK _ W' h1 ((Sat.ak.2 ⟨rfl,h2⟩:Sat W' (fact _*_)).to (aw _ _ _).symm)
 ·intro l r pre x a' Fr W hsp hsd H
  obtain ⟨rfl,H2⟩:=Sat.ak.1 (H.to (aw _ _ _));exact hbody l r pre x Fr W hsp hsd H2
def NM (p:Value) (n:Int) (w:World) (e:Ending) (w':World):Prop:=
 e = .returned (.func (.func 225) #[] #[.pointer (some ⟨w.heap.size,0,none⟩),.pointer (some ⟨w.heap.size+1,0,none⟩)]) ∧
  w'=(w.alloc (.cells #[p] 123 (0,0))).alloc (.cells #[.int .i64 n] 3 (0,0))
theorem GF (w:World) (j:Nat) (n:Int):Calls Tryz.prog 170 #[ax j,.int .i64 n] w (NM (ax j) n w):=by
 go_enter Tryz.func170,Tryz.ntmps170
 go_wp2
 go_ret
 exact ⟨rfl,rfl⟩
def bL (T:Tb) (P first k:Nat):List (Int × Int):=((List.range k).map fun i=>(first+i)%P).filterMap fun p:Nat=>(told T.os (p:Int)).map fun id=>(id,(p:Int))
theorem pR (T:Tb) (P first k:Nat):bL T P first (k+1)=bL T P first k++(match told T.os (((first+k)%P:Nat):Int) with|some id=>[(id,(((first+k)%P:Nat):Int))]|none=>[]):=by
 unfold bL;rw [List.range_succ,List.map_append,List.filterMap_append];congr 1
 cases h:told T.os (((first+k)%P:Nat):Int) with
 | none=>simp only [List.map_cons,List.map_nil,List.filterMap_cons,h,Option.map_none,List.filterMap_nil]
 | some id=>simp only [List.map_cons,List.map_nil,List.filterMap_cons,h,Option.map_some,List.filterMap_nil]
end Go.Nn
namespace Go.Nn
open Go.RowKit Go.SL
attribute [local go_sem] Oper.semAt_some
def gn (bj bn j m:Nat):ah:=
 pt bj (.cells #[ax j] 123 (0,0))*pt bn (.cells #[.int .i64 (m:Int)] 3 (0,0))
def km (T:Tb) (ys:List Nat):List (Int × Int):=ys.filterMap fun p:Nat=>(told T.os (p:Int)).map fun id=>(id,(p:Int))
theorem Fl (T:Tb) (ys:List Nat) (p:Nat):km T (ys++[p])=km T ys++(match told T.os (p:Int) with|some id=>[(id,(p:Int))]|none=>[]):=by
 unfold km;rw [List.filterMap_append];congr 1
 cases h:told T.os (p:Int) with
 | none=>simp only [List.filterMap_cons,h,Option.map_none,List.filterMap_nil]
 | some id=>simp only [List.filterMap_cons,h,Option.map_some,List.filterMap_nil]
theorem rh (T:Tb) {ys zs:List Nat} (h:ys <+: zs):km T ys <+: km T zs:=by
 obtain ⟨x,rfl⟩:=h;unfold km;rw [List.filterMap_append];exact List.prefix_append _ _
theorem rp (T:Tb) (P first m:Nat):km T (places P first m)=bL T P first m:=rfl
def Jr.tail (J:Jr):Nat:=((J.hd-J.us)%(J.P:Int)).toNat
theorem Ft (n:Nat) (bj bn j d r t:Nat) (J:Jr) (m:Nat) (hJ:J.Ok) (hm:m≤J.P) :
  mP (yk (iW j d r t J)) Fence.wide n Tryz.prog 225 #[.pointer (some ⟨bj,0,none⟩),.pointer (some ⟨bn,0,none⟩)] (gn bj bn j m) Ak
   (fun ys=>ys=bL J.T J.P (Jr.tail J) m) (fun ys=>ys <+: bL J.T J.P (Jr.tail J) m):=by
 rintro lp _ Ax G w0 w ⟨A,rfl⟩ hY hs h0;replace h0:Sat w ((iW j d r t J*A [])*(gn bj bn j m*G)):=h0;have hx:Sat w (pt j (.cells (J.cells d r t) 183 (0,0))*(bK r (bX J.P)*(bq t J.T*(pt bj (.cells #[ax j] 123 (0,0))*(pt bn (.cells #[.int .i64 (m:Int)] 3 (0,0))*(A []*G)))))):=h0.to (by unfold gn iW;ac_rfl);have cj:w.cell? ⟨bj,0,none⟩=some (ax j):=hx.aC.cell 0;have cn:w.cell? ⟨bn,0,none⟩=some (.int .i64 (m:Int)):=hx.aG.cell 0;have c1:w.cell? ⟨j,1,none⟩=some (ax r):=hx.cell 1;have c7:w.cell? ⟨j,7,none⟩=some (.int .i64 J.hd):=hx.cell 7;have c8:w.cell? ⟨j,8,none⟩=some (.int .i64 J.us):=hx.cell 8;have hbox:=hx.alloc (.cells #[.func (.yield lp) #[] #[]] 189 (0,0));refine (callsIn_wide (n:=n)).2 ((callsIn_wide (n:=9)).1 ?_);refine callsIn_of_wp_marks Tryz.func225 rfl trivial ?_ rfl;simp only [Tryz.ntmps225,List.size_toArray,List.length_cons,List.length_nil,Nat.reduceAdd,Nat.reduceSub,Array.replicate_succ,Array.replicate_zero,List.push_toArray,List.append_toArray,List.nil_append,List.cons_append]
 gi_wp2_with fail
 have ds:=hs.alloc (.cells #[.func (.yield lp) #[] #[]] 189 (0,0));generalize hyb:w.heap.size=yb at hbox ⊢;have cj':(w.alloc (.cells #[.func (.yield lp) #[] #[]] 189 (0,0))).cell? ⟨bj,0,none⟩=some (ax j):=bH _ _ _ _ cj;have cn':(w.alloc (.cells #[.func (.yield lp) #[] #[]] 189 (0,0))).cell? ⟨bn,0,none⟩=some (.int .i64 (m:Int)):=bH _ _ _ _ cn;generalize w.alloc (.cells #[.func (.yield lp) #[] #[]] 189 (0,0))=w1 at hbox ds cj' cn' ⊢;clear hyb c1 c7 c8 cj cn hx h0 hs;have c1:w1.cell? ⟨j,1,none⟩=some (ax r):=hbox.ag.cell 1;have c7:w1.cell? ⟨j,7,none⟩=some (.int .i64 J.hd):=hbox.ag.cell 7;have c8:w1.cell? ⟨j,8,none⟩=some (.int .i64 J.us):=hbox.ag.cell 8
 have hneg:IntKind.i64.wrap (-J.us)=-J.us:=by
  have:=hJ.us0;have:=hJ.us1;have:=hJ.p1;rw [IntKind.wrap_i64];omega
 have hgo:=xL w1.drew r (bX J.P) J.hd (-J.us) _ hbox.aq.drew (by rw [aO];exact hJ.p0) (by rw [aO];have:=hJ.p1;omega);refine wpIn_wide.2 ?_
 go_region_held3 (fun w'=>w'.cell? ⟨bj,0,none⟩=some (ax j)∧w'.cell? ⟨j,1,none⟩=some (ax r)∧w'.cell? ⟨j,7,none⟩=some (.int .i64 J.hd)∧w'.cell? ⟨j,8,none⟩=some (.int .i64 J.us)) (exact ⟨cj',c1,c7,c8⟩) (first
  | (go_at_call 130;(with_reducible refine hgo.mono ?_);rintro e w2 ⟨rfl,rfl⟩))
 obtain ⟨kt,hkt,hkl⟩:=mB (J.hd+-J.us) hJ.p0
 have htail:Jr.tail J=kt:=by
  unfold Jr.tail;rw [show J.hd-J.us=J.hd+-J.us by omega,hkt,Int.toNat_natCast]
 rw [aO,hkt];have hb2:Sat w1.drew.drew (bK r (bX J.P)*(pt yb (.cells #[.func (.yield lp) #[] #[]] 189 (0,0))*(pt j (.cells (J.cells d r t) 183 (0,0))*(bq t J.T*(pt bj (.cells #[ax j] 123 (0,0))*(pt bn (.cells #[.int .i64 (m:Int)] 3 (0,0))*(A []*G))))))):=(hbox.to (by ac_rfl):Sat w1 _)
 have hfrom:=I2 w1.drew.drew r (bX J.P) (kt:Int) m _ hb2 (by rw [aO];exact hJ.p0) (by rw [aO];have:=hJ.p1;omega) (by rw [aO];exact hm);have hmodk:((kt:Int)%((bX J.P).length:Int)).toNat=kt:=by rw [aO,Int.emod_eq_of_lt (by omega) (by omega),Int.toNat_natCast]
 rw [hmodk] at hfrom;clear hgo hmodk hb2 hkt hneg
 gi_wp2_with fail
 refine wpIn_wide.2 ?_
 go_region_held3 (fun w'=>w'.cell? ⟨bj,0,none⟩=some (ax j)∧w'.cell? ⟨j,1,none⟩=some (ax r)∧w'.cell? ⟨bn,0,none⟩=some (.int .i64 (m:Int))) (first|(with_reducible exact ⟨a0,a1,a2⟩)|exact ⟨cj',c1,cn'⟩) (first
  | (go_at_call 226;(with_reducible refine hfrom.mono ?_);rintro e w2 ⟨b5,b3,b7,rfl,h2,d2⟩;have a0:w2.cell? ⟨bj,0,none⟩=some (ax j):=h2.dj.cell 0;have a1:w2.cell? ⟨j,1,none⟩=some (ax r):=h2.aC.cell 1;have a2:w2.cell? ⟨bn,0,none⟩=some (.int .i64 (m:Int)):=h2.bM.cell 0))
 have hE:Sat w2 ((bK r (bX J.P)*(A (km J.T [])*(pt yb (.cells #[.func (.yield lp) #[] #[]] 189 (0,0))*(pt j (.cells (J.cells d r t) 183 (0,0))*(bq t J.T*(pt bj (.cells #[ax j] 123 (0,0))*pt bn (.cells #[.int .i64 (m:Int)] 3 (0,0))))))))*(ji b5 b3 b7 r m kt*G)):=h2.to (by unfold km;simp only [List.filterMap_nil];ac_rfl);have dE:=(ds.drew.drew).trans d2;clear a0 a1 a2 hfrom h2 d2 cj' cn' c1 c7 c8 hbox ds
 gi_wp2_with fail
 refine kN (w0:=w0) rfl (by decide) (gf:=245) (lb:=#[.pointer (some ⟨b5,0,none⟩),.pointer (some ⟨b3,0,none⟩),.pointer (some ⟨b7,0,none⟩)]) rfl trivial (enters Tryz.func245 (by kernel_rfl) rfl)
  (DQ _ b5 b3 b7 r (bX J.P) m kt (by rw [aO];exact hJ.p0) (by rw [aO];have:=hJ.p1;omega) (by rw [aO];exact hm) (by rw [aO];exact hkl))
  (fun x tt=>((tt.setIfInBounds 29 (.int .i64 (x:Int))).setIfInBounds 30 (.int .i64 ((bX J.P).getD x 0))).setIfInBounds 5 (.int .i64 (x:Int)))
  (fun ys=>bK r (bX J.P)*(A (km J.T ys)*(pt yb (.cells #[.func (.yield lp) #[] #[]] 189 (0,0))*(pt j (.cells (J.cells d r t) 183 (0,0))*(bq t J.T*(pt bj (.cells #[ax j] 123 (0,0))*pt bn (.cells #[.int .i64 (m:Int)] 3 (0,0)))))))) (fun X=>ui (zQ _ _) X)
  (fun c ys=>fact (c = .ret)*(Ax (km J.T ys)*(pt yb (.cells #[.func (.yield lp) #[] #[]] 189 (0,0))*(pt bj (.cells #[ax j] 123 (0,0))*pt bn (.cells #[.int .i64 (m:Int)] 3 (0,0))))))
  (fun pre x=>bK r (bX J.P)*(A (km J.T pre)*(pt yb (.cells #[.func (.yield lp) #[] #[]] 189 (0,0))*(pt j (.cells (J.cells d r t) 183 (0,0))*(bq t J.T*(pt bj (.cells #[ax j] 123 (0,0))*pt bn (.cells #[.int .i64 (m:Int)] 3 (0,0)))))))) G ?hps dE hE ?assign ?body ?done ?stop
 case hps=>
  intro x vs Fr W h;unfold y5 at h;obtain ⟨rfl,_⟩:=Sat.ak.1 h
  rfl
 case assign=>
  intro l rr pre x vs Fr W K _ hsd H hK;have H1:=H.ag;unfold y5 at H1;obtain ⟨rfl,H2⟩:=Sat.ak.1 H1;clear H H1
  gi_wp2
  exact hK _ hsd H2
 case done=>
  intro D2 ys W hS hsd H;subst hS
  have H1:Sat W (pt D2 (.deferred (some []))*((iW j d r t J*A (km J.T (places (bX J.P).length kt m)))*(gn bj bn j m*G))):=by
   unfold ji at H;have:=(H.to (by unfold gn iW;ac_rfl:_=pt yb (.cells #[.func (.yield lp) #[] #[]] 189 (0,0))*(pt b5 (.cells #[.int .i64 (m:Int)] 3 (0,0))*(pt b3 (.cells #[.pointer (some ⟨r,0,none⟩)] 180 (0,0))*(pt b7 (.cells #[.int .i64 (kt:Int)] 3 (0,0))*(pt D2 (.deferred (some []))*((iW j d r t J*A (km J.T (places (bX J.P).length kt m)))*(gn bj bn j m*G))))))))
   exact this.right.right.right.right
  have hK:=H1.heap;have H2:=(H1.putObj (.deferred none)).right;have e:km J.T (places (bX J.P).length kt m)=bL J.T J.P (Jr.tail J) m:=by rw [aO,htail];rfl
  rw [e] at H2;have hsd2:=hsd.putObj D2 (.deferred none);clear H H1 hE dE
  gi_wp2
  refine ⟨by simp,.inl ⟨_,_,rfl,run_takeDeferred hK,?_⟩⟩;exact ⟨_,results_none rfl _ _ _,⟨_,rfl⟩,hsd2,.inl ⟨_,rfl,H2⟩⟩
 case stop=>
  intro D2 c ys W hSp hsd H0;obtain ⟨rfl,H⟩:=Sat.ak.1 (H0.to (aw _ _ _));clear H0
  have H1:Sat W (pt D2 (.deferred (some []))*(Ax (km J.T ys)*(gn bj bn j m*G))):=by
   unfold ji at H;have:=(H.to (by unfold gn;ac_rfl:_=pt yb (.cells #[.func (.yield lp) #[] #[]] 189 (0,0))*(pt b5 (.cells #[.int .i64 (m:Int)] 3 (0,0))*(pt b3 (.cells #[.pointer (some ⟨r,0,none⟩)] 180 (0,0))*(pt b7 (.cells #[.int .i64 (kt:Int)] 3 (0,0))*(pt D2 (.deferred (some []))*(Ax (km J.T ys)*(gn bj bn j m*G))))))))
   exact this.right.right.right.right
  have hK:=H1.heap;have H2:=(H1.putObj (.deferred none)).right
  have hp:km J.T ys <+: bL J.T J.P (Jr.tail J) m:=by
   have:=rh J.T hSp;rw [aO,rp] at this;rw [htail];exact this
  have hsd2:=hsd.putObj D2 (.deferred none);clear H H1 hE dE hSp
  gi_wp2
  refine ⟨by simp,.inl ⟨_,_,rfl,run_takeDeferred hK,?_⟩⟩;exact ⟨_,results_none rfl _ _ _,⟨_,rfl⟩,hsd2,.inr ⟨_,hp,H2⟩⟩
 case body=>
  intro l rr pre p Fr W hSp hsd H;have hpre:=rh J.T hSp;rw [aO,rp,← htail] at hpre;have hsn:=Fl J.T pre p;have H1:Sat W (pt j (.cells (J.cells d r t) 183 (0,0))*(pt bj (.cells #[ax j] 123 (0,0))*(bq t J.T*(pt yb (.cells #[.func (.yield lp) #[] #[]] 189 (0,0))*(A (km J.T pre)*(pt bn (.cells #[.int .i64 (m:Int)] 3 (0,0))*(bK r (bX J.P)*(pt l (.loop rr)*Fr)))))))):=H.to (by ac_rfl);have k2:W.cell? ⟨j,2,none⟩=some (ax t):=H1.cell 2;have kj:W.cell? ⟨bj,0,none⟩=some (ax j):=H1.ag.cell 0;have ky:W.cell? ⟨yb,0,none⟩=some (.func (.yield lp) #[] #[]):=H1.aC.cell 0;have how:=EC W t J.T (p:Int) _ H1.aq;simp only [List.setIfInBounds_toArray,List.set_cons_succ,List.set_cons_zero]
  match hm':told J.T.os (p:Int) with
  | none=>
   rw [hm'] at how hsn;simp only [List.append_nil] at hsn;have Hsn:=ae hsn;clear hsn hm' hpre H1 hE dE
   gi_wp2_with fail
   refine qF how ?_;rintro e w3 ⟨rfl,rfl⟩;unfold oo;clear how
   gi_wp2
   refine ⟨fun f hf=>(by cases hf),?_⟩
   gi_wp2
   refine ⟨hsd,?_⟩;dsimp only;rw [Hsn.out];exact H
  | some id=>
   rw [hm'] at how hsn;simp only at hsn;rw [hsn] at hpre
   have hT2:Sat W ((iW j d r t J*A (km J.T pre))*(Ak (id,(p:Int)) #[.int .i64 id,.int .i64 (p:Int)]*(pt yb (.cells #[.func (.yield lp) #[] #[]] 189 (0,0))*(pt bj (.cells #[ax j] 123 (0,0))*(pt bn (.cells #[.int .i64 (m:Int)] 3 (0,0))*(pt l (.loop rr)*Fr)))))):=
    (Sat.ak.2 ⟨rfl,H⟩:Sat W (fact _*_)).to (by unfold Ak iW;ac_rfl)
   obtain ⟨fn,tmps,assign,bodyc,hy,hR⟩:=hY _ (id,(p:Int)) #[.int .i64 id,.int .i64 (p:Int)] _ W hpre hsd hT2;have Hsn:=ae hsn;clear hsn hm' hpre H1 hE dE hT2 H
   gi_wp2_with fail
   refine qF how ?_;rintro e w3 ⟨rfl,rfl⟩;unfold oo;clear how
   gi_wp2
   refine (uF hR).mono ?_;rintro e W' (⟨rfl,hs5,hsat5⟩|⟨rfl,hs5,hsat5⟩)
   ·gi_wp2
    refine ⟨hs5,?_⟩;dsimp only;rw [Hsn.out];exact hsat5.to (by unfold iW;ac_rfl)
   ·gi_wp2
    refine ⟨hs5,?_⟩;dsimp only;rw [Hsn.out];exact (Sat.ak.2 ⟨rfl,hsat5⟩:Sat W' (fact (Code.ret=Code.ret)*_)).to (by ac_rfl)
end Go.Nn
namespace Go.SL
open Go.RowKit
abbrev Mv:=(Int × List (Int × List UInt8)) × Jr × ay
def Jr.cI (own:KV) (s:Mv) (x:Int × Int):Mv:=
 if s.1.1≠0 then s else if (aH own x.1).isSome then s else
  if (s.2.1.load s.2.2 x.1 x.2).1.1=0 then ((0,s.1.2++[(x.1,(s.2.1.load s.2.2 x.1 x.2).1.2)]),(s.2.1.load s.2.2 x.1 x.2).2)
  else (((s.2.1.load s.2.2 x.1 x.2).1.1,[]),(s.2.1.load s.2.2 x.1 x.2).2)
def Jr.bO (J:Jr) (D:ay) (own:KV) (L:List (Int × Int)):Mv:=L.foldl (Jr.cI own) ((0,[]),J,D)
theorem Jr.BI (J:Jr) (D:ay) (own:KV) (L:List (Int × Int)) (x:Int × Int):J.bO D own (L++[x])=Jr.cI own (J.bO D own L) x:=by
 simp [Jr.bO]
theorem Jr.Cr {J:Jr} {D:ay} {id p:Int} (h:(J.load D id p).1.1=0):(J.load D id p).2.1=J:=by
 unfold Jr.load at h ⊢;simp only at h ⊢
 split
 ·rename_i h1
  rw [if_pos h1] at h
  split
  ·rename_i t b hd
   rw [hd] at h;simp only at h
   split
   ·rfl
   ·rename_i h2;rw [if_neg h2] at h;exact absurd h (show (2:Int)≠0 by decide)
  ·rename_i hd
   rw [hd] at h;exact absurd h (show (2:Int)≠0 by decide)
 ·rename_i h1
  rw [if_neg h1] at h;exact absurd h (show (2:Int)≠0 by decide)
theorem Jr.Ga (J:Jr) (D:ay) (id p:Int):(J.load D id p).2.2=(D.read (p%(J.P:Int)+1)).2:=by
 unfold Jr.load;simp only
 split
 ·split
  ·split <;> rfl
  ·rfl
 ·rfl
theorem Jr.tC (J:Jr) {D:ay} (h:D.Ok) (id p:Int):D.iN (J.load D id p).2.2 0:=by
 rw [Jr.Ga];exact ay.BH h _
theorem nh {own:KV} (I:Mv→Prop) (h:∀ s x,I s→I (Jr.cI own s x)):∀ (L:List (Int × Int)) (s:Mv),I s→I (L.foldl (Jr.cI own) s)
 | [],_,hs=>hs
 | x :: L,s,hs=>nh I h L _ (h s x hs)
theorem Jr.td {J:Jr} {D:ay} {own:KV} {L:List (Int × Int)}:(J.bO D own L).1.1=0→(J.bO D own L).2.1=J:=by
 refine nh (fun s=>s.1.1=0→s.2.1=J) ?_ L _ (fun _=>rfl);intro s x hs h;unfold Jr.cI at h ⊢
 split
 ·rename_i h1;rw [if_pos h1] at h;exact hs h
 ·rename_i h1
  rw [if_neg h1] at h
  split
  ·rename_i h2;rw [if_pos h2] at h;exact hs h
  ·rename_i h2
   rw [if_neg h2] at h
   split
   ·rename_i h3
    have:=hs (by simpa using h1);exact (Jr.Cr h3).trans this
   ·rename_i h3;rw [if_neg h3] at h;exact absurd h h3
theorem Jr.ri (J:Jr) {D:ay} (hD:D.Ok) (own:KV) (L:List (Int × Int)):D.iN (J.bO D own L).2.2 0:=by
 refine nh (fun s=>D.iN s.2.2 0) ?_ L _ hD.keeps;intro s x hs;have hk:=fun (J':Jr)=>hs.trans (Jr.tC J' (hs.ok hD (by have:=hD.many;omega)) x.1 x.2);unfold Jr.cI
 split
 ·exact hs
 ·split
  ·exact hs
  ·split
   ·exact hk _
   ·exact hk _
theorem Jr.Cd {J:Jr} {D:ay} {own:KV} {L L':List (Int × Int)} (h:(J.bO D own L).1.1≠0) (hp:L <+: L'):J.bO D own L'=J.bO D own L:=by
 obtain ⟨M,rfl⟩:=hp;unfold Jr.bO at h ⊢;rw [List.foldl_append];generalize L.foldl (Jr.cI own) ((0,[]),J,D)=s at h ⊢
 induction M with
 | nil=>rfl
 | cons x M ih=>
  rw [List.foldl_cons];have:Jr.cI own s x=s:=by unfold Jr.cI;rw [if_pos h]
  rw [this];exact ih
theorem Jr.wy {J:Jr} {D:ay} {own:KV}:∀ (L:List (Int × Int)),(J.bO D own L).1.2.length≤L.length:=by
 intro L
 have:∀ (L:List (Int × Int)) (s:Mv),(L.foldl (Jr.cI own) s).1.2.length≤s.1.2.length+L.length:=by
  intro L
  induction L with
  | nil=>intro s;simp
  | cons x L ih=>
   intro s;rw [List.foldl_cons];refine Nat.le_trans (ih _) ?_
   have:(Jr.cI own s x).1.2.length≤s.1.2.length+1:=by
    unfold Jr.cI
    split
    ·omega
    ·split
     ·omega
     ·split
      ·simp
      ·simp
   simp only [List.length_cons];omega
 have:=this L ((0,[]),J,D);simpa [Jr.bO] using this
end Go.SL
namespace Go.Nn
open Go.RowKit Go.SL
theorem jG (T:Tb) (P first k:Nat):(bL T P first k).length≤k:=by
 unfold bL;refine Nat.le_trans (List.length_filterMap_le _ _) ?_;simp
theorem zF {l b:List UInt8} {t:Tg} (h:cK l=some (t,b)) (hl:l.length=512):b.length=480:=by
 unfold cK at h
 split at h
 ·injection h with h;injection h with _ h;rw [← h,List.length_drop,hl]
 ·cases h
theorem oX {J:Jr} {D:ay} {id p:Int} (h:(J.load D id p).1.1=0):(J.load D id p).1.2.length=480:=by
 have hr:=oQ D (p%(J.P:Int)+1);unfold Jr.load at h ⊢;simp only at h ⊢
 split
 ·rename_i h1
  rw [if_pos h1] at h
  split
  ·rename_i t b hd
   rw [hd] at h;simp only at h
   split
   ·exact zF hd (hr h1)
   ·rename_i h2;rw [if_neg h2] at h;exact absurd h (show (2:Int)≠0 by decide)
  ·rename_i hd
   rw [hd] at h;exact absurd h (show (2:Int)≠0 by decide)
 ·rename_i h1
  rw [if_neg h1] at h;exact absurd h (show (2:Int)≠0 by decide)
theorem Fq {J:Jr} {D:ay} {own:KV} {L:List (Int × Int)}:∀ x ∈ (J.bO D own L).1.2,x.2.length=480:=by
 refine nh (fun s=>∀ x ∈ s.1.2,x.2.length=480) ?_ L _ (by simp);intro s x hs;unfold Jr.cI
 split
 ·exact hs
 ·split
  ·exact hs
  ·split
   ·rename_i h3
    intro y hy;rcases List.mem_append.1 hy with hy|hy
    ·exact hs y hy
    ·rw [List.mem_singleton.1 hy];exact oX h3
   ·intro y hy;cases hy
end Go.Nn

/- Steps. -/
import Derived.Test.YtacliaemfegopaaGreatDoorKP5
import Derived.Test.YtacliaemfegopaaGreatDoorKP8
import Derived.Deep.DeepCutAuto
import Derived.BigQuiet
import Derived.Deep.QuietTactic
import Derived.Deep.CutBlock
import Derived.Deep.CutRange
import Derived.TacticsInMore
import Derived.LoopNIn
import Derived.LoopIn
set_option linter.unusedVariables false
set_option linter.unusedSimpArgs false
set_option maxRecDepth 100000
set_option maxHeartbeats 40000000
open Go.Proofs Go.SL
namespace Go.SL
open Go.RowKit
def jO (x k:Nat):Nat:=if x/2 ^ k%2=1 then x-2 ^ k else x+2 ^ k
def ea (l:List UInt8) (n:Nat):Bool:=decide ((l.getD (n/8) 0).toNat/2 ^ (n%8)%2=1)
def mS (l:List UInt8) (n:Nat):List UInt8:=l.set (n/8) (UInt8.ofNat (jO (l.getD (n/8) 0).toNat (n%8)))
def dV (l:List UInt8) (n:Nat) (t:Bool):List UInt8:=if ea l n=t then l else mS l n
theorem s4 (l:List UInt8) (n:Nat):(mS l n).length=l.length:=List.length_set
theorem eJ (l:List UInt8) (n:Nat) (t:Bool):(dV l n t).length=l.length:=by unfold dV;split;rfl;exact s4 _ _
theorem yf:∀ x:Fin 256,∀ k:Fin 8,jO x k<256∧∀ j:Fin 8,(jO x k/2 ^ j.val%2=1↔if j=k then ¬ x.val/2 ^ k.val%2=1 else x.val/2 ^ j.val%2=1):=by decide +kernel
theorem Ci {x k:Nat} (hx:x<256) (hk:k<8):jO x k<256:=(yf ⟨x,hx⟩ ⟨k,hk⟩).1
theorem Ix {x k j:Nat} (hx:x<256) (hk:k<8) (hj:j<8):(jO x k/2 ^ j%2=1)↔if j=k then ¬ x/2 ^ k%2=1 else x/2 ^ j%2=1:=by
 have:=(yf ⟨x,hx⟩ ⟨k,hk⟩).2 ⟨j,hj⟩;simpa using this
theorem AQ {l:List UInt8} {n:Nat} (hn:n/8<l.length) (m:Nat):ea (mS l n) m=if m=n then !ea l n else ea l m:=by
 have hx:(l.getD (n/8) 0).toNat<256:=UInt8.toNat_lt _;unfold ea mS
 by_cases hm:m/8=n/8
 ·have e:(l.set (n/8) (UInt8.ofNat (jO (l.getD (n/8) 0).toNat (n%8)))).getD (m/8) 0=UInt8.ofNat (jO (l.getD (n/8) 0).toNat (n%8)):=by
   rw [hm];simp [List.getD,List.getElem?_set,hn]
  rw [e,UInt8.toNat_ofNat_of_lt' (Ci hx (Nat.mod_lt _ (by decide)))];have hb:=Ix hx (Nat.mod_lt n (by decide:8 > 0)) (Nat.mod_lt m (by decide:8 > 0));rw [hm]
  by_cases hmn:m=n
  ·subst hmn
   rw [if_pos rfl] at hb ⊢;rw [Bool.eq_iff_iff];simp only [decide_eq_true_eq,Bool.not_eq_true',decide_eq_false_iff_not];exact hb
  ·rw [if_neg (by omega)] at hb
   rw [if_neg hmn];exact decide_eq_decide.2 hb
 ·have e:(l.set (n/8) (UInt8.ofNat (jO (l.getD (n/8) 0).toNat (n%8)))).getD (m/8) 0=l.getD (m/8) 0:=by
   simp [List.getD,List.getElem?_set,Ne.symm hm]
  rw [e,if_neg (by intro h;exact hm (by rw [h]))]
theorem uZ {l:List UInt8} {n:Nat} (hn:n/8<l.length) (t:Bool) (m:Nat):ea (dV l n t) m=if m=n then t else ea l m:=by
 unfold dV
 split
 ·rename_i h
  split
  ·rename_i h2;rw [h2];exact h
  ·rfl
 ·rename_i h
  rw [AQ hn]
  split
  ·cases hb:ea l n <;> cases t <;> simp_all
  ·rfl
def eL (l:List UInt8) (e:Nat):Option Nat:=(List.range e).find? fun n => !ea l n
theorem MI:∀ x:Fin 256,∀ k:Fin 8,(bits .and .u8 ((x.val:Int)/2 ^ k.val) 1 == 1)=decide (x.val/2 ^ k.val%2=1):=by decide +kernel
theorem Lh:∀ x:Fin 256,∀ k:Fin 8,bits .xor .u8 (x.val:Int) (2 ^ k.val%256)=(jO x.val k.val:Int):=by decide +kernel
theorem Ic {w:World} {T:TypeId} {v:Value} {l:List UInt8} {F:ah} (h:Sat w (bs T v l*F)) {i:Nat} (hi:i<l.length) :
  ∃ g c,v = .slice (some ⟨g,0,none⟩) l.length c∧l.length≤c∧c≤maxLen∧(∀ j,j<l.length→w.cell? ⟨g,j,none⟩=some (u8 (l.getD j 0)))∧w.frozen? ⟨g,i,none⟩=false∧∀ x,Sat (w.setCell ⟨g,i,none⟩ (u8 x)) (bs T v (l.set i x)*F):=by
 rcases h.cX with ⟨_,h0,_⟩|⟨g,cap,cur,rfl,h3,h4,h5,h6,h7⟩
 ·omega
 ·refine ⟨g,cap,rfl,h3,h4,fun j hj=>?_,h7.frozen i,fun x=>?_⟩
  ·rw [h7.cell]
   have e:=congrArg (·[j]?) h6;simp only [List.getElem?_take,Nat.mul_one,hj,if_true,List.getElem?_map,Array.getElem?_toList] at e;rw [e,List.getElem?_eq_getElem hj,List.getD,List.getElem?_eq_getElem hj];rfl
  ·have h8:=h7.setCell i (u8 x)
   have:=Sat.l7 (sz:=1) (n:=l.length) (cap:=cap) h8 h3 h4 (by rw [Array.size_setIfInBounds];exact h5);refine this.to ?_;rw [bs,List.length_set];congr 2;rw [Array.toList_setIfInBounds,List.take_set,h6,List.map_set]
end Go.SL
namespace Go.Fs
open Go.RowKit Go.SL Go.Ba
theorem mC {w:World} {F:ah} (n:Nat) (hn:n≤1000000) (h:Sat w F):Sat (w.alloc (.cells (dp (zs n)) 5 (0,0))) (bs 5 (.slice (some ⟨w.heap.size,0,none⟩) n n) (zs n)*F):=by
 have:=Sat.l7 (sz:=1) (n:=n) (cap:=n) (h.alloc (.cells (dp (zs n)) 5 (0,0))) (Nat.le_refl _) (by unfold maxLen;omega) (by simp [ez,aT]);rw [bs,aT];refine this.to ?_;congr 2;simp only [dp,Nat.mul_one,List.toList_toArray];rw [List.take_of_length_le (by simp [aT])]
theorem Kc (w:World):Calls Tryz.prog 118 #[] w (xd (zs 480) w):=by
 have hmk:∀ w,(Instr.makeSlice 37 (.int .i64 480) (.int .i64 480)).run Tryz.prog w =
  .ok (.slice (some ⟨w.heap.size,0,none⟩) 480 480) (w.alloc (.cells (dp (zs 480)) 5 (0,0))):=er 480 (by omega)
 have hB:=mC 480 (by decide) (Sat.whole w);have dA:=(ai.refl w).alloc (.cells (dp (zs 480)) 5 (0,0));generalize zs 480=Z at *
 go_enter Tryz.func118,Tryz.ntmps118
 go_wp2
 go_ret
 exact ⟨_,rfl,hB,dA⟩
theorem tL (w:World) (v:Value) (l:List UInt8) (hr:Rd w v l) (hl:l.length=480) (n:Nat) (hn:n<3840) :
  Calls Tryz.prog 205 #[v,.int .i64 (n:Int)] w fun e w'=>e = .returned (.bool true)∧w=w':=by
 obtain ⟨va,vc,rfl⟩:=hr.shape;rw [hl];have hn':(n:Int)<3840:=by omega
 clear hr hl
 go_enter Tryz.func205,Tryz.ntmps205
 go_wp2
 go_ret
 exact ⟨rfl,rfl⟩
def tR (b:Bool) (w:World) (e:Ending) (w':World):Prop:=e = .returned (.bool b)∧w=w'
theorem Nw (w:World) (v:Value) (l:List UInt8) (hr:Rd w v l) (hl:l.length=480) (n:Nat) (hn:n<3840) :
  Calls Tryz.prog 206 #[v,.int .i64 (n:Int)] w (tR (ea l n) w):=by
 have hin:=tL w v l hr hl n hn;obtain ⟨va,vc,rfl⟩:=hr.shape;obtain ⟨g,o,rfl,hcell⟩:=hr.at (by omega);have hc:=hcell (n/8) (l.getD (n/8) 0) (by rw [List.getD,List.getElem?_eq_getElem (by omega)];rfl);have hx:(l.getD (n/8) 0).toNat<256:=UInt8.toNat_lt _;have hb:=MI ⟨_,hx⟩ ⟨n%8,Nat.mod_lt _ (by decide)⟩;have hbit:ea l n=decide ((l.getD (n/8) 0).toNat/2 ^ (n%8)%2=1):=rfl;dsimp only at hb;rw [← hbit] at hb;have Hb:=ae hb;rw [hl] at *;have hq:((n:Int)).tdiv 8=((n/8:Nat):Int):=by rw [Int.tdiv_eq_ediv_of_nonneg (by omega)];omega
 have hm:((n:Int)).tmod 8=((n%8:Nat):Int):=by rw [Int.tmod_eq_emod_of_nonneg (by omega)];omega
 unfold u8 at hc;have hq8:((n/8:Nat):Int)<480:=by omega
 have hm8:((n%8:Nat):Int)<8:=by omega
 have hx0:0≤((l.getD (n/8) 0).toNat:Int):=by omega
 have hx1:((l.getD (n/8) 0).toNat:Int)<256:=by omega
 generalize ((l.getD (n/8) 0).toNat:Int)=x at *;generalize ea l n=b at *;clear hb hcell hr hbit
 go_enter Tryz.func206,Tryz.ntmps206
 go_wp2_with fail
 (with_reducible refine hin.mono ?_)
 rintro e w2 ⟨rfl,rfl⟩;clear hin
 go_wp2
 go_ret
 exact ⟨by show Ending.returned (.bool (bits .and .u8 (x/2 ^ (n%8)) 1 == 1))=_;rw [Hb.out],rfl⟩
def tK (v:Value) (l:List UInt8) (n:Nat) (t:Bool) (F:ah) (w:World) (e:Ending) (w':World):Prop:=
 e = .returned (.bool (ea l n != t))∧Sat w' (bs 5 v (dV l n t)*F)∧ai w w'
theorem sa (w:World) (v:Value) (l:List UInt8) (F:ah) (h:Sat w (bs 5 v l*F)) (hl:l.length=480) (n:Nat) (hn:n<3840) (t:Bool) :
  Calls Tryz.prog 148 #[v,.int .i64 (n:Int),.bool t] w (tK v l n t F w):=by
 have hin:=tL w v l h.nB hl n hn;have his:=Nw w v l h.nB hl n hn;obtain ⟨g,c,rfl,hc1,hc2,hcell,hfz,hset⟩:=Ic h (i:=n/8) (by omega);have hc:=hcell (n/8) (by omega);have hx:(l.getD (n/8) 0).toNat<256:=UInt8.toNat_lt _;have hxo:=Lh ⟨_,hx⟩ ⟨n%8,Nat.mod_lt _ (by decide)⟩;dsimp only at hxo;have hset2:=hset (UInt8.ofNat (jO (l.getD (n/8) 0).toNat (n%8)));have hfl:l.set (n/8) (UInt8.ofNat (jO (l.getD (n/8) 0).toNat (n%8)))=mS l n:=rfl;rw [hfl] at hset2
 have hu:u8 (UInt8.ofNat (jO (l.getD (n/8) 0).toNat (n%8))) = .int .u8 (jO (l.getD (n/8) 0).toNat (n%8):Int):=by
  unfold u8;rw [UInt8.toNat_ofNat_of_lt' (Ci hx (Nat.mod_lt _ (by decide)))]
 rw [hu] at hset2;have Hset:=ae hset2;rw [hl] at *;have hq:((n:Int)).tdiv 8=((n/8:Nat):Int):=by rw [Int.tdiv_eq_ediv_of_nonneg (by omega)];omega
 have hm:((n:Int)).tmod 8=((n%8:Nat):Int):=by rw [Int.tmod_eq_emod_of_nonneg (by omega)];omega
 unfold u8 at hc;have hq8:((n/8:Nat):Int)<480:=by omega
 have hm8:((n%8:Nat):Int)<8:=by omega
 have hx0:0≤((l.getD (n/8) 0).toNat:Int):=by omega
 have hx1:((l.getD (n/8) 0).toNat:Int)<256:=by omega
 have Hh:=ae h;obtain ⟨y,hy⟩:∃ y:Int,y=(jO (l.getD (n/8) 0).toNat (n%8):Int):=⟨_,rfl⟩
 rw [← hy] at hxo Hset;generalize ((l.getD (n/8) 0).toNat:Int)=x at *;have hst:(ea l n=t→dV l n t=l)∧(ea l n≠t→dV l n t=mS l n):=⟨fun h=>if_pos h,fun h=>if_neg h⟩
 have Hst:=ae hst;generalize hb:ea l n=b at *;clear hset hset2 hcell h hfl hu hy hst
 by_cases hbt:b=t
 ·subst hbt
  have e:=Hst.out.1 rfl;have He:=ae e;clear e
  go_enter Tryz.func148,Tryz.ntmps148
  go_wp2_with fail
  (with_reducible refine hin.mono ?_)
  rintro e w2 ⟨rfl,rfl⟩;clear hin
  go_wp2_with fail
  (with_reducible refine his.mono ?_)
  rintro e w2 ⟨rfl,rfl⟩;clear his
  go_wp2
  go_ret
  refine ⟨?_,?_,ai.refl w⟩
  ·rw [hb];simp
  ·rw [He.out];exact Hh.out
 ·have e:=Hst.out.2 hbt
  have He:=ae e;have hbb:(b == t)=false:=by simpa using hbt
  clear e
  go_enter Tryz.func148,Tryz.ntmps148
  go_wp2_with fail
  (with_reducible refine hin.mono ?_)
  rintro e w2 ⟨rfl,rfl⟩;clear hin
  go_wp2_with fail
  (with_reducible refine his.mono ?_)
  rintro e w2 ⟨rfl,rfl⟩;clear his
  go_wp2_with fail
  go_region
  all_goals
   go_wp2
   go_ret
   refine ⟨?_,?_,((ai.refl w).drew).setCell _ _⟩
   ·rw [hb]
    have:(b != t)=true:=by simpa using hbt
    rw [this];rfl
   ·rw [He.out];exact Hset.out
def Kb (v:Value) (l:List UInt8) (e:Nat) (F:ah) (w:World) (u9:Value) (wr:World):Prop:=
 ∃ k:Nat,k≤e∧u9 = .int .i64 (k:Int)∧(∀ j,j<k→ea l j=true)∧Sat wr (bs 5 v l*F)∧ai w wr
theorem zY {l:List UInt8} {e n:Nat} (hn:n<e) (h0:ea l n=false) (hall:∀ j,j<n→ea l j=true):eL l e=some n:=by
 unfold eL;rw [List.find?_eq_some_iff_getElem];refine ⟨by simp [h0],n,by simpa using hn,by simp,fun j hj=>?_⟩;simp [hall j hj]
theorem zK {l:List UInt8} {e:Nat} (hall:∀ j,j<e→ea l j=true):eL l e=none:=by
 unfold eL;rw [List.find?_eq_none];intro x hx;simp [hall x (List.mem_range.1 hx)]
theorem Ka (w:World) (v:Value) (l:List UInt8) (F:ah) (h:Sat w (bs 5 v l*F)) (hl:l.length=480) (e:Nat) (he:e≤3840) (Q:Ending→World→Prop)
  (hN:eL l e=none→∀ w',Sat w' (bs 5 v l*F)→ai w w'→Q (.returned (.tuple #[.int .i64 0,.bool false])) w')
  (hS:∀ n,eL l e=some n→∀ w',Sat w' (bs 5 v (dV l n true)*F)→ai w w'→Q (.returned (.tuple #[.int .i64 (n:Int),.bool true])) w') :
  Calls Tryz.prog 168 #[v,.int .i64 (e:Int)] w Q:=by
 have he':(e:Int)≤3840:=by omega
 have HN:=ae hN;have HS:=ae hS;obtain ⟨va,vc,rfl⟩:=aB h;rw [hl] at h ⊢;have hN2:=hN;have hS2:=hS;rw [hl] at hN2 hS2;have HN:=ae hN2;have HS:=ae hS2;clear hN hS hN2 hS2
 go_enter Tryz.func168,Tryz.ntmps168
 go_wp2_with fail
 go_loopw [9] (fun u wr=>Kb (.slice va 480 vc) l e F w u wr) (fun u _=>e-(intOf u).toNat)
 case atStart=>exact ⟨0,Nat.zero_le _,rfl,fun j hj=>absurd hj (Nat.not_lt_zero _),h,ai.refl w⟩
 case round=>
  clear h;obtain ⟨k,hk,rfl,hall,hsat,hside⟩:=hrel
  by_cases hlt:k<e
  ·have hlt':(k:Int)<(e:Int):=by omega
   have hst:=sa wr (.slice va 480 vc) l F hsat hl k (by omega) true
   cases hb:ea l k with
   | true=>
    have hb2:(ea l k != true)=false:=by rw [hb];rfl
    have hs2:dV l k true=l:=if_pos hb
    have hnx:∀ j,j<k+1→ea l j=true:=fun j hj=>by
     rcases Nat.lt_or_eq_of_le (Nat.le_of_lt_succ hj) with h9|h9
     ·exact hall j h9
     ·rw [h9];exact hb
    unfold tK at hst;rw [hb2,hs2] at hst;have Hnx:=ae hnx;clear hb hb2 hs2 hall hnx hsat
    go_wp2_with fail
    (with_reducible refine hst.mono ?_)
    rintro e2 w2 ⟨rfl,h2,d2⟩;clear hst
    go_wp2_with fail
    go_roundw
    case rel=>exact ⟨k+1,by omega,by go_num,Hnx.out,h2,hside.trans d2⟩
    case measure=>simp [intOf];omega
   | false=>
    have hb2:(ea l k != true)=true:=by rw [hb];rfl
    have hfr:=zY hlt hb hall;have Hfin:=ae (HS.out k hfr);unfold tK at hst;rw [hb2] at hst;clear hb hb2 hall hsat hfr
    go_wp2_with fail
    (with_reducible refine hst.mono ?_)
    rintro e2 w2 ⟨rfl,h2,d2⟩;clear hst
    go_wp2_with fail
    exact Hfin.out _ h2 (hside.trans d2)
  ·obtain rfl:k=e:=by omega
   have Hfin:=ae (HN.out (zK hall));clear hall
   go_wp2_with fail
   exact Hfin.out _ hsat hside
end Go.Fs
namespace Go.Fs
open Go.RowKit Go.SL Go.Ba
attribute [local go_sem] Oper.semAt_some
theorem kh {P:Program} {f:FuncId} {args:Array Value} {w:World} {R R':Ending→World→Prop} {n m:Nat} (h:Calls P f args w R) (hr:∀ e w,R e w→R' e w) :
  Fence.wide.fn f∧(Fence.wide.depth.isSome=true→1≤m)∧CallsIn Fence.wide n P f args w R':=⟨trivial,fun h=>(by cases h),(callsIn_wide.2 h).mono hr⟩
theorem l8 {P:Program} {f:FuncId} {args:Array Value} {w:World} {R R':Ending→World→Prop} {n:Nat} (h:Calls P f args w R) (hr:∀ e w,R e w→R' e w) :
  Fence.wide.fn f∧CallsIn Fence.wide n P f args w R':=⟨trivial,(callsIn_wide.2 h).mono hr⟩
end Go.Fs

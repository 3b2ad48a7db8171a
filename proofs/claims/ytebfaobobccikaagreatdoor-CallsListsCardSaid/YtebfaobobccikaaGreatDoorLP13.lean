/- Steps. -/
import Derived.Test.YtebfaobobccikaaGreatDoorLP5
import Derived.Test.YtebfaobobccikaaGreatDoorLP8
import Derived.Deep.DeepCutAuto
import Derived.BigQuiet
import Derived.Deep.QuietTactic
import Derived.Deep.CutBlock
import Derived.Deep.CutRange
import Derived.TacticsInMore
import Derived.LoopNIn
import Derived.LoopIn
set_option linter.all false
set_option maxRecDepth 99999
set_option maxHeartbeats 0
open Go.SL
open Go renaming World->Z
open Go.Proofs.Tryz renaming prog->Z'
open Bool renaming true->Y'
open Go.Proofs.Tryz
open UInt8 renaming ofNat->D0,toNat_lt->H0,toNat_ofNat_of_lt'->L0
open Nat renaming mod_lt->F0
open List renaming getD->G0,getElem?_eq_getElem->K0
open Int renaming tdiv_eq_ediv_of_nonneg->N0,tmod_eq_emod_of_nonneg->R0
namespace Go.SL
open RowKit
variable {k n x:Nat} {l:List UInt8}
def kF (x k:Nat):Nat:=if x/2 ^ k%2=1 then x-2 ^ k else x+2 ^ k
def eD (l:List UInt8) (n:Nat):Bool:=decide ((l.getD (n/8) 0).toNat/2 ^ (n%8)%2=1)
def n7 (l:List UInt8) (n:Nat):List UInt8:=l.set (n/8) (D0 (kF (l.getD (n/8) 0).toNat (n%8)))
def dU (l:List UInt8) (n:Nat) (t:Bool):List UInt8:=if eD l n=t then l else n7 l n
theorem vP (l:List UInt8) (n:Nat):(n7 l n).length=l.length:=List.length_set
theorem fj (l:List UInt8) (n:Nat) (t:Bool):(dU l n t).length=l.length:=by unfold dU;split;rfl;exact vP _ _
theorem Ct:∀ x:Fin 256,∀ k:Fin 8,kF x k<256/\∀ j:Fin 8,(kF x k/2 ^ j.val%2=1↔if j=k then ¬ x.val/2 ^ k.val%2=1 else x.val/2 ^ j.val%2=1):=by decide +kernel
theorem FV (b:x<256) (a:k<8):kF x k<256:=(Ct ⟨x,b⟩ ⟨k,a⟩).1
theorem KE (c:x<256) (b:k<8) (a:n<8):(kF x k/2 ^ n%2=1)↔if n=k then ¬ x/2 ^ k%2=1 else x/2 ^ n%2=1:=by
 have:=(Ct ⟨x,c⟩ ⟨k,b⟩).2 ⟨n,a⟩;simpa using this
theorem DJ (f:n/8<l.length) (m:Nat):eD (n7 l n) m=if m=n then !eD l n else eD l m:=by
 have d:(l.getD (n/8) 0).toNat<256:=H0 _;unfold eD n7
 by_cases b:m/8=n/8
 .have e:(l.set (n/8) (D0 (kF (l.getD (n/8) 0).toNat (n%8)))).getD (m/8) 0=D0 (kF (l.getD (n/8) 0).toNat (n%8)):=by
   rw [b];simp [G0,List.getElem?_set,f]
  rw [e,L0 (FV d (F0 _ (by decide)))];have a:=KE d (F0 n (by decide:8 > 0)) (F0 m (by decide:8 > 0));rw [b]
  by_cases c:m=n
  .subst c
   rw [if_pos rfl] at a ⊢;rw [Bool.eq_iff_iff];simp only [decide_eq_true_eq,Bool.not_eq_true',decide_eq_false_iff_not];exact a
  .rw [if_neg (by omega)] at a
   rw [if_neg c];exact decide_eq_decide.2 a
 .have e:(l.set (n/8) (D0 (kF (l.getD (n/8) 0).toNat (n%8)))).getD (m/8) 0=l.getD (m/8) 0:=by
   simp [G0,List.getElem?_set,Ne.symm b]
  rw [e,if_neg (by intro h;exact b (by rw [h]))]
theorem xW (b:n/8<l.length) (t:Bool) (m:Nat):eD (dU l n t) m=if m=n then t else eD l m:=by
 unfold dU
 split
 .rename_i h
  split
  .rename_i a;rw [a];exact h
  .rfl
 .rename_i h
  rw [DJ b]
  split
  .cases c:eD l n <;> cases t <;> simp_all
  .rfl
def fi (l:List UInt8) (e:Nat):Option Nat:=(List.range e).find? fun n => !eD l n
theorem OD:∀ x:Fin 256,∀ k:Fin 8,(bits .and .u8 ((x.val:Int)/2 ^ k.val) 1 == 1)=decide (x.val/2 ^ k.val%2=1):=by decide +kernel
theorem Ob:∀ x:Fin 256,∀ k:Fin 8,bits .xor .u8 (x.val:Int) (2 ^ k.val%256)=(kF x.val k.val:Int):=by decide +kernel
theorem Kl {w:Z} {T:TypeId} {v:Value} {F:ai} (h:ag w (bs T v l*F)) {i:Nat} (r:i<l.length) :
  ∃ g c,v = .slice (some ⟨g,0,none⟩) l.length c/\l.length<=c/\c<=maxLen/\(∀ j,j<l.length->w.cell? ⟨g,j,none⟩=some (u8 (l.getD j 0)))/\w.frozen? ⟨g,i,none⟩=false/\∀ x,ag (w.setCell ⟨g,i,none⟩ (u8 x)) (bs T v (l.set i x)*F):=by
 rcases h.cW with ⟨_,q,_⟩|⟨g,d,p,rfl,f,k,n,m,a⟩
 .omega
 .refine ⟨g,d,rfl,f,k,fun j b=>?_,a.frozen i,fun x=>?_⟩
  .rw [a.cell]
   have e:=congrArg (·[j]?) m;simp only [List.getElem?_take,Nat.mul_one,b,if_true,List.getElem?_map,Array.getElem?_toList] at e;rw [e,K0 b,G0,K0 b];rfl
  .have o:=a.setCell i (u8 x)
   have:=ag.nj (sz:=1) (n:=l.length) (cap:=d) o f k (by rw [Array.size_setIfInBounds];exact n);refine this.to ?_;rw [bs,List.length_set];congr 2;rw [Array.toList_setIfInBounds,List.take_set,m,List.map_set]
end Go.SL
namespace Go.Proofs.Fs
open RowKit SL Proofs.Ba
variable {l:List UInt8} {e:Nat}
theorem oA {w:Z} {F:ai} (n:Nat) (a:n<=1000000) (h:ag w F):ag (w.alloc (.cells (dP (zs n)) 5 (0,0))) (bs 5 (.slice (some ⟨w.heap.size,0,none⟩) n n) (zs n)*F):=by
 have:=ag.nj (sz:=1) (n:=n) (cap:=n) (h.alloc (.cells (dP (zs n)) 5 (0,0))) (Nat.le_refl _) (by unfold maxLen;omega) (by simp [eO,bh]);rw [bs,bh];refine this.to ?_;congr 2;simp only [dP,Nat.mul_one,List.toList_toArray];rw [List.take_of_length_le (by simp [bh])]
theorem Jy (w:Z):Calls Z' 125 #[] w (zx (zs 480) w):=by
 have d:∀ w,(Instr.makeSlice 22 (.int .i64 480) (.int .i64 480)).run Z' w =
  .ok (.slice (some ⟨w.heap.size,0,none⟩) 480 480) (w.alloc (.cells (dP (zs 480)) 5 (0,0))):=fh 480 (by omega)
 have b:=oA 480 (by decide) (ag.whole w);have a:=(aj.refl w).alloc (.cells (dP (zs 480)) 5 (0,0));generalize zs 480=c at *
 go_enter func125,ntmps125
 go_wp2
 go_ret
 exact ⟨_,rfl,b,a⟩
theorem vR (w:Z) (v:Value) (l:List UInt8) (b:Rd w v l) (a:l.length=480) (n:Nat) (d:n<3840) :
  Calls Z' 207 #[v,.int .i64 (n:Int)] w fun e c=>e = .returned (.bool Y')/\w=c:=by
 obtain ⟨g,h,rfl⟩:=b.shape;rw [a];have f:(n:Int)<3840:=by omega
 clear b a
 go_enter func207,ntmps207
 go_wp2
 go_ret
 exact ⟨rfl,rfl⟩
def uE (b:Bool) (w:Z) (e:Ending) (a:Z):Prop:=e = .returned (.bool b)/\w=a
theorem RT (w:Z) (v:Value) (l:List UInt8) (c:Rd w v l) (i:l.length=480) (n:Nat) (m:n<3840) :
  Calls Z' 208 #[v,.int .i64 (n:Int)] w (uE (eD l n) w):=by
 have h:=vR w v l c i n m;obtain ⟨z,A,rfl⟩:=c.shape;obtain ⟨g,o,rfl,f⟩:=c.at (by omega);have k:=f (n/8) (l.getD (n/8) 0) (by rw [G0,K0 (by omega)];rfl);have p:(l.getD (n/8) 0).toNat<256:=H0 _;have a:=OD ⟨_,p⟩ ⟨n%8,F0 _ (by decide)⟩;have d:eD l n=decide ((l.getD (n/8) 0).toNat/2 ^ (n%8)%2=1):=rfl;dsimp only at a;rw [<- d] at a;have j:=ae a;rw [i] at *;have s:((n:Int)).tdiv 8=((n/8:Nat):Int):=by rw [N0 (by omega)];omega
 have q:((n:Int)).tmod 8=((n%8:Nat):Int):=by rw [R0 (by omega)];omega
 unfold u8 at k;have t:((n/8:Nat):Int)<480:=by omega
 have r:((n%8:Nat):Int)<8:=by omega
 have u:0<=((l.getD (n/8) 0).toNat:Int):=by omega
 have y:((l.getD (n/8) 0).toNat:Int)<256:=by omega
 generalize ((l.getD (n/8) 0).toNat:Int)=x at *;generalize eD l n=b at *;clear a f c d
 go_enter func208,ntmps208
 go_wp2_with fail
 (with_reducible refine h.mono ?_)
 rintro e B ⟨rfl,rfl⟩;clear h
 go_wp2
 go_ret
 exact ⟨by show Ending.returned (.bool (bits .and .u8 (x/2 ^ (n%8)) 1 == 1))=_;rw [j.out],rfl⟩
def wz (v:Value) (l:List UInt8) (n:Nat) (t:Bool) (F:ai) (w:Z) (e:Ending) (a:Z):Prop:=
 e = .returned (.bool (eD l n != t))/\ag a (bs 5 v (dU l n t)*F)/\aj w a
theorem ub (w:Z) (v:Value) (l:List UInt8) (F:ai) (h:ag w (bs 5 v l*F)) (k:l.length=480) (n:Nat) (u:n<3840) (t:Bool) :
  Calls Z' 154 #[v,.int .i64 (n:Int),.bool t] w (wz v l n t F w):=by
 have d:=vR w v l h.oD k n u;have f:=RT w v l h.oD k n u;obtain ⟨g,c,rfl,J,K,r,L,z⟩:=Kl h (i:=n/8) (by omega);have H:=r (n/8) (by omega);have C:(l.getD (n/8) 0).toNat<256:=H0 _;have D:=Ob ⟨_,C⟩ ⟨n%8,F0 _ (by decide)⟩;dsimp only at D;have i:=z (D0 (kF (l.getD (n/8) 0).toNat (n%8)));have s:l.set (n/8) (D0 (kF (l.getD (n/8) 0).toNat (n%8)))=n7 l n:=rfl;rw [s] at i
 have B:u8 (D0 (kF (l.getD (n/8) 0).toNat (n%8))) = .int .u8 (kF (l.getD (n/8) 0).toNat (n%8):Int):=by
  unfold u8;rw [L0 (FV C (F0 _ (by decide)))]
 rw [B] at i;have o:=ae i;rw [k] at *;have O:((n:Int)).tdiv 8=((n/8:Nat):Int):=by rw [N0 (by omega)];omega
 have M:((n:Int)).tmod 8=((n%8:Nat):Int):=by rw [R0 (by omega)];omega
 unfold u8 at H;have P:((n/8:Nat):Int)<480:=by omega
 have N:((n%8:Nat):Int)<8:=by omega
 have Q:0<=((l.getD (n/8) 0).toNat:Int):=by omega
 have R:((l.getD (n/8) 0).toNat:Int)<256:=by omega
 have G:=ae h;obtain ⟨y,E⟩:∃ y:Int,y=(kF (l.getD (n/8) 0).toNat (n%8):Int):=⟨_,rfl⟩
 rw [<- E] at D o;generalize ((l.getD (n/8) 0).toNat:Int)=x at *;have A:(eD l n=t->dU l n t=l)/\(eD l n≠t->dU l n t=n7 l n):=⟨fun h=>if_pos h,fun h=>if_neg h⟩
 have p:=ae A;generalize q:eD l n=b at *;clear z i r h s B E A
 by_cases a:b=t
 .subst a
  have e:=p.out.1 rfl;have j:=ae e;clear e
  go_enter func154,ntmps154
  go_wp2_with fail
  (with_reducible refine d.mono ?_)
  rintro e m ⟨rfl,rfl⟩;clear d
  go_wp2_with fail
  (with_reducible refine f.mono ?_)
  rintro e m ⟨rfl,rfl⟩;clear f
  go_wp2
  go_ret
  refine ⟨?_,?_,aj.refl w⟩
  .rw [q];simp
  .rw [j.out];exact G.out
 .have e:=p.out.2 a
  have j:=ae e;have I:(b == t)=false:=by simpa using a
  clear e
  go_enter func154,ntmps154
  go_wp2_with fail
  (with_reducible refine d.mono ?_)
  rintro e m ⟨rfl,rfl⟩;clear d
  go_wp2_with fail
  (with_reducible refine f.mono ?_)
  rintro e m ⟨rfl,rfl⟩;clear f
  go_wp2_with fail
  go_region
  all_goals
   go_wp2
   go_ret
   refine ⟨?_,?_,((aj.refl w).drew).setCell _ _⟩
   .rw [q]
    have:(b != t)=Y':=by simpa using a
    rw [this];rfl
   .rw [j.out];exact o.out
def Kf (v:Value) (l:List UInt8) (e:Nat) (F:ai) (w:Z) (u9:Value) (wr:Z):Prop:=
 ∃ k:Nat,k<=e/\u9 = .int .i64 (k:Int)/\(∀ j,j<k->eD l j=Y')/\ag wr (bs 5 v l*F)/\aj w wr
theorem BZ {e n:Nat} (d:n<e) (a:eD l n=false) (b:∀ j,j<n->eD l j=Y'):fi l e=some n:=by
 unfold fi;rw [List.find?_eq_some_iff_getElem];refine ⟨by simp [a],n,by simpa using d,by simp,fun j c=>?_⟩;simp [b j c]
theorem AU (a:∀ j,j<e->eD l j=Y'):fi l e=none:=by
 unfold fi;rw [List.find?_eq_none];intro x b;simp [a x (List.mem_range.1 b)]
theorem JZ (w:Z) (v:Value) (l:List UInt8) (F:ai) (h:ag w (bs 5 v l*F)) (y:l.length=480) (e:Nat) (M:e<=3840) (Q:Ending->Z->Prop)
  (q:fi l e=none->∀ c,ag c (bs 5 v l*F)->aj w c->Q (.returned (.tuple #[.int .i64 0,.bool false])) c)
  (s:∀ n,fi l e=some n->∀ c,ag c (bs 5 v (dU l n Y')*F)->aj w c->Q (.returned (.tuple #[.int .i64 (n:Int),.bool Y'])) c) :
  Calls Z' 173 #[v,.int .i64 (e:Int)] w Q:=by
 have N:(e:Int)<=3840:=by omega
 have A:=ae q;have B:=ae s;obtain ⟨G,H,rfl⟩:=aE h;rw [y] at h ⊢;have r:=q;have t:=s;rw [y] at r t;have A:=ae r;have B:=ae t;clear q s r t
 go_enter func173,ntmps173
 go_wp2_with fail
 go_loopw [9] (fun u wr=>Kf (.slice G 480 H) l e F w u wr) (fun u _=>e-(intOf u).toNat)
 case atStart=>exact ⟨0,Nat.zero_le _,rfl,fun j x=>absurd x (Nat.not_lt_zero _),h,aj.refl w⟩
 case round=>
  clear h;obtain ⟨k,O,rfl,d,g,z⟩:=hrel
  by_cases K:k<e
  .have P:(k:Int)<(e:Int):=by omega
   have a:=ub wr (.slice G 480 H) l F g y k (by omega) Y'
   cases b:eD l k with
   | true=>
    have f:(eD l k != Y')=false:=by rw [b];rfl
    have E:dU l k Y'=l:=if_pos b
    have D:∀ j,j<k+1->eD l j=Y':=fun j x=>by
     rcases Nat.lt_or_eq_of_le (Nat.le_of_lt_succ x) with p|p
     .exact d j p
     .rw [p];exact b
    unfold wz at a;rw [f,E] at a;have I:=ae D;clear b f E d D g
    go_wp2_with fail
    (with_reducible refine a.mono ?_)
    rintro J L ⟨rfl,o,m⟩;clear a
    go_wp2_with fail
    go_roundw
    case rel=>exact ⟨k+1,by omega,by go_num,I.out,o,z.trans m⟩
    case measure=>simp [intOf];omega
   | false=>
    have f:(eD l k != Y')=Y':=by rw [b];rfl
    have C:=BZ K b d;have i:=ae (B.out k C);unfold wz at a;rw [f] at a;clear b f d g C
    go_wp2_with fail
    (with_reducible refine a.mono ?_)
    rintro J L ⟨rfl,o,m⟩;clear a
    go_wp2_with fail
    exact i.out _ o (z.trans m)
  .obtain rfl:k=e:=by omega
   have i:=ae (A.out (AU d));clear d
   go_wp2_with fail
   exact i.out _ g z
end Go.Proofs.Fs
namespace Go.Proofs.Fs
open RowKit SL Proofs.Ba
attribute [local go_sem] Oper.semAt_some
variable {P:Program} {f:FuncId} {args:Array Value} {w:Z} {R R':Ending->Z->Prop} {n:Nat}
theorem lz {n m:Nat} (h:Calls P f args w R) (a:∀ e w,R e w->R' e w) :
  Fence.wide.fn f/\(Fence.wide.depth.isSome=Y'->1<=m)/\CallsIn Fence.wide n P f args w R':=⟨trivial,fun h=>(by cases h),(callsIn_wide.2 h).mono a⟩
theorem nG (h:Calls P f args w R) (a:∀ e w,R e w->R' e w) :
  Fence.wide.fn f/\CallsIn Fence.wide n P f args w R':=⟨trivial,(callsIn_wide.2 h).mono a⟩
end Go.Proofs.Fs

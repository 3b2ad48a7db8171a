/- Steps. -/
import Derived.Test.YtebfaobobccikaaGreatDoorSP5
import Derived.Test.YtebfaobobccikaaGreatDoorSP8
import Derived.Deep.DeepCutAuto
import Derived.BigQuiet
import Derived.Deep.QuietTactic
import Derived.Deep.CutBlock
import Derived.Deep.CutRange
import Derived.TacticsInMore
import Derived.LoopNIn
import Derived.LoopIn
set_option linter.all false
set_option maxRecDepth 99999
set_option maxHeartbeats 0
open Go.SL
open Go.Value renaming int->Z,slice->Y,pointer->W'
open Go.Obj renaming cells->X
open Go.Ending renaming returned->Z'
open Go renaming World->W,Value->V
open Go.Proofs.Tryz renaming prog->U
open Option renaming some->Y',none->T
open Bool renaming true->X'
open Go.Proofs.Tryz
open UInt8 renaming ofNat->D0,toNat_lt->H0,toNat_ofNat_of_lt'->L0
open Nat renaming mod_lt->F0
open List renaming getD->G0,getElem?_eq_getElem->K0,append_toArray->V0
open Int renaming tdiv_eq_ediv_of_nonneg->N0,tmod_eq_emod_of_nonneg->R0
open Array renaming replicate_succ->S0,replicate_zero->T0
namespace Go.SL
open RowKit
variable {k n x:Nat} {l:List UInt8}
def kX (x k:Nat):Nat:=if x/2 ^ k%2=1 then x-2 ^ k else x+2 ^ k
def eB (l:List UInt8) (n:Nat):Bool:=decide ((l.getD (n/8) 0).toNat/2 ^ (n%8)%2=1)
def oY (l:List UInt8) (n:Nat):List UInt8:=l.set (n/8) (D0 (kX (l.getD (n/8) 0).toNat (n%8)))
def eC (l:List UInt8) (n:Nat) (t:Bool):List UInt8:=if eB l n=t then l else oY l n
theorem xn (l:List UInt8) (n:Nat):(oY l n).length=l.length:=List.length_set
theorem fz (l:List UInt8) (n:Nat) (t:Bool):(eC l n t).length=l.length:=by unfold eC;split;rfl;exact xn _ _
theorem CM:∀ x:Fin 256,∀ k:Fin 8,kX x k<256/\∀ j:Fin 8,(kX x k/2 ^ j.val%2=1↔if j=k then ¬ x.val/2 ^ k.val%2=1 else x.val/2 ^ j.val%2=1):=by decide +kernel
theorem G2 (b:x<256) (a:k<8):kX x k<256:=(CM ⟨x,b⟩ ⟨k,a⟩).1
theorem LX (c:x<256) (b:k<8) (a:n<8):(kX x k/2 ^ n%2=1)↔if n=k then ¬ x/2 ^ k%2=1 else x/2 ^ n%2=1:=by
 have:=(CM ⟨x,c⟩ ⟨k,b⟩).2 ⟨n,a⟩;simpa using this
theorem Ex (f:n/8<l.length) (m:Nat):eB (oY l n) m=if m=n then !eB l n else eB l m:=by
 have d:(l.getD (n/8) 0).toNat<256:=H0 _;unfold eB oY
 by_cases b:m/8=n/8
 .have e:(l.set (n/8) (D0 (kX (l.getD (n/8) 0).toNat (n%8)))).getD (m/8) 0=D0 (kX (l.getD (n/8) 0).toNat (n%8)):=by
   rw [b];simp [G0,List.getElem?_set,f]
  rw [e,L0 (G2 d (F0 _ (by decide)))];have a:=LX d (F0 n (by decide:8 > 0)) (F0 m (by decide:8 > 0));rw [b]
  by_cases c:m=n
  .subst c
   rw [if_pos rfl] at a ⊢;rw [Bool.eq_iff_iff];simp only [decide_eq_true_eq,Bool.not_eq_true',decide_eq_false_iff_not];exact a
  .rw [if_neg (by omega)] at a
   rw [if_neg c];exact decide_eq_decide.2 a
 .have e:(l.set (n/8) (D0 (kX (l.getD (n/8) 0).toNat (n%8)))).getD (m/8) 0=l.getD (m/8) 0:=by
   simp [G0,List.getElem?_set,Ne.symm b]
  rw [e,if_neg (by intro h;exact b (by rw [h]))]
theorem y7 (b:n/8<l.length) (t:Bool) (m:Nat):eB (eC l n t) m=if m=n then t else eB l m:=by
 unfold eC
 split
 .rename_i h
  split
  .rename_i a;rw [a];exact h
  .rfl
 .rename_i h
  rw [Ex b]
  split
  .cases c:eB l n <;> cases t <;> simp_all
  .rfl
def fA (l:List UInt8) (e:Nat):Option Nat:=(List.range e).find? fun n => !eB l n
theorem QT:∀ x:Fin 256,∀ k:Fin 8,(bits .and .u8 ((x.val:Int)/2 ^ k.val) 1 == 1)=decide (x.val/2 ^ k.val%2=1):=by decide +kernel
theorem QY:∀ x:Fin 256,∀ k:Fin 8,bits .xor .u8 (x.val:Int) (2 ^ k.val%256)=(kX x.val k.val:Int):=by decide +kernel
theorem KI {w:W} {d:TypeId} {v:V} {F:ai} (h:ag w (bs d v l*F)) {i:Nat} (s:i<l.length) :
  ∃ g c,v = Y (Y' ⟨g,0,T⟩) l.length c/\l.length<=c/\c<=maxLen/\(∀ j,j<l.length->w.cell? ⟨g,j,T⟩=Y' (u8 (l.getD j 0)))/\w.frozen? ⟨g,i,T⟩=false/\∀ x,ag (w.setCell ⟨g,i,T⟩ (u8 x)) (bs d v (l.set i x)*F):=by
 rcases h.dm with ⟨_,r,_⟩|⟨g,f,q,rfl,k,m,o,n,a⟩
 .omega
 .refine ⟨g,f,rfl,k,m,fun j b=>?_,a.frozen i,fun x=>?_⟩
  .rw [a.cell]
   have e:=congrArg (·[j]?) n;simp only [List.getElem?_take,Nat.mul_one,b,if_true,List.getElem?_map,Array.getElem?_toList] at e;rw [e,K0 b,G0,K0 b];rfl
  .have p:=a.setCell i (u8 x)
   have:=ag.oa (sz:=1) (n:=l.length) (cap:=f) p k m (by rw [Array.size_setIfInBounds];exact o);refine this.to ?_;rw [bs,List.length_set];congr 2;rw [Array.toList_setIfInBounds,List.take_set,n,List.map_set]
end Go.SL
namespace Go.Proofs.Fs
open RowKit SL Proofs.Ba
variable {l:List UInt8} {e:Nat}
theorem pH {w:W} {F:ai} (n:Nat) (a:n<=1000000) (h:ag w F):ag (w.alloc (X (eA (zs n)) 5 (0,0))) (bs 5 (Y (Y' ⟨w.heap.size,0,T⟩) n n) (zs n)*F):=by
 have:=ag.oa (sz:=1) (n:=n) (cap:=n) (h.alloc (X (eA (zs n)) 5 (0,0))) (Nat.le_refl _) (by unfold maxLen;omega) (by simp [fi,bq]);rw [bs,bq];refine this.to ?_;congr 2;simp only [eA,Nat.mul_one,List.toList_toArray];rw [List.take_of_length_le (by simp [bq])]
theorem OD (w:W):Calls U 125 #[] w (Au (zs 480) w):=by
 have d:∀ w,(Instr.makeSlice 22 (Z .i64 480) (Z .i64 480)).run U w =
  .ok (Y (Y' ⟨w.heap.size,0,T⟩) 480 480) (w.alloc (X (eA (zs 480)) 5 (0,0))):=fB 480 (by omega)
 have b:=pH 480 (by decide) (ag.whole w);have a:=(aj.refl w).alloc (X (eA (zs 480)) 5 (0,0));generalize zs 480=c at *
 go_enter func125,ntmps125
 go_wp2
 go_ret
 exact ⟨_,rfl,b,a⟩
theorem vF (w:W) (v:V) (l:List UInt8) (b:Rd w v l) (a:l.length=480) (n:Nat) (d:n<3840) :
  Calls U 207 #[v,Z .i64 (n:Int)] w fun e c=>e = Z' (.bool X')/\w=c:=by
 obtain ⟨g,h,rfl⟩:=b.shape;rw [a];have f:(n:Int)<3840:=by omega
 clear b a
 go_enter func207,ntmps207
 go_wp2
 go_ret
 exact ⟨rfl,rfl⟩
def wJ (b:Bool) (w:W) (e:Ending) (a:W):Prop:=e = Z' (.bool b)/\w=a
theorem NA (w:W) (v:V) (l:List UInt8) (c:Rd w v l) (i:l.length=480) (n:Nat) (m:n<3840) :
  Calls U 208 #[v,Z .i64 (n:Int)] w (wJ (eB l n) w):=by
 have h:=vF w v l c i n m;obtain ⟨z,A,rfl⟩:=c.shape;obtain ⟨g,o,rfl,f⟩:=c.at (by omega);have k:=f (n/8) (l.getD (n/8) 0) (by rw [G0,K0 (by omega)];rfl);have p:(l.getD (n/8) 0).toNat<256:=H0 _;have a:=QT ⟨_,p⟩ ⟨n%8,F0 _ (by decide)⟩;have d:eB l n=decide ((l.getD (n/8) 0).toNat/2 ^ (n%8)%2=1):=rfl;dsimp only at a;rw [<- d] at a;have j:=ae a;rw [i] at *;have s:((n:Int)).tdiv 8=((n/8:Nat):Int):=by rw [N0 (by omega)];omega
 have q:((n:Int)).tmod 8=((n%8:Nat):Int):=by rw [R0 (by omega)];omega
 unfold u8 at k;have t:((n/8:Nat):Int)<480:=by omega
 have r:((n%8:Nat):Int)<8:=by omega
 have u:0<=((l.getD (n/8) 0).toNat:Int):=by omega
 have y:((l.getD (n/8) 0).toNat:Int)<256:=by omega
 generalize ((l.getD (n/8) 0).toNat:Int)=x at *;generalize eB l n=b at *;clear a f c d
 go_enter func208,ntmps208
 go_wp2_with fail
 (with_reducible refine h.mono ?_)
 rintro e B ⟨rfl,rfl⟩;clear h
 go_wp2
 go_ret
 exact ⟨by show Ending.returned (.bool (bits .and .u8 (x/2 ^ (n%8)) 1 == 1))=_;rw [j.out],rfl⟩
def vz (v:V) (l:List UInt8) (n:Nat) (t:Bool) (F:ai) (w:W) (e:Ending) (a:W):Prop:=
 e = Z' (.bool (eB l n != t))/\ag a (bs 5 v (eC l n t)*F)/\aj w a
theorem uK (w:W) (v:V) (l:List UInt8) (F:ai) (h:ag w (bs 5 v l*F)) (k:l.length=480) (n:Nat) (u:n<3840) (t:Bool) :
  Calls U 154 #[v,Z .i64 (n:Int),.bool t] w (vz v l n t F w):=by
 have d:=vF w v l h.oI k n u;have f:=NA w v l h.oI k n u;obtain ⟨g,c,rfl,J,K,r,L,z⟩:=KI h (i:=n/8) (by omega);have H:=r (n/8) (by omega);have C:(l.getD (n/8) 0).toNat<256:=H0 _;have D:=QY ⟨_,C⟩ ⟨n%8,F0 _ (by decide)⟩;dsimp only at D;have i:=z (D0 (kX (l.getD (n/8) 0).toNat (n%8)));have s:l.set (n/8) (D0 (kX (l.getD (n/8) 0).toNat (n%8)))=oY l n:=rfl;rw [s] at i
 have B:u8 (D0 (kX (l.getD (n/8) 0).toNat (n%8))) = Z .u8 (kX (l.getD (n/8) 0).toNat (n%8):Int):=by
  unfold u8;rw [L0 (G2 C (F0 _ (by decide)))]
 rw [B] at i;have o:=ae i;rw [k] at *;have O:((n:Int)).tdiv 8=((n/8:Nat):Int):=by rw [N0 (by omega)];omega
 have M:((n:Int)).tmod 8=((n%8:Nat):Int):=by rw [R0 (by omega)];omega
 unfold u8 at H;have P:((n/8:Nat):Int)<480:=by omega
 have N:((n%8:Nat):Int)<8:=by omega
 have Q:0<=((l.getD (n/8) 0).toNat:Int):=by omega
 have R:((l.getD (n/8) 0).toNat:Int)<256:=by omega
 have G:=ae h;obtain ⟨y,E⟩:∃ y:Int,y=(kX (l.getD (n/8) 0).toNat (n%8):Int):=⟨_,rfl⟩
 rw [<- E] at D o;generalize ((l.getD (n/8) 0).toNat:Int)=x at *;have A:(eB l n=t->eC l n t=l)/\(eB l n≠t->eC l n t=oY l n):=⟨fun h=>if_pos h,fun h=>if_neg h⟩
 have p:=ae A;generalize q:eB l n=b at *;clear z i r h s B E A
 by_cases a:b=t
 .subst a
  have e:=p.out.1 rfl;have j:=ae e;clear e
  go_enter func154,ntmps154
  go_wp2_with fail
  (with_reducible refine d.mono ?_)
  rintro e m ⟨rfl,rfl⟩;clear d
  go_wp2_with fail
  (with_reducible refine f.mono ?_)
  rintro e m ⟨rfl,rfl⟩;clear f
  go_wp2
  go_ret
  refine ⟨?_,?_,aj.refl w⟩
  .rw [q];simp
  .rw [j.out];exact G.out
 .have e:=p.out.2 a
  have j:=ae e;have I:(b == t)=false:=by simpa using a
  clear e
  go_enter func154,ntmps154
  go_wp2_with fail
  (with_reducible refine d.mono ?_)
  rintro e m ⟨rfl,rfl⟩;clear d
  go_wp2_with fail
  (with_reducible refine f.mono ?_)
  rintro e m ⟨rfl,rfl⟩;clear f
  go_wp2_with fail
  go_region
  all_goals
   go_wp2
   go_ret
   refine ⟨?_,?_,((aj.refl w).drew).setCell _ _⟩
   .rw [q]
    have:(b != t)=X':=by simpa using a
    rw [this];rfl
   .rw [j.out];exact o.out
def Nt (v:V) (l:List UInt8) (e:Nat) (F:ai) (w:W) (u9:V) (wr:W):Prop:=
 ∃ k:Nat,k<=e/\u9 = Z .i64 (k:Int)/\(∀ j,j<k->eB l j=X')/\ag wr (bs 5 v l*F)/\aj w wr
theorem CQ {e n:Nat} (d:n<e) (a:eB l n=false) (b:∀ j,j<n->eB l j=X'):fA l e=Y' n:=by
 unfold fA;rw [List.find?_eq_some_iff_getElem];refine ⟨by simp [a],n,by simpa using d,by simp,fun j c=>?_⟩;simp [b j c]
theorem CW (a:∀ j,j<e->eB l j=X'):fA l e=T:=by
 unfold fA;rw [List.find?_eq_none];intro x b;simp [a x (List.mem_range.1 b)]
theorem KY (w:W) (v:V) (l:List UInt8) (F:ai) (h:ag w (bs 5 v l*F)) (y:l.length=480) (e:Nat) (M:e<=3840) (Q:Ending->W->Prop)
  (q:fA l e=T->∀ c,ag c (bs 5 v l*F)->aj w c->Q (Z' (.tuple #[Z .i64 0,.bool false])) c)
  (s:∀ n,fA l e=Y' n->∀ c,ag c (bs 5 v (eC l n X')*F)->aj w c->Q (Z' (.tuple #[Z .i64 (n:Int),.bool X'])) c) :
  Calls U 173 #[v,Z .i64 (e:Int)] w Q:=by
 have N:(e:Int)<=3840:=by omega
 have A:=ae q;have B:=ae s;obtain ⟨G,H,rfl⟩:=aF h;rw [y] at h ⊢;have r:=q;have t:=s;rw [y] at r t;have A:=ae r;have B:=ae t;clear q s r t
 go_enter func173,ntmps173
 go_wp2_with fail
 go_loopw [9] (fun u wr=>Nt (Y G 480 H) l e F w u wr) (fun u _=>e-(intOf u).toNat)
 case atStart=>exact ⟨0,Nat.zero_le _,rfl,fun j x=>absurd x (Nat.not_lt_zero _),h,aj.refl w⟩
 case round=>
  clear h;obtain ⟨k,O,rfl,d,g,z⟩:=hrel
  by_cases K:k<e
  .have P:(k:Int)<(e:Int):=by omega
   have a:=uK wr (Y G 480 H) l F g y k (by omega) X'
   cases b:eB l k with
   | true=>
    have f:(eB l k != X')=false:=by rw [b];rfl
    have E:eC l k X'=l:=if_pos b
    have D:∀ j,j<k+1->eB l j=X':=fun j x=>by
     rcases Nat.lt_or_eq_of_le (Nat.le_of_lt_succ x) with p|p
     .exact d j p
     .rw [p];exact b
    unfold vz at a;rw [f,E] at a;have I:=ae D;clear b f E d D g
    go_wp2_with fail
    (with_reducible refine a.mono ?_)
    rintro J L ⟨rfl,o,m⟩;clear a
    go_wp2_with fail
    go_roundw
    case rel=>exact ⟨k+1,by omega,by go_num,I.out,o,z.trans m⟩
    case measure=>simp [intOf];omega
   | false=>
    have f:(eB l k != X')=X':=by rw [b];rfl
    have C:=CQ K b d;have i:=ae (B.out k C);unfold vz at a;rw [f] at a;clear b f d g C
    go_wp2_with fail
    (with_reducible refine a.mono ?_)
    rintro J L ⟨rfl,o,m⟩;clear a
    go_wp2_with fail
    exact i.out _ o (z.trans m)
  .obtain rfl:k=e:=by omega
   have i:=ae (A.out (CW d));clear d
   go_wp2_with fail
   exact i.out _ g z
end Go.Proofs.Fs
namespace Go.SL
open RowKit
def dx (l:List UInt8) (e:Nat):List Nat:=(List.range e).filter (eB l)
theorem oF (l:List UInt8) (e:Nat):dx l (e+1)=if eB l e=X' then dx l e++[e] else dx l e:=by
 unfold dx;rw [List.range_succ,List.filter_append]
 split
 .rename_i h;rw [List.filter_cons_of_pos h];rfl
 .rename_i h;rw [List.filter_cons_of_neg h];simp
theorem xR (l:List UInt8) {k e:Nat} (h:k<=e):dx l k <+: dx l e:=by
 obtain ⟨d,rfl⟩:=Nat.exists_eq_add_of_le h
 induction d with
 | zero=>exact List.prefix_refl _
 | succ d a=>
  refine (a (by omega)).trans ?_;rw [show k+(d+1)=(k+d)+1 by omega,oF]
  split
  .exact List.prefix_append _ _
  .exact List.prefix_refl _
theorem qj (l:List UInt8) (e:Nat):(dx l e).length<=e:=by
 have:=List.length_filter_le (eB l) (List.range e);simpa [dx] using this
end Go.SL
namespace Go.Proofs.Fs
open RowKit SL Proofs.Ba
attribute [local go_sem] Oper.semAt_some
variable {P:Program} {f:FuncId} {args:Array V} {w:W} {R R':Ending->W->Prop} {n:Nat}
theorem kx {n m:Nat} (h:Calls P f args w R) (a:∀ e w,R e w->R' e w) :
  Fence.wide.fn f/\(Fence.wide.depth.isSome=X'->1<=m)/\CallsIn Fence.wide n P f args w R':=⟨trivial,fun h=>(by cases h),(callsIn_wide.2 h).mono a⟩
theorem ni (h:Calls P f args w R) (a:∀ e w,R e w->R' e w) :
  Fence.wide.fn f/\CallsIn Fence.wide n P f args w R':=⟨trivial,(callsIn_wide.2 h).mono a⟩
def NF (x:Nat) (a:Array V):ai:=fact (a=#[Z .i64 (x:Int)])
def kL (ex a:Nat) (v:V) (l:List UInt8) (e:Nat):ai:=
 pt a (X #[v] 22 (0,0))*(pt ex (X #[Z .i64 (e:Int)] 3 (0,0))*bs 5 v l)
def AD (A:List Nat->ai) (l:List UInt8) (e:Nat) (a:ai) (w0:W) (u:V) (wr:W):Prop:=
 ∃ k:Nat,k<=e/\u = Z .i64 (k:Int)/\aj w0 wr/\ag wr (A (dx l k)*a)
theorem JG (n:Nat) (ex c:Nat) (a:Option Addr) (b:Nat) (l:List UInt8) (e:Nat) (J:l.length=480) (Q:e<=3840) :
  fJ Fence.wide n U 215 #[W' (Y' ⟨ex,0,T⟩),W' (Y' ⟨c,0,T⟩)] (kL ex c (Y a 480 b) l e) NF (fun z=>z=dx l e) (fun z=>z <+: dx l e):=by
 intro lp A N G w0 w I L s;have R:(e:Int)<=3840:=by omega
 have F:ag w (pt ex (X #[Z .i64 (e:Int)] 3 (0,0))*(A []*(pt c (X #[Y a 480 b] 22 (0,0))*(bs 5 (Y a 480 b) l*G)))):=s.to (by unfold kL;ac_rfl);have D:w.cell? ⟨ex,0,T⟩=Y' (Z .i64 (e:Int)):=F.cell 0;refine callsIn_of_wp func215 rfl trivial ?_ rfl;simp only [ntmps215,List.size_toArray,List.length_cons,List.length_nil,Nat.reduceAdd,Nat.reduceSub,S0,T0,List.push_toArray,V0,List.nil_append,List.cons_append]
 gi_wp2
 gi_loopw [7] (fun u wr=>AD A l e (kL ex c (Y a 480 b) l e*G) w0 u wr) (fun u _=>e-(intOf u).toNat)
 case atStart=>exact ⟨0,Nat.zero_le _,rfl,L,s⟩
 case round=>
  clear s D;obtain ⟨k,S,rfl,y,d⟩:=hrel
  by_cases K:k<e
  .have b0:(k:Int)<(e:Int):=by omega
   have o:ag wr (pt c (X #[Y a 480 b] 22 (0,0))*(bs 5 (Y a 480 b) l*(A (dx l k)*(pt ex (X #[Z .i64 (e:Int)] 3 (0,0))*G)))):=d.to (by unfold kL;ac_rfl);have O:wr.cell? ⟨c,0,T⟩=Y' (Y a 480 b):=o.cell 0;have g:=NA wr (Y a 480 b) l o.ah.oI J k (by omega);have i:=oF l k
   cases p:eB l k with
   | false=>
    rw [p] at g i;have j:dx l (k+1)=dx l k:=i;have r:=ae j;have q:=ae d;clear p i j d o
    gi_wp2_with fail
    refine kx g ?_;rintro E M ⟨rfl,rfl⟩;clear g
    gi_wp2
    refine ⟨fun f h=>(by cases h),?_⟩
    gi_wp2
    go_roundw
    gi_wp2
    have m:AD A l e (kL ex c (Y a 480 b) l e*G) w0 (Z .i64 ((k:Int)+1)) wr:=⟨k+1,by omega,by go_num,y,by rw [r.out];exact q.out⟩
    all_goals first|exact m|exact ⟨m,by simp [intOf];omega⟩|(simp [intOf];omega)
   | true=>
    rw [p] at g i;have j:dx l (k+1)=dx l k++[k]:=i;have t:dx l k++[k] <+: dx l e:=by rw [<- j];exact xR l K
    obtain ⟨P,c0,assign,body,hy,H⟩:=I _ k #[Z .i64 (k:Int)] (kL ex c (Y a 480 b) l e*G) wr t y (ag.ah (X1:=NF k #[Z .i64 (k:Int)]) (ag.aq.2 ⟨rfl,d⟩));have r:=ae j;have B:=ae t;clear p i j d o t
    gi_wp2_with fail
    refine kx g ?_;rintro E M ⟨rfl,rfl⟩;clear g
    gi_wp2
    refine ⟨fun h=>(by cases h),H.mono ?_⟩;rintro e C (⟨rfl,v,x⟩|⟨rfl,v,x⟩)
    .gi_wp2
     have m:AD A l e (kL ex c (Y a 480 b) l e*G) w0 (Z .i64 ((k:Int)+1)) C:=⟨k+1,by omega,by go_num,v,by rw [r.out];exact x⟩
     all_goals first|exact m|exact ⟨m,by simp [intOf];omega⟩|(simp [intOf];omega)
    .gi_wp2
     refine bodyPost_ret (results_none rfl _ _ _) rfl ?_;exact ⟨⟨_,rfl⟩,v,.inr ⟨_,B.out,x⟩⟩
  .obtain rfl:k=e:=by omega
   have q:=ae d;clear d
   gi_wp2
   go_end0
   exact ⟨⟨_,rfl⟩,y,.inl ⟨_,rfl,q.out⟩⟩
def SQ (b:V) (e:Nat) (w:W) (a:Ending) (c:W):Prop:=
 a = Z' (.func (.func 215) #[] #[W' (Y' ⟨w.heap.size+1,0,T⟩),W' (Y' ⟨w.heap.size,0,T⟩)]) /\
  c=(w.alloc (X #[b] 22 (0,0))).alloc (X #[Z .i64 (e:Int)] 3 (0,0))
theorem wT (w:W) (a:Option Addr) (k c e:Nat) :
  Calls U 161 #[Y a k c,Z .i64 (e:Int)] w (SQ (Y a k c) e w):=by
 go_enter func161,ntmps161
 go_wp2
 go_ret
 exact ⟨rfl,rfl⟩
def ot (a:Nat) (b:List Nat):ai:=pt a (X #[Z .i64 (b.length:Int)] 3 (0,0))
def SF (k:Nat) (v:V) (l:List UInt8) (F:ai) (w:W) (e:Ending) (a:W):Prop:=
 e = Z' (Z .i64 (k:Int))/\ag a (bs 5 v l*F)/\aj w a
def Vx (x:Nat) (t:Array V):Array V:=t.setIfInBounds 9 (Z .i64 (x:Int))
theorem HU (w:W) (v:V) (l:List UInt8) (F:ai) (h:ag w (bs 5 v l*F)) (y:l.length=480) (e:Nat) (L:e<=3840) :
  Calls U 100 #[v,Z .i64 (e:Int)] w (SF (dx l e).length v l F w):=by
 obtain ⟨c,d,rfl⟩:=aF h;rw [y] at h ⊢;have P:(e:Int)<=3840:=by omega
 refine (callsIn_wide (n:=9)).1 ?_;refine callsIn_of_wp_marks func100 rfl trivial ?_ rfl;simp only [ntmps100,List.size_toArray,List.length_cons,List.length_nil,Nat.reduceAdd,Nat.reduceSub,S0,T0,List.push_toArray,V0,List.nil_append,List.cons_append];have p:=h.alloc (X #[Z .i64 0] 3 (0,0));have s:=(aj.refl w).alloc (X #[Z .i64 0] 3 (0,0));clear h
 gi_wp2_with fail
 generalize w.alloc (X #[Z .i64 0] 3 (0,0))=a at p s ⊢;refine ni (wT a c 480 d e) ?_;rintro O w2 ⟨rfl,rfl⟩;have k:=(p.alloc (X #[Y c 480 d] 22 (0,0))).alloc (X #[Z .i64 (e:Int)] 3 (0,0));have m:=(s.alloc (X #[Y c 480 d] 22 (0,0))).alloc (X #[Z .i64 (e:Int)] 3 (0,0));have C:(a.alloc (X #[Y c 480 d] 22 (0,0))).heap.size=a.heap.size+1:=Array.size_push ..;rw [C] at k;clear p s C
 gi_wp2_with fail
 generalize (a.alloc (X #[Y c 480 d] 22 (0,0))).alloc (X #[Z .i64 (e:Int)] 3 (0,0))=N at k m ⊢;have o:ag N (ot w.heap.size []*(kL (a.heap.size+1) a.heap.size (Y c 480 d) l e*F)):=k.to (by unfold kL ot;ac_rfl);clear k
 refine sx (w0:=w) rfl (by decide) (gf:=215) (lb:=#[W' (Y' ⟨a.heap.size+1,0,T⟩),W' (Y' ⟨a.heap.size,0,T⟩)]) rfl trivial (enters func215 (by kernel_rfl) rfl)
  (JG _ (a.heap.size+1) a.heap.size c d l e y L) Vx (ot w.heap.size) (fun b x=>ot w.heap.size b) _ ?hps m o ?assign ?body ?done
 case hps=>
  intro x D j g h;unfold NF at h;obtain ⟨rfl,_⟩:=ag.aq.1 h
  rfl
 case assign=>
  intro t r b x D j g K _ f H q;have n:ag g (NF x D*(ot w.heap.size b*(pt t (.loop r)*j))):=H.ah;unfold NF at n;obtain ⟨rfl,i⟩:=ag.aq.1 n;clear H n
  gi_wp2
  exact q _ f i
 case body=>
  intro t r b x j g z f H
  have M:b.length+1<=3840:=by
   have:=z.length_le;have:=qj l e;simp at *;omega
  have c0:(b.length:Int)+1<=3840:=by omega
  have b0:0<=(b.length:Int):=by omega
  have Q:g.cell? ⟨w.heap.size,0,T⟩=Y' (Z .i64 (b.length:Int)):=H.cell 0;have S:g.frozen? ⟨w.heap.size,0,T⟩=false:=H.frozen 0;have A:=H.setCell 0 (Z .i64 ((b.length:Int)+1))
  have B:ag (g.setCell ⟨w.heap.size,0,T⟩ (Z .i64 ((b.length:Int)+1))) (ot w.heap.size (b++[x])*(pt t (.loop r)*j)):=by
   unfold ot;rw [List.length_append,List.length_singleton,Int.natCast_add];exact A
  have I:=ae B;have Hd:=ae f;clear A B H z f M o m;generalize (b.length:Int)=d0 at *;simp only [Vx,List.setIfInBounds_toArray,List.set_cons_succ,List.set_cons_zero]
  gi_wp2
  exact ⟨Hd.out.setCell _ _,I.out⟩
 case done=>
  intro E ys u J f H;subst J;have i:ag u (pt E (.deferred (Y' []))*(ot w.heap.size (dx l e)*(kL (a.heap.size+1) a.heap.size (Y c 480 d) l e*F))):=H.to (by ac_rfl);have R:u.cell? ⟨w.heap.size,0,T⟩=Y' (Z .i64 ((dx l e).length:Int)):=H.cell 0;have q:=i.heap;have G:=(i.putObj (.deferred T)).right;have Hd:=ae f;clear H i o f m
  gi_wp2
  refine ⟨by simp,.inl ⟨_,_,rfl,run_takeDeferred q,?_⟩⟩;exact ⟨_,results_tmp rfl _ _ _,rfl,(G.right.to (by unfold kL;ac_rfl:_=pt (a.heap.size+1) (X #[Z .i64 (e:Int)] 3 (0,0))*(pt a.heap.size (X #[Y c 480 d] 22 (0,0))*(bs 5 (Y c 480 d) l*F)))).right.right,Hd.out.putObj _ _⟩
end Go.Proofs.Fs

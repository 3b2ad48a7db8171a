/- Steps. -/
import Derived.Test.YtiomanbgcfjblaaGreatDoorLP5
import Derived.Test.YtiomanbgcfjblaaGreatDoorLP8
import Derived.Deep.DeepCutAuto
import Derived.BigQuiet
import Derived.Deep.QuietTactic
import Derived.Deep.CutBlock
import Derived.Deep.CutRange
import Derived.TacticsInMore
import Derived.LoopNIn
import Derived.LoopIn
set_option linter.all false
set_option maxRecDepth 99999
set_option maxHeartbeats 0
open Go.SL
open Go renaming World->Z
open Go.Proofs.Tryz renaming prog->Z'
open Bool renaming true->Y'
open UInt8 renaming ofNat->A1,toNat_lt->D8,toNat_ofNat_of_lt'->D6
open Nat renaming mod_lt->B3
open List renaming getD->D9,getElem?_eq_getElem->D7
open Int renaming tdiv_eq_ediv_of_nonneg->D5,tmod_eq_emod_of_nonneg->D4
namespace Go.SL
open RowKit
variable {k n x:Nat} {l:List UInt8}
def lj (x k:Nat):Nat:=if x/2 ^ k%2=1 then x-2 ^ k else x+2 ^ k
def eF (l:List UInt8) (n:Nat):Bool:=decide ((l.getD (n/8) 0).toNat/2 ^ (n%8)%2=1)
def pd (l:List UInt8) (n:Nat):List UInt8:=l.set (n/8) (A1 (lj (l.getD (n/8) 0).toNat (n%8)))
def ez (l:List UInt8) (n:Nat) (t:Bool):List UInt8:=if eF l n=t then l else pd l n
def vd (l:List UInt8) (n:Nat):(pd l n).length=l.length:=List.length_set
def fy (l:List UInt8) (n:Nat) (t:Bool):(ez l n t).length=l.length:=by unfold ez;split;rfl;exact vd _ _
def B4:∀ x:Fin 256,∀ k:Fin 8,lj x k<256/\∀ j:Fin 8,(lj x k/2 ^ j.val%2=1↔if j=k then ¬ x.val/2 ^ k.val%2=1 else x.val/2 ^ j.val%2=1):=by decide +kernel
def Im (b:x<256) (a:k<8):lj x k<256:=(B4 ⟨x,b⟩ ⟨k,a⟩).1
def MC (c:x<256) (b:k<8) (a:n<8):(lj x k/2 ^ n%2=1)↔if n=k then ¬ x/2 ^ k%2=1 else x/2 ^ n%2=1:=by
 have:=(B4 ⟨x,c⟩ ⟨k,b⟩).2 ⟨n,a⟩;simpa using this
def Eh (f:n/8<l.length) (m:Nat):eF (pd l n) m=if m=n then !eF l n else eF l m:=by
 have d:(l.getD (n/8) 0).toNat<256:=D8 _;unfold eF pd
 by_cases b:m/8=n/8
 .have e:(l.set (n/8) (A1 (lj (l.getD (n/8) 0).toNat (n%8)))).getD (m/8) 0=A1 (lj (l.getD (n/8) 0).toNat (n%8)):=by
   rw [b];simp [D9,List.getElem?_set,f]
  rw [e,D6 (Im d (B3 _ De0))];have a:=MC d (B3 n (by decide:8 > 0)) (B3 m (by decide:8 > 0));rw [b]
  by_cases c:m=n
  .subst c
   rw [if_pos rfl] at a ⊢;rw [Bool.eq_iff_iff];simp only [decide_eq_true_eq,Bool.not_eq_true',decide_eq_false_iff_not];exact a
  .rw [if_neg Om0] at a
   rw [if_neg c];exact decide_eq_decide.2 a
 .have e:(l.set (n/8) (A1 (lj (l.getD (n/8) 0).toNat (n%8)))).getD (m/8) 0=l.getD (m/8) 0:=by
   simp [D9,List.getElem?_set,Ne.symm b]
  rw [e,if_neg (by intro h;exact b (by rw [h]))]
def yI (b:n/8<l.length) (t:Bool) (m:Nat):eF (ez l n t) m=if m=n then t else eF l m:=by
 unfold ez
 split
 .rename_i h
  split
  .rename_i a;rw [a];exact h
  .rfl
 .rename_i h
  rw [Eh b]
  split
  .cases c:eF l n <;> cases t <;> simp_all
  .rfl
def fp (l:List UInt8) (e:Nat):Option Nat:=(List.range e).find? fun n => !eF l n
def RN:∀ x:Fin 256,∀ k:Fin 8,(bits .and .u8 ((x.val:Int)/2 ^ k.val) 1 == 1)=decide (x.val/2 ^ k.val%2=1):=by decide +kernel
def R8:∀ x:Fin 256,∀ k:Fin 8,bits .xor .u8 (x.val:Int) (2 ^ k.val%256)=(lj x.val k.val:Int):=by decide +kernel
def NL {w:Z} {T:TypeId} {v:Value} {F:ai} (h:ah w (bs T v l*F)) {i:Nat} (p:i<l.length) :
  ∃ g c,v = .slice (some ⟨g,0,none⟩) l.length c/\l.length<=c/\c<=maxLen/\(∀ j,j<l.length->w.cell? ⟨g,j,none⟩=some (u8 (l.getD j 0)))/\w.frozen? ⟨g,i,none⟩=false/\∀ x,ah (w.setCell ⟨g,i,none⟩ (u8 x)) (bs T v (l.set i x)*F):=by
 rcases h.cH with ⟨_,o,_⟩|⟨g,d,n,rfl,f,h4,h5,k,a⟩
 .omega
 .refine ⟨g,d,rfl,f,h4,fun j b=>?_,a.frozen i,fun x=>?_⟩
  .rw [a.cell]
   have e:=congrArg (·[j]?) k;simp only [List.getElem?_take,Nat.mul_one,b,if_true,List.getElem?_map,Array.getElem?_toList] at e;rw [e,D7 b,D9,D7 b];rfl
  .have m:=a.setCell i (u8 x)
   have:=ah.nz (sz:=1) (n:=l.length) (cap:=d) m f h4 (by rw [Array.size_setIfInBounds];exact h5);refine this.to ?_;rw [bs,List.length_set];congr 2;rw [Array.toList_setIfInBounds,List.take_set,k,List.map_set]
end Go.SL
namespace Go.Proofs.Fs
open RowKit SL Proofs.Ba
variable {l:List UInt8} {e:Nat}
def ov {w:Z} {F:ai} (n:Nat) (a:n<=1000000) (h:ah w F):ah (w.alloc (.cells (dP (zs n)) 5 (0,0))) (bs 5 (.slice (some ⟨w.heap.size,0,none⟩) n n) (zs n)*F):=by
 have:=ah.nz (sz:=1) (n:=n) (cap:=n) (h.alloc (.cells (dP (zs n)) 5 (0,0))) (Nat.le_refl _) (by unfold maxLen;omega) (by simp [eX,aX]);rw [bs,aX];refine this.to ?_;congr 2;simp only [dP,Nat.mul_one,List.toList_toArray];rw [List.take_of_length_le (by simp [aX])]
def PM (w:Z):Calls Z' 160 #[] w (zQ (zs 480) w):=by
 have d:∀ w,(Instr.makeSlice 23 (.int .i64 480) (.int .i64 480)).run Z' w =
  .ok (.slice (some ⟨w.heap.size,0,none⟩) 480 480) (w.alloc (.cells (dP (zs 480)) 5 (0,0))):=fm 480 Om0
 have b:=ov 480 De0 (ah.whole w);have a:=(ak.refl w).alloc (.cells (dP (zs 480)) 5 (0,0));generalize zs 480=c at *
 go_in
 go_wp2
 go_ret
 exact ⟨_,rfl,b,a⟩
def uY (w:Z) (v:Value) (l:List UInt8) (b:Rd w v l) (a:l.length=480) (n:Nat) (d:n<3840) :
  Calls Z' 289 #[v,.int .i64 (n:Int)] w fun e c=>e = .returned (.bool Y')/\w=c:=by
 obtain ⟨g,h,rfl⟩:=b.shape;rw [a];have f:(n:Int)<3840:=Om0
 clear b a
 go_in
 go_wp2
 go_ret
 exact ⟨rfl,rfl⟩
def vS (b:Bool) (w:Z) (e:Ending) (a:Z):Prop:=e = .returned (.bool b)/\w=a
def Vo (w:Z) (v:Value) (l:List UInt8) (c:Rd w v l) (i:l.length=480) (n:Nat) (m:n<3840) :
  Calls Z' 257 #[v,.int .i64 (n:Int)] w (vS (eF l n) w):=by
 have h:=uY w v l c i n m;obtain ⟨z,A,rfl⟩:=c.shape;obtain ⟨g,o,rfl,f⟩:=c.at Om0;have k:=f (n/8) (l.getD (n/8) 0) (by rw [D9,D7 Om0];rfl);have p:(l.getD (n/8) 0).toNat<256:=D8 _;have a:=RN ⟨_,p⟩ ⟨n%8,B3 _ De0⟩;have d:eF l n=decide ((l.getD (n/8) 0).toNat/2 ^ (n%8)%2=1):=rfl;dsimp only at a;rw [<- d] at a;have j:=ae a;rw [i] at *;have s:((n:Int)).tdiv 8=((n/8:Nat):Int):=by rw [D5 Om0];omega
 have q:((n:Int)).tmod 8=((n%8:Nat):Int):=by rw [D4 Om0];omega
 unfold u8 at k;have t:((n/8:Nat):Int)<480:=Om0
 have r:((n%8:Nat):Int)<8:=Om0
 have u:0<=((l.getD (n/8) 0).toNat:Int):=Om0
 have y:((l.getD (n/8) 0).toNat:Int)<256:=Om0
 generalize ((l.getD (n/8) 0).toNat:Int)=x at *;generalize eF l n=b at *;clear a f c d
 go_in
 go_wp2_with fail
 (with_reducible apply h.mono)
 rintro e B ⟨rfl,rfl⟩;clear h
 go_wp2
 go_ret
 exact ⟨by show Ending.returned (.bool (bits .and .u8 (x/2 ^ (n%8)) 1 == 1))=_;rw [j.o],rfl⟩
def vR (v:Value) (l:List UInt8) (n:Nat) (t:Bool) (F:ai) (w:Z) (e:Ending) (a:Z):Prop:=
 e = .returned (.bool (eF l n != t))/\ah a (bs 5 v (ez l n t)*F)/\ak w a
def uV (w:Z) (v:Value) (l:List UInt8) (F:ai) (h:ah w (bs 5 v l*F)) (k:l.length=480) (n:Nat) (u:n<3840) (t:Bool) :
  Calls Z' 226 #[v,.int .i64 (n:Int),.bool t] w (vR v l n t F w):=by
 have d:=uY w v l h.ny k n u;have f:=Vo w v l h.ny k n u;obtain ⟨g,c,rfl,I,J,r,K,z⟩:=NL h (i:=n/8) Om0;have G:=r (n/8) Om0;have C:(l.getD (n/8) 0).toNat<256:=D8 _;have D:=R8 ⟨_,C⟩ ⟨n%8,B3 _ De0⟩;dsimp only at D;have i:=z (A1 (lj (l.getD (n/8) 0).toNat (n%8)));have s:l.set (n/8) (A1 (lj (l.getD (n/8) 0).toNat (n%8)))=pd l n:=rfl;rw [s] at i
 have B:u8 (A1 (lj (l.getD (n/8) 0).toNat (n%8))) = .int .u8 (lj (l.getD (n/8) 0).toNat (n%8):Int):=by
  unfold u8;rw [D6 (Im C (B3 _ De0))]
 rw [B] at i;have o:=ae i;rw [k] at *;have N:((n:Int)).tdiv 8=((n/8:Nat):Int):=by rw [D5 Om0];omega
 have L:((n:Int)).tmod 8=((n%8:Nat):Int):=by rw [D4 Om0];omega
 unfold u8 at G;have O:((n/8:Nat):Int)<480:=Om0
 have M:((n%8:Nat):Int)<8:=Om0
 have P:0<=((l.getD (n/8) 0).toNat:Int):=Om0
 have Q:((l.getD (n/8) 0).toNat:Int)<256:=Om0
 have E:=ae h;obtain ⟨y,hy⟩:∃ y:Int,y=(lj (l.getD (n/8) 0).toNat (n%8):Int):=⟨_,rfl⟩
 rw [<- hy] at D o;generalize ((l.getD (n/8) 0).toNat:Int)=x at *;have A:(eF l n=t->ez l n t=l)/\(eF l n≠t->ez l n t=pd l n):=⟨fun h=>if_pos h,fun h=>if_neg h⟩
 have p:=ae A;generalize q:eF l n=b at *;clear z i r h s B hy A
 by_cases a:b=t
 .subst a
  have e:=p.o.1 rfl;have j:=ae e;clear e
  go_in
  go_wp2_with fail
  (with_reducible apply d.mono)
  rintro e m ⟨rfl,rfl⟩;clear d
  go_wp2_with fail
  (with_reducible apply f.mono)
  rintro e m ⟨rfl,rfl⟩;clear f
  go_wp2
  go_ret
  refine ⟨?_,?_,ak.refl w⟩
  .rw [q];simp
  .rw [j.o];exact E.o
 .have e:=p.o.2 a
  have j:=ae e;have H:(b == t)=false:=by simpa using a
  clear e
  go_in
  go_wp2_with fail
  (with_reducible apply d.mono)
  rintro e m ⟨rfl,rfl⟩;clear d
  go_wp2_with fail
  (with_reducible apply f.mono)
  rintro e m ⟨rfl,rfl⟩;clear f
  go_wp2_with fail
  go_region
  all_goals
   go_wp2
   go_ret
   refine ⟨?_,?_,((ak.refl w).drew).setCell _ _⟩
   .rw [q]
    have:(b != t)=Y':=by simpa using a
    rw [this];rfl
   .rw [j.o];exact o.o
def Pe (v:Value) (l:List UInt8) (e:Nat) (F:ai) (w:Z) (u9:Value) (wr:Z):Prop:=
 ∃ k:Nat,k<=e/\u9 = .int .i64 (k:Int)/\(∀ j,j<k->eF l j=Y')/\ah wr (bs 5 v l*F)/\ak w wr
def BD {e n:Nat} (d:n<e) (a:eF l n=false) (b:∀ j,j<n->eF l j=Y'):fp l e=some n:=by
 unfold fp;rw [List.find?_eq_some_iff_getElem];refine ⟨by simp [a],n,by simpa using d,Si0,fun j c=>?_⟩;simp [b j c]
def Dy (a:∀ j,j<e->eF l j=Y'):fp l e=none:=by
 unfold fp;rw [List.find?_eq_none];intro x b;simp [a x (List.mem_range.1 b)]
def Og (w:Z) (v:Value) (l:List UInt8) (F:ai) (h:ah w (bs 5 v l*F)) (y:l.length=480) (e:Nat) (M:e<=3840) (Q:Ending->Z->Prop)
  (q:fp l e=none->∀ c,ah c (bs 5 v l*F)->ak w c->Q (.returned (.tuple #[.int .i64 0,.bool false])) c)
  (s:∀ n,fp l e=some n->∀ c,ah c (bs 5 v (ez l n Y')*F)->ak w c->Q (.returned (.tuple #[.int .i64 (n:Int),.bool Y'])) c) :
  Calls Z' 258 #[v,.int .i64 (e:Int)] w Q:=by
 have N:(e:Int)<=3840:=Om0
 have A:=ae q;have B:=ae s;obtain ⟨G,H,rfl⟩:=az h;rw [y] at h ⊢;have r:=q;have t:=s;rw [y] at r t;have A:=ae r;have B:=ae t;clear q s r t
 go_in
 go_wp2_with fail
 go_loopw [9] (fun u wr=>Pe (.slice G 480 H) l e F w u wr) (fun u _=>e-(intOf u).toNat)
 case atStart=>exact ⟨0,Nat.zero_le _,rfl,fun j x=>absurd x (Nat.not_lt_zero _),h,ak.refl w⟩
 case round=>
  clear h;obtain ⟨k,O,rfl,d,g,z⟩:=hrel
  by_cases K:k<e
  .have P:(k:Int)<(e:Int):=Om0
   have a:=uV wr (.slice G 480 H) l F g y k Om0 Y'
   cases b:eF l k with
   | true=>
    have f:(eF l k != Y')=false:=by rw [b];rfl
    have E:ez l k Y'=l:=if_pos b
    have D:∀ j,j<k+1->eF l j=Y':=fun j x=>by
     rcases Nat.lt_or_eq_of_le (Nat.le_of_lt_succ x) with p|p
     .exact d j p
     .rw [p];exact b
    unfold vR at a;rw [f,E] at a;have I:=ae D;clear b f E d D g
    go_wp2_with fail
    (with_reducible apply a.mono)
    rintro J L ⟨rfl,o,m⟩;clear a
    go_wp2_with fail
    go_roundw
    case rel=>exact ⟨k+1,Om0,by go_num,I.o,o,z.trans m⟩
    case measure=>simp [intOf];omega
   | false=>
    have f:(eF l k != Y')=Y':=by rw [b];rfl
    have C:=BD K b d;have i:=ae (B.o k C);unfold vR at a;rw [f] at a;clear b f d g C
    go_wp2_with fail
    (with_reducible apply a.mono)
    rintro J L ⟨rfl,o,m⟩;clear a
    exact Zz (i.o _ o (z.trans m))
  .obtain rfl:k=e:=Om0
   have i:=ae (A.o (Dy d));clear d
   exact Zz (i.o _ g z)
end Go.Proofs.Fs
namespace Go.Proofs.Fs
open RowKit SL Proofs.Ba
attribute [local go_sem] Oper.semAt_some
variable {P:Program} {f:FuncId} {args:Array Value} {w:Z} {R R':Ending->Z->Prop} {n:Nat}
def mh {n m:Nat} (h:Calls P f args w R) (a:∀ e w,R e w->R' e w) :
  Fence.wide.fn f/\(Fence.wide.depth.isSome=Y'->1<=m)/\CallsIn Fence.wide n P f args w R':=⟨trivial,fun h=>(by cases h),(callsIn_wide.2 h).mono a⟩
def lq (h:Calls P f args w R) (a:∀ e w,R e w->R' e w) :
  Fence.wide.fn f/\CallsIn Fence.wide n P f args w R':=⟨trivial,(callsIn_wide.2 h).mono a⟩
end Go.Proofs.Fs

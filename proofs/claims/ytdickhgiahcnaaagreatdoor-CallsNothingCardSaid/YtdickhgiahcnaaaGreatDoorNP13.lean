/- Steps. -/
import Derived.Test.YtdickhgiahcnaaaGreatDoorNP5
import Derived.Test.YtdickhgiahcnaaaGreatDoorNP8
import Derived.Deep.DeepCutAuto
import Derived.BigQuiet
import Derived.Deep.QuietTactic
import Derived.Deep.CutBlock
import Derived.Deep.CutRange
import Derived.TacticsInMore
import Derived.LoopNIn
import Derived.LoopIn
set_option linter.all false
set_option maxRecDepth 99999
set_option maxHeartbeats 0
open Go.SL
open Go.Value renaming int->Z,slice->X,pointer->V'
open Go.IntKind renaming i64->W
open Go.Obj renaming cells->Y
open Go.Ending renaming returned->Z'
open Go renaming World->V,Value->S
open Go.Proofs.Tryz renaming prog->U
open Option renaming some->X',none->Y'
open Bool renaming true->W'
open Go.Proofs.Tryz
open UInt8 renaming ofNat->A3,toNat_lt->B3,toNat_ofNat_of_lt'->B1
open Nat renaming mod_lt->A2
open List renaming getD->A1,getElem?_eq_getElem->B2,append_toArray->D5
open Int renaming tdiv_eq_ediv_of_nonneg->D9,tmod_eq_emod_of_nonneg->D8
open Array renaming replicate_succ->D7,replicate_zero->D6
namespace Go.SL
open RowKit
variable {k n x:Nat} {l:List UInt8}
def kZ (x k:Nat):Nat:=if x/2 ^ k%2=1 then x-2 ^ k else x+2 ^ k
def dY (l:List UInt8) (n:Nat):Bool:=decide ((l.getD (n/8) 0).toNat/2 ^ (n%8)%2=1)
def oC (l:List UInt8) (n:Nat):List UInt8:=l.set (n/8) (A3 (kZ (l.getD (n/8) 0).toNat (n%8)))
def dZ (l:List UInt8) (n:Nat) (t:Bool):List UInt8:=if dY l n=t then l else oC l n
def wK (l:List UInt8) (n:Nat):(oC l n).length=l.length:=List.length_set
def fu (l:List UInt8) (n:Nat) (t:Bool):(dZ l n t).length=l.length:=by unfold dZ;split;rfl;exact wK _ _
def Bp:∀ x:Fin 256,∀ k:Fin 8,kZ x k<256/\∀ j:Fin 8,(kZ x k/2 ^ j.val%2=1↔if j=k then ¬ x.val/2 ^ k.val%2=1 else x.val/2 ^ j.val%2=1):=by decide +kernel
def Gf (b:x<256) (a:k<8):kZ x k<256:=(Bp ⟨x,b⟩ ⟨k,a⟩).1
def Nc (c:x<256) (b:k<8) (a:n<8):(kZ x k/2 ^ n%2=1)↔if n=k then ¬ x/2 ^ k%2=1 else x/2 ^ n%2=1:=by
 have:=(Bp ⟨x,c⟩ ⟨k,b⟩).2 ⟨n,a⟩;simpa using this
def DQ (f:n/8<l.length) (m:Nat):dY (oC l n) m=if m=n then !dY l n else dY l m:=by
 have d:(l.getD (n/8) 0).toNat<256:=B3 _;unfold dY oC
 by_cases b:m/8=n/8
 .have e:(l.set (n/8) (A3 (kZ (l.getD (n/8) 0).toNat (n%8)))).getD (m/8) 0=A3 (kZ (l.getD (n/8) 0).toNat (n%8)):=by
   rw [b];simp [A1,List.getElem?_set,f]
  rw [e,B1 (Gf d (A2 _ De0))];have a:=Nc d (A2 n (by decide:8 > 0)) (A2 m (by decide:8 > 0));rw [b]
  by_cases c:m=n
  .subst c
   rw [if_pos rfl] at a ⊢;rw [Bool.eq_iff_iff];simp only [decide_eq_true_eq,Bool.not_eq_true',decide_eq_false_iff_not];exact a
  .rw [if_neg Om0] at a
   rw [if_neg c];exact decide_eq_decide.2 a
 .have e:(l.set (n/8) (A3 (kZ (l.getD (n/8) 0).toNat (n%8)))).getD (m/8) 0=l.getD (m/8) 0:=by
   simp [A1,List.getElem?_set,Ne.symm b]
  rw [e,if_neg (by intro h;exact b (by rw [h]))]
def yr (b:n/8<l.length) (t:Bool) (m:Nat):dY (dZ l n t) m=if m=n then t else dY l m:=by
 unfold dZ
 split
 .rename_i h
  split
  .rename_i a;rw [a];exact h
  .rfl
 .rename_i h
  rw [DQ b]
  split
  .cases c:dY l n <;> cases t <;> simp_all
  .rfl
def fw (l:List UInt8) (e:Nat):Option Nat:=(List.range e).find? fun n => !dY l n
def Qr:∀ x:Fin 256,∀ k:Fin 8,(bits .and .u8 ((x.val:Int)/2 ^ k.val) 1 == 1)=decide (x.val/2 ^ k.val%2=1):=by decide +kernel
def Qf:∀ x:Fin 256,∀ k:Fin 8,bits .xor .u8 (x.val:Int) (2 ^ k.val%256)=(kZ x.val k.val:Int):=by decide +kernel
theorem M8 {w:World} {T:TypeId} {v:Value} {l:List UInt8} {F:ai} (h:ag w (bs T v l*F)) {i:Nat} (hi:i<l.length) :
  ∃ g c,v = .slice (some ⟨g,0,none⟩) l.length c/\l.length<=c/\c<=maxLen/\(∀ j,j<l.length->w.cell? ⟨g,j,none⟩=some (u8 (l.getD j 0)))/\w.frozen? ⟨g,i,none⟩=false/\∀ x,ag (w.setCell ⟨g,i,none⟩ (u8 x)) (bs T v (l.set i x)*F):=by
 rcases h.dq with ⟨_,h0,_⟩|⟨g,cap,cur,rfl,h3,h4,h5,h6,h7⟩
 .omega
 .refine ⟨g,cap,rfl,h3,h4,fun j hj=>?_,h7.frozen i,fun x=>?_⟩
  .rw [h7.cell]
   have e:=congrArg (·[j]?) h6;simp only [List.getElem?_take,Nat.mul_one,hj,if_true,List.getElem?_map,Array.getElem?_toList] at e;rw [e,B2 hj,A1,B2 hj];rfl
  .have h8:=h7.setCell i (u8 x)
   have:=ag.nM (sz:=1) (n:=l.length) (cap:=cap) h8 h3 h4 (by rw [Array.size_setIfInBounds];exact h5);refine this.to ?_;rw [bs,List.length_set];congr 2;rw [Array.toList_setIfInBounds,List.take_set,h6,List.map_set]
end Go.SL
namespace Go.Proofs.Fs
open RowKit SL Proofs.Ba
variable {l:List UInt8} {e:Nat}
def oR {w:V} {F:ai} (n:Nat) (a:n<=1000000) (h:ag w F):ag (w.alloc (Y (ed (zs n)) 5 (0,0))) (bs 5 (X (X' ⟨w.heap.size,0,Y'⟩) n n) (zs n)*F):=by
 have:=ag.nM (sz:=1) (n:=n) (cap:=n) (h.alloc (Y (ed (zs n)) 5 (0,0))) (Nat.le_refl _) (by unfold maxLen;omega) (by simp [fj,bg]);rw [bs,bg];refine this.to ?_;congr 2;simp only [ed,Nat.mul_one,List.toList_toArray];rw [List.take_of_length_le (by simp [bg])]
def KK (w:V):Calls U 119 #[] w (zg (zs 480) w):=by
 have d:∀ w,(Instr.makeSlice 23 (Z W 480) (Z W 480)).run U w =
  .ok (X (X' ⟨w.heap.size,0,Y'⟩) 480 480) (w.alloc (Y (ed (zs 480)) 5 (0,0))):=fq 480 Om0
 have b:=oR 480 De0 (ag.whole w);have a:=(aj.refl w).alloc (Y (ed (zs 480)) 5 (0,0));generalize zs 480=c at *
 go_in
 go_wp2
 go_ret
 exact ⟨_,rfl,b,a⟩
def wI (w:V) (v:S) (l:List UInt8) (b:Rd w v l) (a:l.length=480) (n:Nat) (d:n<3840) :
  Calls U 215 #[v,Z W (n:Int)] w fun e c=>e = Z' (.bool W')/\w=c:=by
 obtain ⟨g,h,rfl⟩:=b.shape;rw [a];have f:(n:Int)<3840:=Om0
 clear b a
 go_in
 go_wp2
 go_ret
 exact ⟨rfl,rfl⟩
def vM (b:Bool) (w:V) (e:Ending) (a:V):Prop:=e = Z' (.bool b)/\w=a
def Ol (w:V) (v:S) (l:List UInt8) (c:Rd w v l) (i:l.length=480) (n:Nat) (m:n<3840) :
  Calls U 198 #[v,Z W (n:Int)] w (vM (dY l n) w):=by
 have h:=wI w v l c i n m;obtain ⟨z,A,rfl⟩:=c.shape;obtain ⟨g,o,rfl,f⟩:=c.at Om0;have k:=f (n/8) (l.getD (n/8) 0) (by rw [A1,B2 Om0];rfl);have p:(l.getD (n/8) 0).toNat<256:=B3 _;have a:=Qr ⟨_,p⟩ ⟨n%8,A2 _ De0⟩;have d:dY l n=decide ((l.getD (n/8) 0).toNat/2 ^ (n%8)%2=1):=rfl;dsimp only at a;rw [<- d] at a;have j:=ae a;rw [i] at *;have s:((n:Int)).tdiv 8=((n/8:Nat):Int):=by rw [D9 Om0];omega
 have q:((n:Int)).tmod 8=((n%8:Nat):Int):=by rw [D8 Om0];omega
 unfold u8 at k;have t:((n/8:Nat):Int)<480:=Om0
 have r:((n%8:Nat):Int)<8:=Om0
 have u:0<=((l.getD (n/8) 0).toNat:Int):=Om0
 have y:((l.getD (n/8) 0).toNat:Int)<256:=Om0
 generalize ((l.getD (n/8) 0).toNat:Int)=x at *;generalize dY l n=b at *;clear a f c d
 go_in
 go_wp2_with fail
 (with_reducible apply h.mono)
 rintro e B ⟨rfl,rfl⟩;clear h
 go_wp2
 go_ret
 exact ⟨by show Ending.returned (.bool (bits .and .u8 (x/2 ^ (n%8)) 1 == 1))=_;rw [j.o],rfl⟩
def wL (v:S) (l:List UInt8) (n:Nat) (t:Bool) (F:ai) (w:V) (e:Ending) (a:V):Prop:=
 e = Z' (.bool (dY l n != t))/\ag a (bs 5 v (dZ l n t)*F)/\aj w a
def uu (w:V) (v:S) (l:List UInt8) (F:ai) (h:ag w (bs 5 v l*F)) (k:l.length=480) (n:Nat) (u:n<3840) (t:Bool) :
  Calls U 162 #[v,Z W (n:Int),.bool t] w (wL v l n t F w):=by
 have d:=wI w v l h.oa k n u;have f:=Ol w v l h.oa k n u;obtain ⟨g,c,rfl,I,J,r,K,z⟩:=M8 h (i:=n/8) Om0;have G:=r (n/8) Om0;have C:(l.getD (n/8) 0).toNat<256:=B3 _;have D:=Qf ⟨_,C⟩ ⟨n%8,A2 _ De0⟩;dsimp only at D;have i:=z (A3 (kZ (l.getD (n/8) 0).toNat (n%8)));have s:l.set (n/8) (A3 (kZ (l.getD (n/8) 0).toNat (n%8)))=oC l n:=rfl;rw [s] at i
 have B:u8 (A3 (kZ (l.getD (n/8) 0).toNat (n%8))) = Z .u8 (kZ (l.getD (n/8) 0).toNat (n%8):Int):=by
  unfold u8;rw [B1 (Gf C (A2 _ De0))]
 rw [B] at i;have o:=ae i;rw [k] at *;have N:((n:Int)).tdiv 8=((n/8:Nat):Int):=by rw [D9 Om0];omega
 have L:((n:Int)).tmod 8=((n%8:Nat):Int):=by rw [D8 Om0];omega
 unfold u8 at G;have O:((n/8:Nat):Int)<480:=Om0
 have M:((n%8:Nat):Int)<8:=Om0
 have P:0<=((l.getD (n/8) 0).toNat:Int):=Om0
 have Q:((l.getD (n/8) 0).toNat:Int)<256:=Om0
 have E:=ae h;obtain ⟨y,hy⟩:∃ y:Int,y=(kZ (l.getD (n/8) 0).toNat (n%8):Int):=⟨_,rfl⟩
 rw [<- hy] at D o;generalize ((l.getD (n/8) 0).toNat:Int)=x at *;have A:(dY l n=t->dZ l n t=l)/\(dY l n≠t->dZ l n t=oC l n):=⟨fun h=>if_pos h,fun h=>if_neg h⟩
 have p:=ae A;generalize q:dY l n=b at *;clear z i r h s B hy A
 by_cases a:b=t
 .subst a
  have e:=p.o.1 rfl;have j:=ae e;clear e
  go_in
  go_wp2_with fail
  (with_reducible apply d.mono)
  rintro e m ⟨rfl,rfl⟩;clear d
  go_wp2_with fail
  (with_reducible apply f.mono)
  rintro e m ⟨rfl,rfl⟩;clear f
  go_wp2
  go_ret
  refine ⟨?_,?_,aj.refl w⟩
  .rw [q];simp
  .rw [j.o];exact E.o
 .have e:=p.o.2 a
  have j:=ae e;have H:(b == t)=false:=by simpa using a
  clear e
  go_in
  go_wp2_with fail
  (with_reducible apply d.mono)
  rintro e m ⟨rfl,rfl⟩;clear d
  go_wp2_with fail
  (with_reducible apply f.mono)
  rintro e m ⟨rfl,rfl⟩;clear f
  go_wp2_with fail
  go_region
  all_goals
   go_wp2
   go_ret
   refine ⟨?_,?_,((aj.refl w).drew).setCell _ _⟩
   .rw [q]
    have:(b != t)=W':=by simpa using a
    rw [this];rfl
   .rw [j.o];exact o.o
def NX (v:S) (l:List UInt8) (e:Nat) (F:ai) (w:V) (u9:S) (wr:V):Prop:=
 ∃ k:Nat,k<=e/\u9 = Z W (k:Int)/\(∀ j,j<k->dY l j=W')/\ag wr (bs 5 v l*F)/\aj w wr
def Cp {e n:Nat} (d:n<e) (a:dY l n=false) (b:∀ j,j<n->dY l j=W'):fw l e=X' n:=by
 unfold fw;rw [List.find?_eq_some_iff_getElem];refine ⟨by simp [a],n,by simpa using d,Si0,fun j c=>?_⟩;simp [b j c]
def CC (a:∀ j,j<e->dY l j=W'):fw l e=Y':=by
 unfold fw;rw [List.find?_eq_none];intro x b;simp [a x (List.mem_range.1 b)]
def KC (w:V) (v:S) (l:List UInt8) (F:ai) (h:ag w (bs 5 v l*F)) (y:l.length=480) (e:Nat) (M:e<=3840) (Q:Ending->V->Prop)
  (q:fw l e=Y'->∀ c,ag c (bs 5 v l*F)->aj w c->Q (Z' (.tuple #[Z W 0,.bool false])) c)
  (s:∀ n,fw l e=X' n->∀ c,ag c (bs 5 v (dZ l n W')*F)->aj w c->Q (Z' (.tuple #[Z W (n:Int),.bool W'])) c) :
  Calls U 199 #[v,Z W (e:Int)] w Q:=by
 have N:(e:Int)<=3840:=Om0
 have A:=ae q;have B:=ae s;obtain ⟨G,H,rfl⟩:=aC h;rw [y] at h ⊢;have r:=q;have t:=s;rw [y] at r t;have A:=ae r;have B:=ae t;clear q s r t
 go_in
 go_wp2_with fail
 go_loopw [9] (fun u wr=>NX (X G 480 H) l e F w u wr) (fun u _=>e-(intOf u).toNat)
 case atStart=>exact ⟨0,Nat.zero_le _,rfl,fun j x=>absurd x (Nat.not_lt_zero _),h,aj.refl w⟩
 case round=>
  clear h;obtain ⟨k,O,rfl,d,g,z⟩:=hrel
  by_cases K:k<e
  .have P:(k:Int)<(e:Int):=Om0
   have a:=uu wr (X G 480 H) l F g y k Om0 W'
   cases b:dY l k with
   | true=>
    have f:(dY l k != W')=false:=by rw [b];rfl
    have E:dZ l k W'=l:=if_pos b
    have D:∀ j,j<k+1->dY l j=W':=fun j x=>by
     rcases Nat.lt_or_eq_of_le (Nat.le_of_lt_succ x) with p|p
     .exact d j p
     .rw [p];exact b
    unfold wL at a;rw [f,E] at a;have I:=ae D;clear b f E d D g
    go_wp2_with fail
    (with_reducible apply a.mono)
    rintro J L ⟨rfl,o,m⟩;clear a
    go_wp2_with fail
    go_roundw
    case rel=>exact ⟨k+1,Om0,by go_num,I.o,o,z.trans m⟩
    case measure=>simp [intOf];omega
   | false=>
    have f:(dY l k != W')=W':=by rw [b];rfl
    have C:=Cp K b d;have i:=ae (B.o k C);unfold wL at a;rw [f] at a;clear b f d g C
    go_wp2_with fail
    (with_reducible apply a.mono)
    rintro J L ⟨rfl,o,m⟩;clear a
    exact Zz (i.o _ o (z.trans m))
  .obtain rfl:k=e:=Om0
   have i:=ae (A.o (CC d));clear d
   exact Zz (i.o _ g z)
end Go.Proofs.Fs
namespace Go.SL
open RowKit
def dp (l:List UInt8) (e:Nat):List Nat:=(List.range e).filter (dY l)
def nI (l:List UInt8) (e:Nat):dp l (e+1)=if dY l e=W' then dp l e++[e] else dp l e:=by
 unfold dp;rw [List.range_succ,List.filter_append]
 split
 .rename_i h;rw [List.filter_cons_of_pos h];rfl
 .rename_i h;rw [List.filter_cons_of_neg h];simp
def xq (l:List UInt8) {k e:Nat} (h:k<=e):dp l k <+: dp l e:=by
 obtain ⟨d,rfl⟩:=Nat.exists_eq_add_of_le h
 induction d with
 | zero=>exact List.prefix_refl _
 | succ d a=>
  refine (a Om0).trans ?_;rw [show k+(d+1)=(k+d)+1 by omega,nI]
  split
  .exact List.prefix_append _ _
  .exact List.prefix_refl _
def pR (l:List UInt8) (e:Nat):(dp l e).length<=e:=by
 have:=List.length_filter_le (dY l) (List.range e);simpa [dp] using this
end Go.SL
namespace Go.Proofs.Fs
open RowKit SL Proofs.Ba
attribute [local go_sem] Oper.semAt_some
variable {P:Program} {f:FuncId} {args:Array S} {w:V} {R R':Ending->V->Prop} {n:Nat}
def kq {n m:Nat} (h:Calls P f args w R) (a:∀ e w,R e w->R' e w) :
  Fence.wide.fn f/\(Fence.wide.depth.isSome=W'->1<=m)/\CallsIn Fence.wide n P f args w R':=⟨trivial,fun h=>(by cases h),(callsIn_wide.2 h).mono a⟩
def nk (h:Calls P f args w R) (a:∀ e w,R e w->R' e w) :
  Fence.wide.fn f/\CallsIn Fence.wide n P f args w R':=⟨trivial,(callsIn_wide.2 h).mono a⟩
def Md (x:Nat) (a:Array S):ai:=fact (a=#[Z W (x:Int)])
def kE (ex a:Nat) (v:S) (l:List UInt8) (e:Nat):ai:=
 pt a (Y #[v] 23 (0,0))*(pt ex (Y #[Z W (e:Int)] 3 (0,0))*bs 5 v l)
def zk (A:List Nat->ai) (l:List UInt8) (e:Nat) (a:ai) (w0:V) (u:S) (wr:V):Prop:=
 ∃ k:Nat,k<=e/\u = Z W (k:Int)/\aj w0 wr/\ag wr (A (dp l k)*a)
def GV (n:Nat) (ex c:Nat) (a:Option Addr) (b:Nat) (l:List UInt8) (e:Nat) (J:l.length=480) (Q:e<=3840) :
  fF Fence.wide n U 197 #[V' (X' ⟨ex,0,Y'⟩),V' (X' ⟨c,0,Y'⟩)] (kE ex c (X a 480 b) l e) Md (fun z=>z=dp l e) (fun z=>z <+: dp l e):=by
 intro lp A N G w0 w I L s;have R:(e:Int)<=3840:=Om0
 have F:ag w (pt ex (Y #[Z W (e:Int)] 3 (0,0))*(A []*(pt c (Y #[X a 480 b] 23 (0,0))*(bs 5 (X a 480 b) l*G)))):=s.to (by unfold kE;ac_rfl);have D:w.cell? ⟨ex,0,Y'⟩=X' (Z W (e:Int)):=F.cell 0;refine callsIn_of_wp func197 rfl trivial ?_ rfl;simp only [ntmps197,List.size_toArray,List.length_cons,List.length_nil,Nat.reduceAdd,Nat.reduceSub,D7,D6,List.push_toArray,D5,List.nil_append,List.cons_append]
 gi_wp2
 gi_loopw [7] (fun u wr=>zk A l e (kE ex c (X a 480 b) l e*G) w0 u wr) (fun u _=>e-(intOf u).toNat)
 case atStart=>exact ⟨0,Nat.zero_le _,rfl,L,s⟩
 case round=>
  clear s D;obtain ⟨k,T,rfl,y,d⟩:=hrel
  by_cases K:k<e
  .have b0:(k:Int)<(e:Int):=Om0
   have o:ag wr (pt c (Y #[X a 480 b] 23 (0,0))*(bs 5 (X a 480 b) l*(A (dp l k)*(pt ex (Y #[Z W (e:Int)] 3 (0,0))*G)))):=d.to (by unfold kE;ac_rfl);have O:wr.cell? ⟨c,0,Y'⟩=X' (X a 480 b):=o.cell 0;have g:=Ol wr (X a 480 b) l o.ah.oa J k Om0;have i:=nI l k
   cases p:dY l k with
   | false=>
    rw [p] at g i;have j:dp l (k+1)=dp l k:=i;have r:=ae j;have q:=ae d;clear p i j d o
    gi_wp2_with fail
    refine kq g ?_;rintro E M ⟨rfl,rfl⟩;clear g
    gi_wp2
    refine ⟨fun f h=>(by cases h),?_⟩
    gi_wp2
    go_roundw
    gi_wp2
    have m:zk A l e (kE ex c (X a 480 b) l e*G) w0 (Z W ((k:Int)+1)) wr:=⟨k+1,Om0,by go_num,y,by rw [r.o];exact q.o⟩
    all_goals first|exact m|exact ⟨m,by simp [intOf];omega⟩|(simp [intOf];omega)
   | true=>
    rw [p] at g i;have j:dp l (k+1)=dp l k++[k]:=i;have t:dp l k++[k] <+: dp l e:=by rw [<- j];exact xq l K
    obtain ⟨P,c0,assign,body,hy,H⟩:=I _ k #[Z W (k:Int)] (kE ex c (X a 480 b) l e*G) wr t y (ag.ah (X1:=Md k #[Z W (k:Int)]) (ag.aq.2 ⟨rfl,d⟩));have r:=ae j;have B:=ae t;clear p i j d o t
    gi_wp2_with fail
    refine kq g ?_;rintro E M ⟨rfl,rfl⟩;clear g
    gi_wp2
    refine ⟨fun h=>(by cases h),H.mono ?_⟩;rintro e C (⟨rfl,v,x⟩|⟨rfl,v,x⟩)
    .gi_wp2
     have m:zk A l e (kE ex c (X a 480 b) l e*G) w0 (Z W ((k:Int)+1)) C:=⟨k+1,Om0,by go_num,v,by rw [r.o];exact x⟩
     all_goals first|exact m|exact ⟨m,by simp [intOf];omega⟩|(simp [intOf];omega)
    .gi_wp2
     refine bodyPost_ret (results_none rfl _ _ _) rfl ?_;exact ⟨⟨_,rfl⟩,v,.inr ⟨_,B.o,x⟩⟩
  .obtain rfl:k=e:=Om0
   have q:=ae d;clear d
   gi_wp2
   go_end0
   exact ⟨⟨_,rfl⟩,y,.inl ⟨_,rfl,q.o⟩⟩
def Tn (b:S) (e:Nat) (w:V) (a:Ending) (c:V):Prop:=
 a = Z' (.func (.func 197) #[] #[V' (X' ⟨w.heap.size+1,0,Y'⟩),V' (X' ⟨w.heap.size,0,Y'⟩)]) /\
  c=(w.alloc (Y #[b] 23 (0,0))).alloc (Y #[Z W (e:Int)] 3 (0,0))
def wM (w:V) (a:Option Addr) (k c e:Nat) :
  Calls U 148 #[X a k c,Z W (e:Int)] w (Tn (X a k c) e w):=by
 go_in
 go_wp2
 go_ret
 exact ⟨rfl,rfl⟩
def n8 (a:Nat) (b:List Nat):ai:=pt a (Y #[Z W (b.length:Int)] 3 (0,0))
def Tt (k:Nat) (v:S) (l:List UInt8) (F:ai) (w:V) (e:Ending) (a:V):Prop:=
 e = Z' (Z W (k:Int))/\ag a (bs 5 v l*F)/\aj w a
def VM (x:Nat) (t:Array S):Array S:=t.setIfInBounds 9 (Z W (x:Int))
def Ic (w:V) (v:S) (l:List UInt8) (F:ai) (h:ag w (bs 5 v l*F)) (y:l.length=480) (e:Nat) (L:e<=3840) :
  Calls U 86 #[v,Z W (e:Int)] w (Tt (dp l e).length v l F w):=by
 obtain ⟨c,d,rfl⟩:=aC h;rw [y] at h ⊢;have P:(e:Int)<=3840:=Om0
 refine (callsIn_wide (n:=9)).1 ?_;refine callsIn_of_wp_marks func86 rfl trivial ?_ rfl;simp only [ntmps86,List.size_toArray,List.length_cons,List.length_nil,Nat.reduceAdd,Nat.reduceSub,D7,D6,List.push_toArray,D5,List.nil_append,List.cons_append];have p:=h.alloc (Y #[Z W 0] 3 (0,0));have s:=(aj.refl w).alloc (Y #[Z W 0] 3 (0,0));clear h
 gi_wp2_with fail
 generalize w.alloc (Y #[Z W 0] 3 (0,0))=a at p s ⊢;refine nk (wM a c 480 d e) ?_;rintro O w2 ⟨rfl,rfl⟩;have k:=(p.alloc (Y #[X c 480 d] 23 (0,0))).alloc (Y #[Z W (e:Int)] 3 (0,0));have m:=(s.alloc (Y #[X c 480 d] 23 (0,0))).alloc (Y #[Z W (e:Int)] 3 (0,0));have C:(a.alloc (Y #[X c 480 d] 23 (0,0))).heap.size=a.heap.size+1:=Array.size_push ..;rw [C] at k;clear p s C
 gi_wp2_with fail
 generalize (a.alloc (Y #[X c 480 d] 23 (0,0))).alloc (Y #[Z W (e:Int)] 3 (0,0))=N at k m ⊢;have o:ag N (n8 w.heap.size []*(kE (a.heap.size+1) a.heap.size (X c 480 d) l e*F)):=k.to (by unfold kE n8;ac_rfl);clear k
 refine qP (w0:=w) rfl De0 (gf:=197) (lb:=#[V' (X' ⟨a.heap.size+1,0,Y'⟩),V' (X' ⟨a.heap.size,0,Y'⟩)]) rfl trivial (enters func197 Kr0 rfl)
  (GV _ (a.heap.size+1) a.heap.size c d l e y L) VM (n8 w.heap.size) (fun b x=>n8 w.heap.size b) _ ?hps m o ?assign ?body ?done
 case hps=>
  intro x D j g h;unfold Md at h;obtain ⟨rfl,_⟩:=ag.aq.1 h
  rfl
 case assign=>
  intro t r b x D j g K _ f H q;have n:ag g (Md x D*(n8 w.heap.size b*(pt t (.loop r)*j))):=H.ah;unfold Md at n;obtain ⟨rfl,i⟩:=ag.aq.1 n;clear H n
  gi_wp2
  exact q _ f i
 case body=>
  intro t r b x j g z f H
  have M:b.length+1<=3840:=by
   have:=z.length_le;have:=pR l e;simp at *;omega
  have c0:(b.length:Int)+1<=3840:=Om0
  have b0:0<=(b.length:Int):=Om0
  have Q:g.cell? ⟨w.heap.size,0,Y'⟩=X' (Z W (b.length:Int)):=H.cell 0;have T:g.frozen? ⟨w.heap.size,0,Y'⟩=false:=H.frozen 0;have A:=H.setCell 0 (Z W ((b.length:Int)+1))
  have B:ag (g.setCell ⟨w.heap.size,0,Y'⟩ (Z W ((b.length:Int)+1))) (n8 w.heap.size (b++[x])*(pt t (.loop r)*j)):=by
   unfold n8;rw [List.length_append,List.length_singleton,Int.natCast_add];exact A
  have I:=ae B;have Hd:=ae f;clear A B H z f M o m;generalize (b.length:Int)=d0 at *;simp only [VM,List.setIfInBounds_toArray,List.set_cons_succ,List.set_cons_zero]
  gi_wp2
  exact ⟨Hd.o.setCell _ _,I.o⟩
 case done=>
  intro E ys u J f H;subst J;have i:ag u (pt E (.deferred (X' []))*(n8 w.heap.size (dp l e)*(kE (a.heap.size+1) a.heap.size (X c 480 d) l e*F))):=H.u00;have R:u.cell? ⟨w.heap.size,0,Y'⟩=X' (Z W ((dp l e).length:Int)):=H.cell 0;have q:=i.heap;have G:=(i.putObj (.deferred Y')).right;have Hd:=ae f;clear H i o f m
  gi_wp2
  refine ⟨Si0,.inl ⟨_,_,rfl,run_takeDeferred q,?_⟩⟩;exact ⟨_,results_tmp rfl _ _ _,rfl,(G.right.to (by unfold kE;ac_rfl:_=pt (a.heap.size+1) (Y #[Z W (e:Int)] 3 (0,0))*(pt a.heap.size (Y #[X c 480 d] 23 (0,0))*(bs 5 (X c 480 d) l*F)))).right.right,Hd.o.putObj _ _⟩
end Go.Proofs.Fs

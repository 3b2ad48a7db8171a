/- Steps. -/
import Derived.Test.YtacliaemfegopaaGreatDoorOP41
set_option linter.all false
set_option maxRecDepth 99999
set_option maxHeartbeats 0
open Go.SL
open Nat renaming le_refl->D0,lt_or_ge->F0
namespace Go.SL
open Go.RowKit Go.Proofs.Nn Go.Proofs.Ba Go.Proofs.Cl
def pR:Nat->List UInt8
 | 0=>[]
 | r+1=>pR r++[47,100]
def nR (r:Nat):List (List UInt8):=List.replicate r [100]
theorem lo (r:Nat):(pR r).length=2*r:=by
 induction r with
 | zero=>rfl
 | succ r a=>rw [pR,List.length_append,a];rfl
theorem MQ:∀ r:Fin 20,aZ (pR (r+1))=some (nR (r+1)):=by decide +kernel
theorem tY {r:Nat} (a:0<r) (h:r<=20):aZ (pR r)=some (nR r):=by
 obtain ⟨s,rfl⟩:∃ s,r=s+1:=⟨r-1,by omega⟩
 exact MQ ⟨s,by omega⟩
section
variable {T T':Tr} {A:Nat->Nat} {r k k' n j:Nat} {z:Int}
structure FV (T:Tr) (A:Nat->Nat) (r:Nat):Prop where
 one:A 0=1
 inj:∀ i j,i<=r->j<=r->A i=A j->i=j
 dir:∀ i,i<r->T (A i)=some (.dir [⟨A (i+1),[100]⟩])
 last:T (A r)=some (.dir [])
theorem FV.walk (h:FV T A r):∀ j i,i+j<=r->aN T (A i) (nR j)=(0,A (i+j)):=by
 intro j
 induction j with
 | zero=>intro i _;rfl
 | succ j b=>
  intro i c;have a:dZ (T (A i)) [100]=(0,A (i+1)):=by rw [h.dir i (by omega),iU (uq _ _)];rfl
  show aN T (A i) ([100] :: nR j)=_
  rw [gX (by rw [a]),a,b (i+1) (by omega),show i+1+j=i+(j+1) by omega]
theorem FV.to (h:FV T A r) (a:j<=r):aN T 1 (nR j)=(0,A j):=by
 have:=h.walk j 0 (by omega)
 rwa [h.one,Nat.zero_add] at this
theorem y6 (r:Nat):(nR (r+1)).dropLast=nR r:=by simp [nR]
theorem EM (r:Nat):bW (nR (r+1))=[100]:=by
 unfold bW nR;simp [List.getD]
theorem P0 (r:Nat):nR (r+1)≠[]:=by simp [nR,List.replicate_succ]
theorem GS (h:FV T A r) (m:r<20):jh T k (pR (r+1))=if 2<=k then 0 else 7:=by
 have c:aN T 1 (nR (r+1)).dropLast=(0,A r):=by rw [y6];exact h.to (D0 _)
 have g:fh T (nR (r+1))=0:=rS (P0 r) c h.last rfl;have l:cK T (nR (r+1))=A r:=mf c;have e:eX (T (A r))=[]:=by rw [h.last];rfl
 unfold jh;rw [tY (by omega) (by omega)];simp only;rw [g,if_neg (by simp),l,e];show (if oV []≠0 then (9:Int) else if k=0 then 7 else jQ (k-1) [] (bW (nR (r+1))))=_
 rw [if_neg (by decide)]
 by_cases a:k=0
 .rw [if_pos a,if_neg (by omega)]
 .rw [if_neg a]
  unfold jQ;rw [show iX [] (bW (nR (r+1)))=none from rfl,if_neg (by decide),if_neg (by simp)];show (if k-1+aU 0<aU 1 then (7:Int) else 0)=_
  have d:aU 0=1:=by decide
  have f:aU 1=2:=by decide
  rw [d,f]
  by_cases b:2<=k
  .rw [if_neg (by omega),if_pos b]
  .rw [if_pos (by omega),if_neg b]
theorem ME (h:FV T A r) (v:r<20) (l:mF n T k 2 (pR (r+1)) z T' k') (p:z=0) (u:2<=k):∃ f,FV T' f (r+1)/\k'=k-2:=by
 have o:aN T 1 (nR (r+1)).dropLast=(0,A r):=by rw [y6];exact h.to (D0 _)
 obtain ⟨⟨a,m⟩,rfl⟩:=tU (tY (by omega) (by omega)) o h.last l p
 have d:∀ i,i<=r->a≠A i:=by
  intro i c e;have:=m.no;rw [e] at this;rcases F0 i r with b|b
  .rw [h.dir i b] at this;cases this
  .obtain rfl:i=r:=by omega
   rw [h.last] at this;cases this
 have g:∀ i,i<r->A i≠A r:=fun i c e=>by have:=h.inj i r (by omega) (D0 _) e;omega
 refine ⟨fun i=>if i<=r then A i else a,⟨?_,?_,?_,?_⟩,?_⟩
 .exact h.one
 .intro i j c t e
  have e:(if i<=r then A i else a)=(if j<=r then A j else a):=e
  split at e <;> split at e
  .exact h.inj i j ‹_› ‹_› e
  .exact absurd e.symm (d i ‹_›)
  .exact absurd e (d j ‹_›)
  .omega
 .intro i c
  show T' (if i<=r then A i else a)=some (.dir [⟨if i+1<=r then A (i+1) else a,[100]⟩])
  rw [if_pos (by omega)];rcases F0 i r with b|b
  .rw [if_pos (by omega),m.pE _ (g i b) (Ne.symm (d i (by omega)))];exact h.dir i b
  .obtain rfl:i=r:=by omega
   rw [if_neg (by omega),m.dir,EM];rfl
 .show T' (if r+1<=r then A (r+1) else a)=_
  rw [if_neg (by omega)];exact m.new
 .unfold RV
  show k-1+aU 0-aU 1=_
  have q:aU 0=1:=by decide
  have s:aU 1=2:=by decide
  omega
theorem Ej (h:FV T A r) (b:0<j) (c:j<=r) (d:r<=20):iJ T (pR j)=if j=r then 0 else 11:=by
 unfold iJ;rw [tY b (by omega)];simp only;rw [h.to c,if_neg (by simp)];obtain ⟨s,rfl⟩:∃ s,j=s+1:=⟨j-1,by omega⟩
 rcases F0 (s+1) r with a|a
 .rw [h.dir _ a]
  simp only;rw [if_pos (.inr (by simp)),if_neg (by omega)]
 .obtain rfl:s+1=r:=by omega
  rw [h.last];simp only;rw [if_neg (by rintro (h|h);exact P0 _ h;exact h rfl)];simp
theorem Gf (h:FV T A (r+1)) (t:r<20) (s:sf T k (pR (r+1)) z T' k') (w:z=0):FV T' A r/\k'=k+2:=by
 have u:=tY (r:=r+1) (Nat.succ_pos r) t;have v:aN T 1 (nR (r+1)).dropLast=(0,A r):=by rw [y6];exact h.to (Nat.le_succ r)
 obtain ⟨-,o⟩:=s;obtain ⟨D,x,L,i,f,B,g,C,a,l,m,b⟩:=o w;clear o;obtain rfl:=Option.some.inj (u.symm.trans f);rw [h.to (D0 _)] at g;obtain rfl:A (r+1)=x:=(Prod.mk.inj g).2;rw [mf v] at a m;rw [h.dir r (Nat.lt_succ_self r)] at a;obtain rfl:[⟨A (r+1),[100]⟩]=L:=by injection a with a;injection a
 rw [EM,uq] at l;obtain rfl:0=i:=Option.some.inj l;have d:∀ i j,i<=r+1->j<=r+1->i≠j->A i≠A j:=fun i j c p q e=>q (h.inj i j c p e);have b:k'=k+aU 1-aU 0+bE (dR 1 []).pr:=b;rw [eS (by decide)] at b;subst m;refine ⟨⟨h.one,fun i j c p e=>h.inj i j (by omega) (by omega) e,fun i c=>?_,?_⟩,?_⟩
 .exact (aJ _ _ (d i (r+1) (by omega) (by omega) (by omega))).trans ((aJ _ _ (d i r (by omega) (by omega) (by omega))).trans (h.dir i (by omega)))
 .exact (aJ _ _ (d r (r+1) (by omega) (by omega) (by omega))).trans ((bA _ _ _).trans (by simp [mR]))
 .have y:aU 0=1:=by decide
  have f:aU 1=2:=by decide
  have b:k'=k+aU 1-aU 0+aU 0:=b;omega
theorem LU:FV eQ (fun _=>1) 0:=⟨rfl,fun i j a b _=>by omega,fun i a=>absurd a (Nat.not_lt_zero _),rfl⟩
end
end Go.SL

/- Steps. -/
import Derived.Test.YtebfaobobccikaaGreatDoorLP43
import Derived.Test.YtebfaobobccikaaGreatDoorLP35
set_option linter.all false
set_option maxRecDepth 99999
set_option maxHeartbeats 0
open Go.SL
open Option renaming some->Z'
namespace Go.Proofs.Nn
open RowKit SL
def UL:Value:=.agg #[.int .u32 0,.int .u64 0,.int .u64 0,.int .i64 0,.int .i64 0,.slice none 0 0]
def Jo (v:Value) (s:Option Js):ai:=match s with
 | none=>fact (v=UL)
 | some s=>ex fun g=>fact (v=s.v (.slice (Z' ⟨g,0,none⟩) s.at_.length s.at_.length))*pt g (.cells (ints s.at_) 3 (0,0))
theorem RJ (n:Nat) (j:Nat):iM (zs n) j=0:=by
 induction j with
 | zero=>rfl
 | succ j a=>
  rw [iM,a]
  have:(zs n).getD j 0=0:=by
   unfold zs;rw [List.getD,List.getElem?_replicate]
   split <;> rfl
  rw [this];simp
theorem OZ (n k:Nat):(zs n).drop k=zs (n-k):=by simp [zs]
theorem Rt (t:Tg) (n:Int) (k:Nat) (h:k≠1):(t.set n k).ep=t.ep:=by
 unfold Tg.set;split <;> first|rfl|exact absurd rfl h
theorem Oj (n:Nat) (k:Nat):(iZ (zs n) k).ep=0:=by
 induction k with
 | zero=>rfl
 | succ k a=>
  rw [iZ]
  by_cases h:k=1
  .subst h
   rw [OZ,RJ];rfl
  .rw [Rt _ _ _ h];exact a
theorem DT (n:Nat):cT (zs n)=none:=by
 have h:=Oj n 9;unfold cT;generalize iZ (zs n) 9=t at *;rw [if_neg];rintro ⟨a,_⟩;have:=(Lx a).1;omega
theorem Nb (n:Nat) (h:n<=20000):(aC.fresh n).Ok:=⟨by simp [aC.fresh];omega,by simp [aC.fresh],by simp [aC.fresh],by simp [aC.fresh]⟩
end Go.Proofs.Nn
namespace Go.SL
theorem uq {sq h:Int} {P:Nat}:∀ (L:List UK) (s:Int × Int),(∀ x ∈ L,x.1.sq=sq->((x.2:Int)+(x.1.ct-x.1.ix))%(P:Int)=h/\0<=x.1.ix)->(s.1=h\/(s.2=-1/\∃ x ∈ L,x.1.sq=sq))->(L.foldl (PN sq P) s).1=h
 | [],s,_,j=>by
  rcases j with h|⟨_,x,r,_⟩
  .exact h
  .cases r
 | x :: L,s,g,j=>by
  rw [List.foldl_cons];have l:∀ y ∈ L,y.1.sq=sq->((y.2:Int)+(y.1.ct-y.1.ix))%(P:Int)=h/\0<=y.1.ix:=fun y a=>g y (by simp [a]);refine uq L _ l ?_;unfold PN
  by_cases b:x.1.sq=sq/\s.2<x.1.ix
  .rw [if_pos b];exact .inl (g x (by simp) b.1).1
  .rw [if_neg b]
   rcases j with d|⟨d,y,a,f⟩
   .exact .inl d
   .rcases List.mem_cons.1 a with rfl|a
    .exact absurd ⟨f,by have:=(g y (by simp) f).2;omega⟩ b
    .exact .inr ⟨d,y,a,f⟩
abbrev TM:=Nat->Option Tg
structure Sm (P:Nat) (T:TM) (q:Int) (at_:Int->Option Nat) (p:Nat) (t:Tg):Prop where
 sq:t.sq<=q
 fresh:∀ p' t',p'<P->T p'=some t'->t.ep<t'.ep->t.sq<t'.st
 live:∃ p' t',at_ t.id=some p'/\T p'=some t'/\(p'=p\/t.sq<t'.sq)
structure VD (n P:Nat) (T:TM) (q:Int) (h p:Nat) (t:Tg):Prop where
 off:(p+P-h)%P<n
 VO:t.sq=q+1\/∃ pw tw,pw<P/\T pw=some tw/\t.ep<tw.ep/\tw.st<=t.sq/\(p+P-pw)%P<n/\(p+P-h)%P<(p+P-pw)%P
structure VG (P:Nat) (T:TM) (q:Int) (h:Nat) (at_:Int->Option Nat) (c:Nat):Prop where
 all:∀ i:Nat,i<c->∃ t,T ((h+P-c+i)%P)=some t/\t.sq=q/\t.ix=(i:Int)/\t.ct=(c:Int)/\Sm P T q at_ ((h+P-c+i)%P) t
 one:∀ p t,p<P->T p=some t->Sm P T q at_ p t->t.sq=q->∃ i:Nat,i<c/\p=(h+P-c+i)%P
structure FI (n P:Nat) (T:TM) (q:Int) (h:Nat) (at_:Int->Option Nat):Prop where
 hP:h<P
 nP:n<=P
 q0:0<=q
 h0:q=0->h=0
 tag:∀ p t,p<P->T p=some t->t.ok=true/\t.fl=t.sq-1/\t.sq<=q+1/\t.id<n
 cg:∀ p t,p<P->T p=some t->Sm P T q at_ p t\/VD n P T q h p t
 live:∀ id p,at_ id=some p->p<P/\0<=id/\id<n/\∃ t,T p=some t/\t.id=id/\Sm P T q at_ p t
 last:0<q->∃ c:Nat,0<c/\c<=n/\VG P T q h at_ c
 nw:∀ e:Int,∃ c k:Int,0<=k/\k<c/\∀ p t,p<P->T p=some t->t.ep=e->t.sq=q+1->t.ct=c/\t.ix≠k
end Go.SL
namespace Go.Proofs.Nn
open SL
structure Lays (P:Nat) (T:TM) (L:List UK):Prop where
 iff:∀ t p,(t,p) ∈ L↔p<P/\T p=some t
end Go.Proofs.Nn
namespace Go.SL
structure UC (n P:Nat) (T:TM) (q:Int) (h:Nat) (at_:Int->Option Nat) (E S:Int):Prop where
 tr:FI n P T q h at_
 ep:∀ p t,p<P->T p=some t->t.ep<=E/\(t.ep=E->t.st=S/\Sm P T q at_ p t)
 st:∀ p t,p<P->T p=some t->Sm P T q at_ p t->t.ep<E->t.sq<S
 S1:S<=q+1
theorem FI.run {n P:Nat} {T:TM} {q:Int} {h:Nat} {at_:Int->Option Nat} (f:FI n P T q h at_) {E:Int} (d:∀ p t,p<P->T p=Z' t->t.ep<E):UC n P T q h at_ E (q+1):=
 ⟨f,fun p t a b=>⟨Int.le_of_lt (d p t a b),fun e=>absurd (d p t a b) (by omega)⟩,fun p t a b g _=>by have:=g.sq;omega,Int.le_refl _⟩
end Go.SL
namespace Go.Proofs.Nn
open RowKit SL
def zw (P:Nat) (D:aC):TM:=fun p=>if p<P/\(D.cy ((p:Int)+1)).1=0 then (cT (D.cy ((p:Int)+1)).2).map Prod.fst else none
def O0 (J:Jr):Int->Option Nat:=fun id=>(told J.T.ps id).map Int.toNat
structure JT (n:Nat) (J:Jr) (D:aC) (has:Has):Prop where
 inv:fK J D has
 jn:J.n=(n:Int)
 run:UC n J.P (zw J.P D) J.sq J.hd.toNat (O0 J) J.ep J.st
structure Sj (n P B:Nat) (Sp:List UInt8) (J:Jr) (D:aC) (has:Has):Prop where
 jt:JT n J D has
 bound:sy J
 jP:J.P=P
 sq:J.sq<=(B:Int)
 ep:J.ep<=(B:Int)
 sup:D.cy 0=(0,Sp)
end Go.Proofs.Nn
namespace Go.SL
open RowKit
abbrev Ar:=Option (Nat × List Int)
def aC.df (D:aC) (o:Ar):aC:=match o with
 | none=>D
 | some (N,K)=>{ D with eV:=true,left:=(N:Int),bB:=K }
def mC (o:Ar):Ar:=o.map fun x=>(x.1-1,x.2)
def ke (o:Ar):Prop:=∃ K,o=Z' (0,K)
def Ir (o:Ar):List Int:=match o with|some (_,K)=>K|none=>[]
def oH (o:Ar):Prop:=∀ N K,o=Z' (N,K)->N<=1000000/\K.length<=4611686018427387904
instance (o:Ar):Decidable (ke o):=match o with
 | none=>isFalse fun ⟨_,h⟩=>by cases h
 | some (0,K)=>isTrue ⟨K,rfl⟩
 | some (N+1,K)=>isFalse fun ⟨_,h⟩=>by injection h with h;injection h with h _;cases h
theorem I8:oH none:=fun _ _ h=>by cases h
theorem oH.dec {o:Ar} (h:oH o):oH (mC o):=fun N K e=>by
 cases o with
 | none=>cases e
 | some x=>
  obtain ⟨M,b⟩:=x;injection e with e;injection e with d a
  have:=h M b rfl;simp only at d a;subst a;exact ⟨by omega,this.2⟩
section
variable {D:aC} {o:Ar}
theorem qV (D:aC) (o:Ar):(D.df o).sec=D.sec:=by cases o <;> rfl
theorem lD (D:aC) (o:Ar):(D.df o).wait=D.wait:=by cases o <;> rfl
theorem KF (D:aC) (o:Ar):(D.df o).down=D.down:=by cases o <;> rfl
theorem R8 (D:aC) (o:Ar):(D.df o).cw=D.cw:=by cases o <;> rfl
theorem yG (D:aC) (o:Ar) (a:Int):(D.df o).has a↔D.has a:=by unfold aC.has;rw [qV]
theorem kY (h:D.Ok) (b:oH o):(D.df o).Ok:=by
 refine ⟨by rw [qV];exact h.n,fun x a=>(yG D o _).2 (h.wait x (by rw [lD] at a;exact a)),by rw [lD];exact h.many,?_⟩
 cases o with
 | none=>exact h.bB
 | some x=>exact (b x.1 x.2 rfl).2
theorem By (D:aC) (o:Ar) (x:Int × List UInt8):(D.df o).done x=(D.done x).df o:=by cases o <;> rfl
theorem AM (o:Ar) (l:List (Int × List UInt8)):∀ D:aC,(D.df o).bU l=(D.bU l).df o:=by
 induction l with
 | nil=>intro D;rfl
 | cons x l a=>
  intro D;show aC.bU ((D.df o).done x) l=_
  rw [By,a];rfl
theorem M3 (D:aC) (o:Ar) (f:Int) (x:Int × List UInt8):(D.df o).rY f x=(D.rY f x).df o:=by
 unfold aC.rY
 split
 .exact By D o x
 .split
  .cases o <;> rfl
  .rfl
theorem I9 (D:aC) (o:Ar) (K:List Int):∀ k,(D.df o).ez K k=(D.ez K k).df o:=by
 intro k
 induction k with
 | zero=>rfl
 | succ k a=>
  show (match (D.df o).wait[k]? with|some p=>((D.df o).ez K k).rY (K.getD k 0) p|none=>(D.df o).ez K k)=(match D.wait[k]? with|some p=>(D.ez K k).rY (K.getD k 0) p|none=>D.ez K k).df o
  rw [lD,a]
  cases D.wait[k]? with
  | none=>rfl
  | some p=>exact M3 _ _ _ _
theorem G7 (D:aC) (o:Ar) (K:List Int):(D.df o).fP K=D.fP K:=by
 unfold aC.fP;rw [lD,I9];cases o <;> rfl
theorem Ah (D:aC) (o:Ar):(D.df o).aI=D.aI.df o:=by
 have e:({ D.df o with cf:=cD ((D.df o).cf+1) }:aC)=({ D with cf:=cD (D.cf+1) }:aC).df o:=by cases o <;> rfl
 have a:(D.df o).aI={ (({ D.df o with cf:=cD ((D.df o).cf+1) }:aC)).bU (D.df o).wait with wait:=[] }:=rfl;have b:D.aI={ (({ D with cf:=cD (D.cf+1) }:aC)).bU D.wait with wait:=[] }:=rfl;rw [a,b,e,lD,AM];generalize (({ D with cf:=cD (D.cf+1) }:aC)).bU D.wait=E;cases o <;> rfl
theorem Ff (h:D.Calm) (b:ke o):(D.df o).cP=2/\(D.df o).begun=D.fP (Ir o):=by
 obtain ⟨K,rfl⟩:=b
 have e:(D.df (Z' (0,K))).de=D.fP K:=by
  have a:(!(D.df (Z' (0,K))).down && (D.df (Z' (0,K))).eV && (D.df (Z' (0,K))).left == 0)=true:=by
   show (!D.down && true && ((0:Nat):Int) == 0)=true
   rw [h.down];rfl
  unfold aC.de;rw [if_pos a];exact G7 D _ K
 unfold aC.cP aC.begun;rw [e];exact ⟨rfl,rfl⟩
theorem Nh (h:D.Calm) (f:oH o) (d:¬ ke o):(D.df o).cP=0/\(D.df o).begun=D.df (mC o):=by
 cases o with
 | none=>exact ⟨h.cP,h.begun⟩
 | some x=>
  obtain ⟨N,K⟩:=x;have g:=(f N K rfl).1;have j:N≠0:=fun e=>d ⟨K,by rw [e]⟩
  have e:(D.df (Z' (N,K))).de=D.df (Z' (N,K)):=by
   have b:(!(D.df (Z' (N,K))).down && (D.df (Z' (N,K))).eV && (D.df (Z' (N,K))).left == 0)=false:=by
    have:((N:Int) == 0)=false:=by simp;omega
    show (!D.down && true && (N:Int) == 0)=false
    rw [this];simp
   unfold aC.de;rw [b];rfl
  unfold aC.cP aC.begun;rw [e,KF,h.down];refine ⟨rfl,?_⟩;show (if false=true then _ else if true=true then ({ D.df (Z' (N,K)) with left:=cD ((N:Int)-1) }:aC) else _)=_
  rw [if_neg (by decide),if_pos rfl];have a:cD ((N:Int)-1)=((N-1:Nat):Int):=by simp only [cD,wrap64];omega
  rw [a];rfl
theorem wY (h:D.Calm) (d:ke o):(D.df o).flush=(2,D.fP (Ir o)):=by
 obtain ⟨a,b⟩:=Ff h d;unfold aC.flush;rw [a,b,if_neg (by decide)]
theorem yD (h:D.Calm) (f:oH o) (d:¬ ke o):(D.df o).flush=(0,D.aI.df (mC o)):=by
 obtain ⟨a,b⟩:=Nh h f d;unfold aC.flush;rw [a,b,if_pos rfl,Ah]
theorem wR (h:D.Calm) (g:ke o) {a:Int} (f:D.has a) {l:List UInt8} (j:l.length=512):(D.df o).write a l=(2,D.fP (Ir o)):=by
 obtain ⟨b,d⟩:=Ff h g;unfold aC.write;rw [if_pos ⟨(yG D o a).2 f,j⟩,b,d,if_neg (by decide)]
theorem zL (h:D.Calm) (r:oH o) (g:¬ ke o) {a:Int} (f:D.has a) {l:List UInt8} (j:l.length=512):(D.df o).write a l=(0,({ D with cw:=cD (D.cw+1),wait:=D.wait++[(a,l)] }:aC).df (mC o)):=by
 obtain ⟨b,d⟩:=Nh h r g;unfold aC.write;rw [if_pos ⟨(yG D o a).2 f,j⟩,b,d,if_pos rfl,lD,R8];cases mC o <;> rfl
end
end Go.SL
namespace Go.Proofs.Nn
open RowKit SL
section
variable {n P B:Nat} {Sp:List UInt8} {J:Jr} {D:aC} {has:Has} {L:Bl} {o:Ar}
theorem B4 (D:aC):D.df none=D:=rfl
end
def Vp (has:Has) (id:Int):List UInt8:=(has id).getD (zs 480)
section
variable {n P B:Nat} {Sp:List UInt8} {J:Jr} {D E:aC} {has:Has} {L:Bl} {m:Nat} {K:List Int} {o:Ar}
def w0 (has:Has):Bl:=[((0:Int),Vp has 0)]
theorem Gw (c:Int) (a b:Nat):iI (iI c a) b=iI c (a+b):=by
 induction b with
 | zero=>rfl
 | succ b d=>show cD (iI (iI c a) b+1)=cD (iI c (a+b)+1);rw [d]
theorem vf (h:ke o):o≠none:=fun e=>by obtain ⟨K,a⟩:=h;rw [e] at a;cases a
theorem qJ (o:Ar):Ir (mC o)=Ir o:=by cases o <;> rfl
theorem l8 (e:o=none):mC o=none:=by rw [e];rfl
structure mM (o o':Ar):Prop where
 ok:oH o'
 none:o=none->o'=none
 K:Ir o'=Ir o
theorem mM.trans {a b c:Ar} (h:mM a b) (k:mM b c):mM a c:=⟨k.ok,fun e=>k.none (h.none e),k.K.trans h.K⟩
theorem mM.dec (h:oH o):mM o (mC o):=⟨h.dec,l8,qJ o⟩
end
end Go.Proofs.Nn

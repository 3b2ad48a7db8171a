/- Steps. -/
import Derived.Test.YtacliaemfegopaaGreatDoorOP45
import Derived.Test.YtacliaemfegopaaGreatDoorOP36
set_option linter.all false
set_option maxRecDepth 99999
set_option maxHeartbeats 0
open Go.SL
open Option renaming some->Z'
namespace Go.Proofs.Nn
open Go.RowKit Go.SL
def Uo:Value:=.agg #[.int .u32 0,.int .u64 0,.int .u64 0,.int .i64 0,.int .i64 0,.slice none 0 0]
def KB (v:Value) (s:Option Js):ai:=match s with
 | none=>fact (v=Uo)
 | some s=>ex fun g=>fact (v=s.v (.slice (Z' ⟨g,0,none⟩) s.at_.length s.at_.length))*pt g (.cells (ints s.at_) 3 (0,0))
theorem Qf (n:Nat) (j:Nat):iF (zs n) j=0:=by
 induction j with
 | zero=>rfl
 | succ j a=>
  rw [iF,a]
  have:(zs n).getD j 0=0:=by
   unfold zs;rw [List.getD,List.getElem?_replicate]
   split <;> rfl
  rw [this];simp
theorem Ot (n k:Nat):(zs n).drop k=zs (n-k):=by simp [zs]
theorem QX (t:Tg) (n:Int) (k:Nat) (h:k≠1):(t.set n k).ep=t.ep:=by
 unfold Tg.set;split <;> first|rfl|exact absurd rfl h
theorem NW (n:Nat) (k:Nat):(iO (zs n) k).ep=0:=by
 induction k with
 | zero=>rfl
 | succ k a=>
  rw [iO]
  by_cases h:k=1
  .subst h
   rw [Ot,Qf];rfl
  .rw [QX _ _ _ h];exact a
theorem C6 (n:Nat):cQ (zs n)=none:=by
 have h:=NW n 9;unfold cQ;generalize iO (zs n) 9=t at *;rw [if_neg];rintro ⟨a,_⟩;have:=(Jl a).1;omega
theorem Ly (n:Nat) (h:n<=20000):(aB.fresh n).Ok:=⟨by simp [aB.fresh];omega,by simp [aB.fresh],by simp [aB.fresh],by simp [aB.fresh]⟩
end Go.Proofs.Nn
namespace Go.SL
theorem vy {sq h:Int} {P:Nat}:∀ (L:List UA) (s:Int × Int),(∀ x ∈ L,x.1.sq=sq->((x.2:Int)+(x.1.ct-x.1.ix))%(P:Int)=h/\0<=x.1.ix)->(s.1=h\/(s.2=-1/\∃ x ∈ L,x.1.sq=sq))->(L.foldl (P1 sq P) s).1=h
 | [],s,_,j=>by
  rcases j with h|⟨_,x,r,_⟩
  .exact h
  .cases r
 | x :: L,s,g,j=>by
  rw [List.foldl_cons];have l:∀ y ∈ L,y.1.sq=sq->((y.2:Int)+(y.1.ct-y.1.ix))%(P:Int)=h/\0<=y.1.ix:=fun y a=>g y (by simp [a]);refine vy L _ l ?_;unfold P1
  by_cases b:x.1.sq=sq/\s.2<x.1.ix
  .rw [if_pos b];exact .inl (g x (by simp) b.1).1
  .rw [if_neg b]
   rcases j with d|⟨d,y,a,f⟩
   .exact .inl d
   .rcases List.mem_cons.1 a with rfl|a
    .exact absurd ⟨f,by have:=(g y (by simp) f).2;omega⟩ b
    .exact .inr ⟨d,y,a,f⟩
abbrev TM:=Nat->Option Tg
structure RZ (P:Nat) (T:TM) (q:Int) (at_:Int->Option Nat) (p:Nat) (t:Tg):Prop where
 sq:t.sq<=q
 fresh:∀ p' t',p'<P->T p'=some t'->t.ep<t'.ep->t.sq<t'.st
 live:∃ p' t',at_ t.id=some p'/\T p'=some t'/\(p'=p\/t.sq<t'.sq)
structure UY (n P:Nat) (T:TM) (q:Int) (h p:Nat) (t:Tg):Prop where
 off:(p+P-h)%P<n
 Vi:t.sq=q+1\/∃ pw tw,pw<P/\T pw=some tw/\t.ep<tw.ep/\tw.st<=t.sq/\(p+P-pw)%P<n/\(p+P-h)%P<(p+P-pw)%P
structure U3 (P:Nat) (T:TM) (q:Int) (h:Nat) (at_:Int->Option Nat) (c:Nat):Prop where
 all:∀ i:Nat,i<c->∃ t,T ((h+P-c+i)%P)=some t/\t.sq=q/\t.ix=(i:Int)/\t.ct=(c:Int)/\RZ P T q at_ ((h+P-c+i)%P) t
 one:∀ p t,p<P->T p=some t->RZ P T q at_ p t->t.sq=q->∃ i:Nat,i<c/\p=(h+P-c+i)%P
structure EC (n P:Nat) (T:TM) (q:Int) (h:Nat) (at_:Int->Option Nat):Prop where
 hP:h<P
 nP:n<=P
 q0:0<=q
 h0:q=0->h=0
 tag:∀ p t,p<P->T p=some t->t.ok=true/\t.fl=t.sq-1/\t.sq<=q+1/\t.id<n
 cg:∀ p t,p<P->T p=some t->RZ P T q at_ p t\/UY n P T q h p t
 live:∀ id p,at_ id=some p->p<P/\0<=id/\id<n/\∃ t,T p=some t/\t.id=id/\RZ P T q at_ p t
 last:0<q->∃ c:Nat,0<c/\c<=n/\U3 P T q h at_ c
 nw:∀ e:Int,∃ c k:Int,0<=k/\k<c/\∀ p t,p<P->T p=some t->t.ep=e->t.sq=q+1->t.ct=c/\t.ix≠k
end Go.SL
namespace Go.Proofs.Nn
open Go.SL
structure Lays (P:Nat) (T:TM) (L:List UA):Prop where
 iff:∀ t p,(t,p) ∈ L↔p<P/\T p=some t
end Go.Proofs.Nn
namespace Go.SL
structure Ug (n P:Nat) (T:TM) (q:Int) (h:Nat) (at_:Int->Option Nat) (E S:Int):Prop where
 tr:EC n P T q h at_
 ep:∀ p t,p<P->T p=some t->t.ep<=E/\(t.ep=E->t.st=S/\RZ P T q at_ p t)
 st:∀ p t,p<P->T p=some t->RZ P T q at_ p t->t.ep<E->t.sq<S
 S1:S<=q+1
theorem EC.run {n P:Nat} {T:TM} {q:Int} {h:Nat} {at_:Int->Option Nat} (f:EC n P T q h at_) {E:Int} (d:∀ p t,p<P->T p=Z' t->t.ep<E):Ug n P T q h at_ E (q+1):=
 ⟨f,fun p t a b=>⟨Int.le_of_lt (d p t a b),fun e=>absurd (d p t a b) (by omega)⟩,fun p t a b g _=>by have:=g.sq;omega,Int.le_refl _⟩
end Go.SL
namespace Go.Proofs.Nn
open Go.RowKit Go.SL
def zc (P:Nat) (D:aB):TM:=fun p=>if p<P/\(D.cq ((p:Int)+1)).1=0 then (cQ (D.cq ((p:Int)+1)).2).map Prod.fst else none
def Og (J:Jr):Int->Option Nat:=fun id=>(told J.T.ps id).map Int.toNat
structure JT (n:Nat) (J:Jr) (D:aB) (has:Has):Prop where
 inv:fL J D has
 jn:J.n=(n:Int)
 run:Ug n J.P (zc J.P D) J.sq J.hd.toNat (Og J) J.ep J.st
structure Sj (n P B:Nat) (Sp:List UInt8) (J:Jr) (D:aB) (has:Has):Prop where
 jt:JT n J D has
 bound:sd J
 jP:J.P=P
 sq:J.sq<=(B:Int)
 ep:J.ep<=(B:Int)
 sup:D.cq 0=(0,Sp)
end Go.Proofs.Nn
namespace Go.SL
open Go.RowKit
abbrev Ar:=Option (Nat × List Int)
def aB.dm (D:aB) (o:Ar):aB:=match o with
 | none=>D
 | some (N,K)=>{ D with eP:=true,left:=(N:Int),bB:=K }
def mA (o:Ar):Ar:=o.map fun x=>(x.1-1,x.2)
def jM (o:Ar):Prop:=∃ K,o=Z' (0,K)
def GG (o:Ar):List Int:=match o with|some (_,K)=>K|none=>[]
def oI (o:Ar):Prop:=∀ N K,o=Z' (N,K)->N<=1000000/\K.length<=4611686018427387904
instance (o:Ar):Decidable (jM o):=match o with
 | none=>isFalse fun ⟨_,h⟩=>by cases h
 | some (0,K)=>isTrue ⟨K,rfl⟩
 | some (N+1,K)=>isFalse fun ⟨_,h⟩=>by injection h with h;injection h with h _;cases h
theorem IU:oI none:=fun _ _ h=>by cases h
theorem oI.dec {o:Ar} (h:oI o):oI (mA o):=fun N K e=>by
 cases o with
 | none=>cases e
 | some x=>
  obtain ⟨M,b⟩:=x;injection e with e;injection e with d a
  have:=h M b rfl;simp only at d a;subst a;exact ⟨by omega,this.2⟩
section
variable {D:aB} {o:Ar}
theorem qE (D:aB) (o:Ar):(D.dm o).sec=D.sec:=by cases o <;> rfl
theorem lr (D:aB) (o:Ar):(D.dm o).wait=D.wait:=by cases o <;> rfl
theorem Kx (D:aB) (o:Ar):(D.dm o).down=D.down:=by cases o <;> rfl
theorem Rk (D:aB) (o:Ar):(D.dm o).cw=D.cw:=by cases o <;> rfl
theorem zB (D:aB) (o:Ar) (a:Int):(D.dm o).has a↔D.has a:=by unfold aB.has;rw [qE]
theorem kI (h:D.Ok) (b:oI o):(D.dm o).Ok:=by
 refine ⟨by rw [qE];exact h.n,fun x a=>(zB D o _).2 (h.wait x (by rw [lr] at a;exact a)),by rw [lr];exact h.many,?_⟩
 cases o with
 | none=>exact h.bB
 | some x=>exact (b x.1 x.2 rfl).2
theorem zJ (D:aB) (o:Ar) (x:Int × List UInt8):(D.dm o).done x=(D.done x).dm o:=by cases o <;> rfl
theorem Ap (o:Ar) (l:List (Int × List UInt8)):∀ D:aB,(D.dm o).bQ l=(D.bQ l).dm o:=by
 induction l with
 | nil=>intro D;rfl
 | cons x l a=>
  intro D;show aB.bQ ((D.dm o).done x) l=_
  rw [zJ,a];rfl
theorem LC (D:aB) (o:Ar) (f:Int) (x:Int × List UInt8):(D.dm o).sy f x=(D.sy f x).dm o:=by
 unfold aB.sy
 split
 .exact zJ D o x
 .split
  .cases o <;> rfl
  .rfl
theorem G6 (D:aB) (o:Ar) (K:List Int):∀ k,(D.dm o).ew K k=(D.ew K k).dm o:=by
 intro k
 induction k with
 | zero=>rfl
 | succ k a=>
  show (match (D.dm o).wait[k]? with|some p=>((D.dm o).ew K k).sy (K.getD k 0) p|none=>(D.dm o).ew K k)=(match D.wait[k]? with|some p=>(D.ew K k).sy (K.getD k 0) p|none=>D.ew K k).dm o
  rw [lr,a]
  cases D.wait[k]? with
  | none=>rfl
  | some p=>exact LC _ _ _ _
theorem IA (D:aB) (o:Ar) (K:List Int):(D.dm o).fN K=D.fN K:=by
 unfold aB.fN;rw [lr,G6];cases o <;> rfl
theorem Bq (D:aB) (o:Ar):(D.dm o).aG=D.aG.dm o:=by
 have e:({ D.dm o with cf:=cy ((D.dm o).cf+1) }:aB)=({ D with cf:=cy (D.cf+1) }:aB).dm o:=by cases o <;> rfl
 have a:(D.dm o).aG={ (({ D.dm o with cf:=cy ((D.dm o).cf+1) }:aB)).bQ (D.dm o).wait with wait:=[] }:=rfl;have b:D.aG={ (({ D with cf:=cy (D.cf+1) }:aB)).bQ D.wait with wait:=[] }:=rfl;rw [a,b,e,lr,Ap];generalize (({ D with cf:=cy (D.cf+1) }:aB)).bQ D.wait=E;cases o <;> rfl
theorem FI (h:D.Calm) (b:jM o):(D.dm o).cM=2/\(D.dm o).begun=D.fN (GG o):=by
 obtain ⟨K,rfl⟩:=b
 have e:(D.dm (Z' (0,K))).df=D.fN K:=by
  have a:(!(D.dm (Z' (0,K))).down && (D.dm (Z' (0,K))).eP && (D.dm (Z' (0,K))).left == 0)=true:=by
   show (!D.down && true && ((0:Nat):Int) == 0)=true
   rw [h.down];rfl
  unfold aB.df;rw [if_pos a];exact IA D _ K
 unfold aB.cM aB.begun;rw [e];exact ⟨rfl,rfl⟩
theorem Mz (h:D.Calm) (f:oI o) (d:¬ jM o):(D.dm o).cM=0/\(D.dm o).begun=D.dm (mA o):=by
 cases o with
 | none=>exact ⟨h.cM,h.begun⟩
 | some x=>
  obtain ⟨N,K⟩:=x;have g:=(f N K rfl).1;have j:N≠0:=fun e=>d ⟨K,by rw [e]⟩
  have e:(D.dm (Z' (N,K))).df=D.dm (Z' (N,K)):=by
   have b:(!(D.dm (Z' (N,K))).down && (D.dm (Z' (N,K))).eP && (D.dm (Z' (N,K))).left == 0)=false:=by
    have:((N:Int) == 0)=false:=by simp;omega
    show (!D.down && true && (N:Int) == 0)=false
    rw [this];simp
   unfold aB.df;rw [b];rfl
  unfold aB.cM aB.begun;rw [e,Kx,h.down];refine ⟨rfl,?_⟩;show (if false=true then _ else if true=true then ({ D.dm (Z' (N,K)) with left:=cy ((N:Int)-1) }:aB) else _)=_
  rw [if_neg (by decide),if_pos rfl];have a:cy ((N:Int)-1)=((N-1:Nat):Int):=by simp only [cy,wrap64];omega
  rw [a];rfl
theorem wQ (h:D.Calm) (d:jM o):(D.dm o).flush=(2,D.fN (GG o)):=by
 obtain ⟨a,b⟩:=FI h d;unfold aB.flush;rw [a,b,if_neg (by decide)]
theorem yv (h:D.Calm) (f:oI o) (d:¬ jM o):(D.dm o).flush=(0,D.aG.dm (mA o)):=by
 obtain ⟨a,b⟩:=Mz h f d;unfold aB.flush;rw [a,b,if_pos rfl,Bq]
theorem wV (h:D.Calm) (g:jM o) {a:Int} (f:D.has a) {l:List UInt8} (j:l.length=512):(D.dm o).write a l=(2,D.fN (GG o)):=by
 obtain ⟨b,d⟩:=FI h g;unfold aB.write;rw [if_pos ⟨(zB D o a).2 f,j⟩,b,d,if_neg (by decide)]
theorem yy (h:D.Calm) (r:oI o) (g:¬ jM o) {a:Int} (f:D.has a) {l:List UInt8} (j:l.length=512):(D.dm o).write a l=(0,({ D with cw:=cy (D.cw+1),wait:=D.wait++[(a,l)] }:aB).dm (mA o)):=by
 obtain ⟨b,d⟩:=Mz h r g;unfold aB.write;rw [if_pos ⟨(zB D o a).2 f,j⟩,b,d,if_pos rfl,lr,Rk];cases mA o <;> rfl
end
end Go.SL
namespace Go.Proofs.Nn
open Go.RowKit Go.SL
section
variable {n P B:Nat} {Sp:List UInt8} {J:Jr} {D:aB} {has:Has} {L:Bl} {o:Ar}
theorem BW (D:aB):D.dm none=D:=rfl
end
def Ve (has:Has) (id:Int):List UInt8:=(has id).getD (zs 480)
section
variable {n P B:Nat} {Sp:List UInt8} {J:Jr} {D E:aB} {has:Has} {L:Bl} {m:Nat} {K:List Int} {o:Ar}
def w0 (has:Has):Bl:=[((0:Int),Ve has 0)]
theorem GM (c:Int) (a b:Nat):iC (iC c a) b=iC c (a+b):=by
 induction b with
 | zero=>rfl
 | succ b d=>show cy (iC (iC c a) b+1)=cy (iC c (a+b)+1);rw [d]
theorem vD (h:jM o):o≠none:=fun e=>by obtain ⟨K,a⟩:=h;rw [e] at a;cases a
theorem qR (o:Ar):GG (mA o)=GG o:=by cases o <;> rfl
theorem lK (e:o=none):mA o=none:=by rw [e];rfl
structure mL (o o':Ar):Prop where
 ok:oI o'
 none:o=none->o'=none
 K:GG o'=GG o
theorem mL.trans {a b c:Ar} (h:mL a b) (k:mL b c):mL a c:=⟨k.ok,fun e=>k.none (h.none e),k.K.trans h.K⟩
theorem mL.dec (h:oI o):mL o (mA o):=⟨h.dec,lK,qR o⟩
end
end Go.Proofs.Nn

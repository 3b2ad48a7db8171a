/- Steps. -/
import Derived.Test.YtdickhgiahcnaaaGreatDoorNP45
import Derived.Test.YtdickhgiahcnaaaGreatDoorNP37
set_option linter.all false
set_option maxRecDepth 99999
set_option maxHeartbeats 0
open Go.SL
open Option renaming some->Z'
namespace Go.Proofs.Nn
open RowKit SL
def V9:Value:=.agg #[.int .u32 0,.int .u64 0,.int .u64 0,.int .i64 0,.int .i64 0,.slice none 0 0]
def LZ (v:Value) (s:Option Js):ai:=match s with
 | none=>fact (v=V9)
 | some s=>ex fun g=>fact (v=s.v (.slice (Z' ⟨g,0,none⟩) s.at_.length s.at_.length))*pt g (.cells (ints s.at_) 3 (0,0))
def Tm (n:Nat) (j:Nat):iM (zs n) j=0:=by
 induction j with
 | zero=>rfl
 | succ j a=>
  rw [iM,a]
  have:(zs n).getD j 0=0:=by
   unfold zs;rw [List.getD,List.getElem?_replicate]
   split <;> rfl
  rw [this];simp
def Pn (n k:Nat):(zs n).drop k=zs (n-k):=by simp [zs]
def RB (t:Tg) (n:Int) (k:Nat) (h:k≠1):(t.set n k).ep=t.ep:=by
 unfold Tg.set;split <;> first|rfl|exact absurd rfl h
def PR (n:Nat) (k:Nat):(iR (zs n) k).ep=0:=by
 induction k with
 | zero=>rfl
 | succ k a=>
  rw [iR]
  by_cases h:k=1
  .subst h
   rw [Pn,Tm];rfl
  .rw [RB _ _ _ h];exact a
def Eu (n:Nat):cV (zs n)=none:=by
 have h:=PR n 9;unfold cV;generalize iR (zs n) 9=t at *;rw [if_neg];rintro ⟨a,_⟩;have:=(MG a).1;omega
def Ni (n:Nat) (h:n<=20000):(aB.fresh n).Ok:=⟨by simp [aB.fresh];omega,by simp [aB.fresh],by simp [aB.fresh],by simp [aB.fresh]⟩
end Go.Proofs.Nn
namespace Go.SL
def vU {sq h:Int} {P:Nat}:∀ (L:List WG) (s:Int × Int),(∀ x ∈ L,x.1.sq=sq->((x.2:Int)+(x.1.ct-x.1.ix))%(P:Int)=h/\0<=x.1.ix)->(s.1=h\/(s.2=-1/\∃ x ∈ L,x.1.sq=sq))->(L.foldl (Rk sq P) s).1=h
 | [],s,_,g=>by
  rcases g with h|⟨_,x,l,_⟩
  .exact h
  .cases l
 | x :: L,s,f,g=>by
  rw [List.foldl_cons];have j:∀ y ∈ L,y.1.sq=sq->((y.2:Int)+(y.1.ct-y.1.ix))%(P:Int)=h/\0<=y.1.ix:=fun y hy=>f y (by simp [hy]);refine vU L _ j ?_;unfold Rk
  by_cases a:x.1.sq=sq/\s.2<x.1.ix
  .rw [if_pos a];exact .inl (f x Si0 a.1).1
  .rw [if_neg a]
   rcases g with b|⟨b,y,hy,d⟩
   .exact .inl b
   .rcases List.mem_cons.1 hy with rfl|hy
    .exact absurd ⟨d,by have:=(f y Si0 d).2;omega⟩ a
    .exact .inr ⟨b,y,hy,d⟩
abbrev TM:=Nat->Option Tg
structure TZ (P:Nat) (T:TM) (q:Int) (at_:Int->Option Nat) (p:Nat) (t:Tg):Prop where
 sq:t.sq<=q
 fresh:∀ p' t',p'<P->T p'=some t'->t.ep<t'.ep->t.sq<t'.st
 live:∃ p' t',at_ t.id=some p'/\T p'=some t'/\(p'=p\/t.sq<t'.sq)
structure Xg (n P:Nat) (T:TM) (q:Int) (h p:Nat) (t:Tg):Prop where
 off:(p+P-h)%P<n
 XD:t.sq=q+1\/∃ pw tw,pw<P/\T pw=some tw/\t.ep<tw.ep/\tw.st<=t.sq/\(p+P-pw)%P<n/\(p+P-h)%P<(p+P-pw)%P
structure Xc (P:Nat) (T:TM) (q:Int) (h:Nat) (at_:Int->Option Nat) (c:Nat):Prop where
 all:∀ i:Nat,i<c->∃ t,T ((h+P-c+i)%P)=some t/\t.sq=q/\t.ix=(i:Int)/\t.ct=(c:Int)/\TZ P T q at_ ((h+P-c+i)%P) t
 one:∀ p t,p<P->T p=some t->TZ P T q at_ p t->t.sq=q->∃ i:Nat,i<c/\p=(h+P-c+i)%P
structure GF (n P:Nat) (T:TM) (q:Int) (h:Nat) (at_:Int->Option Nat):Prop where
 hP:h<P
 nP:n<=P
 q0:0<=q
 h0:q=0->h=0
 tag:∀ p t,p<P->T p=some t->t.ok=true/\t.fl=t.sq-1/\t.sq<=q+1/\t.id<n
 cg:∀ p t,p<P->T p=some t->TZ P T q at_ p t\/Xg n P T q h p t
 live:∀ id p,at_ id=some p->p<P/\0<=id/\id<n/\∃ t,T p=some t/\t.id=id/\TZ P T q at_ p t
 last:0<q->∃ c:Nat,0<c/\c<=n/\Xc P T q h at_ c
 nw:∀ e:Int,∃ c k:Int,0<=k/\k<c/\∀ p t,p<P->T p=some t->t.ep=e->t.sq=q+1->t.ct=c/\t.ix≠k
end Go.SL
namespace Go.Proofs.Nn
open SL
structure Lays (P:Nat) (T:TM) (L:List WG):Prop where
 iff:∀ t p,(t,p) ∈ L↔p<P/\T p=some t
end Go.Proofs.Nn
namespace Go.SL
structure WD (n P:Nat) (T:TM) (q:Int) (h:Nat) (at_:Int->Option Nat) (E S:Int):Prop where
 tr:GF n P T q h at_
 ep:∀ p t,p<P->T p=some t->t.ep<=E/\(t.ep=E->t.st=S/\TZ P T q at_ p t)
 st:∀ p t,p<P->T p=some t->TZ P T q at_ p t->t.ep<E->t.sq<S
 S1:S<=q+1
def GF.run {n P:Nat} {T:TM} {q:Int} {h:Nat} {at_:Int->Option Nat} (f:GF n P T q h at_) {E:Int} (d:∀ p t,p<P->T p=Z' t->t.ep<E):WD n P T q h at_ E (q+1):=
 ⟨f,fun p t a b=>⟨Int.le_of_lt (d p t a b),fun e=>absurd (d p t a b) Om0⟩,fun p t a b g _=>by have:=g.sq;omega,Int.le_refl _⟩
end Go.SL
namespace Go.Proofs.Nn
open RowKit SL
def zS (P:Nat) (D:aB):TM:=fun p=>if p<P/\(D.cD ((p:Int)+1)).1=0 then (cV (D.cD ((p:Int)+1)).2).map Prod.fst else none
def PS (J:Jr):Int->Option Nat:=fun id=>(told J.T.ps id).map Int.toNat
structure JT (n:Nat) (J:Jr) (D:aB) (has:Has):Prop where
 inv:fP J D has
 jn:J.n=(n:Int)
 run:WD n J.P (zS J.P D) J.sq J.hd.toNat (PS J) J.ep J.st
structure Sj (n P B:Nat) (Sp:List UInt8) (J:Jr) (D:aB) (has:Has):Prop where
 jt:JT n J D has
 bound:tq J
 jP:J.P=P
 sq:J.sq<=(B:Int)
 ep:J.ep<=(B:Int)
 sup:D.cD 0=(0,Sp)
end Go.Proofs.Nn
namespace Go.SL
open RowKit
abbrev Ar:=Option (Nat × List Int)
def aB.dj (D:aB) (o:Ar):aB:=match o with
 | none=>D
 | some (N,K)=>{ D with fi:=true,left:=(N:Int),bF:=K }
def nf (o:Ar):Ar:=o.map fun x=>(x.1-1,x.2)
def j8 (o:Ar):Prop:=∃ K,o=Z' (0,K)
def Jq (o:Ar):List Int:=match o with|some (_,K)=>K|none=>[]
def pE (o:Ar):Prop:=∀ N K,o=Z' (N,K)->N<=1000000/\K.length<=4611686018427387904
instance (o:Ar):Decidable (j8 o):=match o with
 | none=>isFalse fun ⟨_,h⟩=>by cases h
 | some (0,K)=>isTrue ⟨K,rfl⟩
 | some (N+1,K)=>isFalse fun ⟨_,h⟩=>by injection h with h;injection h with h _;cases h
def Jp:pE none:=fun _ _ h=>by cases h
def pE.dec {o:Ar} (h:pE o):pE (nf o):=fun N K e=>by
 cases o with
 | none=>cases e
 | some x=>
  obtain ⟨M,b⟩:=x;injection e with e;injection e with d a
  have:=h M b rfl;simp only at d a;subst a;exact ⟨Om0,this.2⟩
section
variable {D:aB} {o:Ar}
def qE (D:aB) (o:Ar):(D.dj o).sec=D.sec:=by cases o <;> rfl
def lV (D:aB) (o:Ar):(D.dj o).wait=D.wait:=by cases o <;> rfl
def Ko (D:aB) (o:Ar):(D.dj o).down=D.down:=by cases o <;> rfl
def RZ (D:aB) (o:Ar):(D.dj o).cw=D.cw:=by cases o <;> rfl
def Ah (D:aB) (o:Ar) (a:Int):(D.dj o).has a↔D.has a:=by unfold aB.has;rw [qE]
def lG (h:D.Ok) (b:pE o):(D.dj o).Ok:=by
 refine ⟨by rw [qE];exact h.n,fun x a=>(Ah D o _).2 (h.wait x (by rw [lV] at a;exact a)),by rw [lV];exact h.many,?_⟩
 cases o with
 | none=>exact h.bF
 | some x=>exact (b x.1 x.2 rfl).2
def C2 (D:aB) (o:Ar) (x:Int × List UInt8):(D.dj o).done x=(D.done x).dj o:=by cases o <;> rfl
def AP (o:Ar) (l:List (Int × List UInt8)):∀ D:aB,(D.dj o).bU l=(D.bU l).dj o:=by
 induction l with
 | nil=>intro D;rfl
 | cons x l a=>
  intro D;show aB.bU ((D.dj o).done x) l=_
  rw [C2,a];rfl
def Kr (D:aB) (o:Ar) (f:Int) (x:Int × List UInt8):(D.dj o).si f x=(D.si f x).dj o:=by
 unfold aB.si
 split
 .exact C2 D o x
 .split
  .cases o <;> rfl
  .rfl
def GY (D:aB) (o:Ar) (K:List Int):∀ k,(D.dj o).eD K k=(D.eD K k).dj o:=by
 intro k
 induction k with
 | zero=>rfl
 | succ k a=>
  show (match (D.dj o).wait[k]? with|some p=>((D.dj o).eD K k).si (K.getD k 0) p|none=>(D.dj o).eD K k)=(match D.wait[k]? with|some p=>(D.eD K k).si (K.getD k 0) p|none=>D.eD K k).dj o
  rw [lV,a]
  cases D.wait[k]? with
  | none=>rfl
  | some p=>exact Kr _ _ _ _
def JO (D:aB) (o:Ar) (K:List Int):(D.dj o).fU K=D.fU K:=by
 unfold aB.fU;rw [lV,GY];cases o <;> rfl
def CM (D:aB) (o:Ar):(D.dj o).aH=D.aH.dj o:=by
 have e:({ D.dj o with cf:=cE ((D.dj o).cf+1) }:aB)=({ D with cf:=cE (D.cf+1) }:aB).dj o:=by cases o <;> rfl
 have a:(D.dj o).aH={ (({ D.dj o with cf:=cE ((D.dj o).cf+1) }:aB)).bU (D.dj o).wait with wait:=[] }:=rfl;have b:D.aH={ (({ D with cf:=cE (D.cf+1) }:aB)).bU D.wait with wait:=[] }:=rfl;rw [a,b,e,lV,AP];generalize (({ D with cf:=cE (D.cf+1) }:aB)).bU D.wait=E;cases o <;> rfl
def FC (h:D.Calm) (b:j8 o):(D.dj o).cT=2/\(D.dj o).begun=D.fU (Jq o):=by
 obtain ⟨K,rfl⟩:=b
 have e:(D.dj (Z' (0,K))).di=D.fU K:=by
  have a:(!(D.dj (Z' (0,K))).down && (D.dj (Z' (0,K))).fi && (D.dj (Z' (0,K))).left == 0)=true:=by
   show (!D.down && true && ((0:Nat):Int) == 0)=true
   rw [h.down];rfl
  unfold aB.di;rw [if_pos a];exact JO D _ K
 unfold aB.cT aB.begun;rw [e];exact ⟨rfl,rfl⟩
def Mi (h:D.Calm) (f:pE o) (d:¬ j8 o):(D.dj o).cT=0/\(D.dj o).begun=D.dj (nf o):=by
 cases o with
 | none=>exact ⟨h.cT,h.begun⟩
 | some x=>
  obtain ⟨N,K⟩:=x;have g:=(f N K rfl).1;have j:N≠0:=fun e=>d ⟨K,by rw [e]⟩
  have e:(D.dj (Z' (N,K))).di=D.dj (Z' (N,K)):=by
   have b:(!(D.dj (Z' (N,K))).down && (D.dj (Z' (N,K))).fi && (D.dj (Z' (N,K))).left == 0)=false:=by
    have:((N:Int) == 0)=false:=by simp;omega
    show (!D.down && true && (N:Int) == 0)=false
    rw [this];simp
   unfold aB.di;rw [b];rfl
  unfold aB.cT aB.begun;rw [e,Ko,h.down];refine ⟨rfl,?_⟩;show (if false=true then _ else if true=true then ({ D.dj (Z' (N,K)) with left:=cE ((N:Int)-1) }:aB) else _)=_
  rw [if_neg De0,if_pos rfl];have a:cE ((N:Int)-1)=((N-1:Nat):Int):=by simp only [cE,wrap64];omega
  rw [a];rfl
def xE (h:D.Calm) (d:j8 o):(D.dj o).flush=(2,D.fU (Jq o)):=by
 obtain ⟨a,b⟩:=FC h d;unfold aB.flush;rw [a,b,if_neg De0]
def zH (h:D.Calm) (f:pE o) (d:¬ j8 o):(D.dj o).flush=(0,D.aH.dj (nf o)):=by
 obtain ⟨a,b⟩:=Mi h f d;unfold aB.flush;rw [a,b,if_pos rfl,CM]
def xD (h:D.Calm) (g:j8 o) {a:Int} (f:D.has a) {l:List UInt8} (j:l.length=512):(D.dj o).write a l=(2,D.fU (Jq o)):=by
 obtain ⟨b,d⟩:=FC h g;unfold aB.write;rw [if_pos ⟨(Ah D o a).2 f,j⟩,b,d,if_neg De0]
def zD (h:D.Calm) (r:pE o) (g:¬ j8 o) {a:Int} (f:D.has a) {l:List UInt8} (j:l.length=512):(D.dj o).write a l=(0,({ D with cw:=cE (D.cw+1),wait:=D.wait++[(a,l)] }:aB).dj (nf o)):=by
 obtain ⟨b,d⟩:=Mi h r g;unfold aB.write;rw [if_pos ⟨(Ah D o a).2 f,j⟩,b,d,if_pos rfl,lV,RZ];cases nf o <;> rfl
end
end Go.SL
namespace Go.Proofs.Nn
open RowKit SL
section
variable {n P B:Nat} {Sp:List UInt8} {J:Jr} {D:aB} {has:Has} {L:Bl} {o:Ar}
def Bk (D:aB):D.dj none=D:=rfl
end
def Xv (has:Has) (id:Int):List UInt8:=(has id).getD (zs 480)
section
variable {n P B:Nat} {Sp:List UInt8} {J:Jr} {D E:aB} {has:Has} {L:Bl} {m:Nat} {K:List Int} {o:Ar}
def w0 (has:Has):Bl:=[((0:Int),Xv has 0)]
def IU (c:Int) (a b:Nat):iK (iK c a) b=iK c (a+b):=by
 induction b with
 | zero=>rfl
 | succ b d=>show cE (iK (iK c a) b+1)=cE (iK c (a+b)+1);rw [d]
def vV (h:j8 o):o≠none:=fun e=>by obtain ⟨K,a⟩:=h;rw [e] at a;cases a
def rN (o:Ar):Jq (nf o)=Jq o:=by cases o <;> rfl
def mq (e:o=none):nf o=none:=by rw [e];rfl
structure nu (o o':Ar):Prop where
 ok:pE o'
 none:o=none->o'=none
 K:Jq o'=Jq o
def nu.trans {a b c:Ar} (h:nu a b) (k:nu b c):nu a c:=⟨k.ok,fun e=>k.none (h.none e),k.K.trans h.K⟩
def nu.dec (h:pE o):nu o (nf o):=⟨h.dec,mq,rN o⟩
end
end Go.Proofs.Nn

/- Steps. -/
import Derived.Test.YtebfaobobccikaaGreatDoorSP45
import Derived.Test.YtebfaobobccikaaGreatDoorSP37
set_option linter.all false
set_option maxRecDepth 99999
set_option maxHeartbeats 0
open Go.SL
open Option renaming some->Z'
namespace Go.Proofs.Nn
open RowKit SL
def V5:Value:=.agg #[.int .u32 0,.int .u64 0,.int .u64 0,.int .i64 0,.int .i64 0,.slice none 0 0]
def LP (v:Value) (s:Option Js):ai:=match s with
 | none=>fact (v=V5)
 | some s=>ex fun g=>fact (v=s.v (.slice (Z' ⟨g,0,none⟩) s.at_.length s.at_.length))*pt g (.cells (ints s.at_) 3 (0,0))
theorem Th (n:Nat) (j:Nat):iY (zs n) j=0:=by
 induction j with
 | zero=>rfl
 | succ j a=>
  rw [iY,a]
  have:(zs n).getD j 0=0:=by
   unfold zs;rw [List.getD,List.getElem?_replicate]
   split <;> rfl
  rw [this];simp
theorem PV (n k:Nat):(zs n).drop k=zs (n-k):=by simp [zs]
theorem RS (t:Tg) (n:Int) (k:Nat) (h:k≠1):(t.set n k).ep=t.ep:=by
 unfold Tg.set;split <;> first|rfl|exact absurd rfl h
theorem QC (n:Nat) (k:Nat):(jm (zs n) k).ep=0:=by
 induction k with
 | zero=>rfl
 | succ k a=>
  rw [jm]
  by_cases h:k=1
  .subst h
   rw [PV,Th];rfl
  .rw [RS _ _ _ h];exact a
theorem Fm (n:Nat):cZ (zs n)=none:=by
 have h:=QC n 9;unfold cZ;generalize jm (zs n) 9=t at *;rw [if_neg];rintro ⟨a,_⟩;have:=(Mc a).1;omega
theorem Md (n:Nat) (h:n<=20000):(aC.fresh n).Ok:=⟨by simp [aC.fresh];omega,by simp [aC.fresh],by simp [aC.fresh],by simp [aC.fresh]⟩
end Go.Proofs.Nn
namespace Go.SL
theorem vJ {sq h:Int} {P:Nat}:∀ (L:List We) (s:Int × Int),(∀ x ∈ L,x.1.sq=sq->((x.2:Int)+(x.1.ct-x.1.ix))%(P:Int)=h/\0<=x.1.ix)->(s.1=h\/(s.2=-1/\∃ x ∈ L,x.1.sq=sq))->(L.foldl (RR sq P) s).1=h
 | [],s,_,j=>by
  rcases j with h|⟨_,x,r,_⟩
  .exact h
  .cases r
 | x :: L,s,g,j=>by
  rw [List.foldl_cons];have l:∀ y ∈ L,y.1.sq=sq->((y.2:Int)+(y.1.ct-y.1.ix))%(P:Int)=h/\0<=y.1.ix:=fun y a=>g y (by simp [a]);refine vJ L _ l ?_;unfold RR
  by_cases b:x.1.sq=sq/\s.2<x.1.ix
  .rw [if_pos b];exact .inl (g x (by simp) b.1).1
  .rw [if_neg b]
   rcases j with d|⟨d,y,a,f⟩
   .exact .inl d
   .rcases List.mem_cons.1 a with rfl|a
    .exact absurd ⟨f,by have:=(g y (by simp) f).2;omega⟩ b
    .exact .inr ⟨d,y,a,f⟩
abbrev TM:=Nat->Option Tg
structure Um (P:Nat) (T:TM) (q:Int) (at_:Int->Option Nat) (p:Nat) (t:Tg):Prop where
 sq:t.sq<=q
 fresh:∀ p' t',p'<P->T p'=some t'->t.ep<t'.ep->t.sq<t'.st
 live:∃ p' t',at_ t.id=some p'/\T p'=some t'/\(p'=p\/t.sq<t'.sq)
structure Xf (n P:Nat) (T:TM) (q:Int) (h p:Nat) (t:Tg):Prop where
 off:(p+P-h)%P<n
 Xn:t.sq=q+1\/∃ pw tw,pw<P/\T pw=some tw/\t.ep<tw.ep/\tw.st<=t.sq/\(p+P-pw)%P<n/\(p+P-h)%P<(p+P-pw)%P
structure Xh (P:Nat) (T:TM) (q:Int) (h:Nat) (at_:Int->Option Nat) (c:Nat):Prop where
 all:∀ i:Nat,i<c->∃ t,T ((h+P-c+i)%P)=some t/\t.sq=q/\t.ix=(i:Int)/\t.ct=(c:Int)/\Um P T q at_ ((h+P-c+i)%P) t
 one:∀ p t,p<P->T p=some t->Um P T q at_ p t->t.sq=q->∃ i:Nat,i<c/\p=(h+P-c+i)%P
structure Gx (n P:Nat) (T:TM) (q:Int) (h:Nat) (at_:Int->Option Nat):Prop where
 hP:h<P
 nP:n<=P
 q0:0<=q
 h0:q=0->h=0
 tag:∀ p t,p<P->T p=some t->t.ok=true/\t.fl=t.sq-1/\t.sq<=q+1/\t.id<n
 cg:∀ p t,p<P->T p=some t->Um P T q at_ p t\/Xf n P T q h p t
 live:∀ id p,at_ id=some p->p<P/\0<=id/\id<n/\∃ t,T p=some t/\t.id=id/\Um P T q at_ p t
 last:0<q->∃ c:Nat,0<c/\c<=n/\Xh P T q h at_ c
 nw:∀ e:Int,∃ c k:Int,0<=k/\k<c/\∀ p t,p<P->T p=some t->t.ep=e->t.sq=q+1->t.ct=c/\t.ix≠k
end Go.SL
namespace Go.Proofs.Nn
open SL
structure Lays (P:Nat) (T:TM) (L:List We):Prop where
 iff:∀ t p,(t,p) ∈ L↔p<P/\T p=some t
end Go.Proofs.Nn
namespace Go.SL
structure Wx (n P:Nat) (T:TM) (q:Int) (h:Nat) (at_:Int->Option Nat) (E S:Int):Prop where
 tr:Gx n P T q h at_
 ep:∀ p t,p<P->T p=some t->t.ep<=E/\(t.ep=E->t.st=S/\Um P T q at_ p t)
 st:∀ p t,p<P->T p=some t->Um P T q at_ p t->t.ep<E->t.sq<S
 S1:S<=q+1
theorem Gx.run {n P:Nat} {T:TM} {q:Int} {h:Nat} {at_:Int->Option Nat} (f:Gx n P T q h at_) {E:Int} (d:∀ p t,p<P->T p=Z' t->t.ep<E):Wx n P T q h at_ E (q+1):=
 ⟨f,fun p t a b=>⟨Int.le_of_lt (d p t a b),fun e=>absurd (d p t a b) (by omega)⟩,fun p t a b g _=>by have:=g.sq;omega,Int.le_refl _⟩
end Go.SL
namespace Go.Proofs.Nn
open RowKit SL
def Ab (P:Nat) (D:aC):TM:=fun p=>if p<P/\(D.cE ((p:Int)+1)).1=0 then (cZ (D.cE ((p:Int)+1)).2).map Prod.fst else none
def Qd (J:Jr):Int->Option Nat:=fun id=>(told J.T.ps id).map Int.toNat
structure JT (n:Nat) (J:Jr) (D:aC) (has:Has):Prop where
 inv:fY J D has
 jn:J.n=(n:Int)
 run:Wx n J.P (Ab J.P D) J.sq J.hd.toNat (Qd J) J.ep J.st
structure Sj (n P B:Nat) (Sp:List UInt8) (J:Jr) (D:aC) (has:Has):Prop where
 jt:JT n J D has
 bound:tD J
 jP:J.P=P
 sq:J.sq<=(B:Int)
 ep:J.ep<=(B:Int)
 sup:D.cE 0=(0,Sp)
end Go.Proofs.Nn
namespace Go.SL
open RowKit
abbrev Ar:=Option (Nat × List Int)
def aC.dD (D:aC) (o:Ar):aC:=match o with
 | none=>D
 | some (N,K)=>{ D with fo:=true,left:=(N:Int),bD:=K }
def nn (o:Ar):Ar:=o.map fun x=>(x.1-1,x.2)
def kE (o:Ar):Prop:=∃ K,o=Z' (0,K)
def IK (o:Ar):List Int:=match o with|some (_,K)=>K|none=>[]
def pS (o:Ar):Prop:=∀ N K,o=Z' (N,K)->N<=1000000/\K.length<=4611686018427387904
instance (o:Ar):Decidable (kE o):=match o with
 | none=>isFalse fun ⟨_,h⟩=>by cases h
 | some (0,K)=>isTrue ⟨K,rfl⟩
 | some (N+1,K)=>isFalse fun ⟨_,h⟩=>by injection h with h;injection h with h _;cases h
theorem Jm:pS none:=fun _ _ h=>by cases h
theorem pS.dec {o:Ar} (h:pS o):pS (nn o):=fun N K e=>by
 cases o with
 | none=>cases e
 | some x=>
  obtain ⟨M,b⟩:=x;injection e with e;injection e with d a
  have:=h M b rfl;simp only at d a;subst a;exact ⟨by omega,this.2⟩
section
variable {D:aC} {o:Ar}
theorem qY (D:aC) (o:Ar):(D.dD o).sec=D.sec:=by cases o <;> rfl
theorem mi (D:aC) (o:Ar):(D.dD o).wait=D.wait:=by cases o <;> rfl
theorem OE (D:aC) (o:Ar):(D.dD o).down=D.down:=by cases o <;> rfl
theorem SH (D:aC) (o:Ar):(D.dD o).cw=D.cw:=by cases o <;> rfl
theorem An (D:aC) (o:Ar) (a:Int):(D.dD o).has a↔D.has a:=by unfold aC.has;rw [qY]
theorem lF (h:D.Ok) (b:pS o):(D.dD o).Ok:=by
 refine ⟨by rw [qY];exact h.n,fun x a=>(An D o _).2 (h.wait x (by rw [mi] at a;exact a)),by rw [mi];exact h.many,?_⟩
 cases o with
 | none=>exact h.bD
 | some x=>exact (b x.1 x.2 rfl).2
theorem Cv (D:aC) (o:Ar) (x:Int × List UInt8):(D.dD o).done x=(D.done x).dD o:=by cases o <;> rfl
theorem Dq (o:Ar) (l:List (Int × List UInt8)):∀ D:aC,(D.dD o).bU l=(D.bU l).dD o:=by
 induction l with
 | nil=>intro D;rfl
 | cons x l a=>
  intro D;show aC.bU ((D.dD o).done x) l=_
  rw [Cv,a];rfl
theorem Oo (D:aC) (o:Ar) (f:Int) (x:Int × List UInt8):(D.dD o).tE f x=(D.tE f x).dD o:=by
 unfold aC.tE
 split
 .exact Cv D o x
 .split
  .cases o <;> rfl
  .rfl
theorem Kb (D:aC) (o:Ar) (K:List Int):∀ k,(D.dD o).eO K k=(D.eO K k).dD o:=by
 intro k
 induction k with
 | zero=>rfl
 | succ k a=>
  show (match (D.dD o).wait[k]? with|some p=>((D.dD o).eO K k).tE (K.getD k 0) p|none=>(D.dD o).eO K k)=(match D.wait[k]? with|some p=>(D.eO K k).tE (K.getD k 0) p|none=>D.eO K k).dD o
  rw [mi,a]
  cases D.wait[k]? with
  | none=>rfl
  | some p=>exact Oo _ _ _ _
theorem Ig (D:aC) (o:Ar) (K:List Int):(D.dD o).gg K=D.gg K:=by
 unfold aC.gg;rw [mi,Kb];cases o <;> rfl
theorem Dc (D:aC) (o:Ar):(D.dD o).aK=D.aK.dD o:=by
 have e:({ D.dD o with cf:=cG ((D.dD o).cf+1) }:aC)=({ D with cf:=cG (D.cf+1) }:aC).dD o:=by cases o <;> rfl
 have a:(D.dD o).aK={ (({ D.dD o with cf:=cG ((D.dD o).cf+1) }:aC)).bU (D.dD o).wait with wait:=[] }:=rfl;have b:D.aK={ (({ D with cf:=cG (D.cf+1) }:aC)).bU D.wait with wait:=[] }:=rfl;rw [a,b,e,mi,Dq];generalize (({ D with cf:=cG (D.cf+1) }:aC)).bU D.wait=E;cases o <;> rfl
theorem G1 (h:D.Calm) (b:kE o):(D.dD o).cS=2/\(D.dD o).begun=D.gg (IK o):=by
 obtain ⟨K,rfl⟩:=b
 have e:(D.dD (Z' (0,K))).dy=D.gg K:=by
  have a:(!(D.dD (Z' (0,K))).down && (D.dD (Z' (0,K))).fo && (D.dD (Z' (0,K))).left == 0)=true:=by
   show (!D.down && true && ((0:Nat):Int) == 0)=true
   rw [h.down];rfl
  unfold aC.dy;rw [if_pos a];exact Ig D _ K
 unfold aC.cS aC.begun;rw [e];exact ⟨rfl,rfl⟩
theorem MC (h:D.Calm) (f:pS o) (d:¬ kE o):(D.dD o).cS=0/\(D.dD o).begun=D.dD (nn o):=by
 cases o with
 | none=>exact ⟨h.cS,h.begun⟩
 | some x=>
  obtain ⟨N,K⟩:=x;have g:=(f N K rfl).1;have j:N≠0:=fun e=>d ⟨K,by rw [e]⟩
  have e:(D.dD (Z' (N,K))).dy=D.dD (Z' (N,K)):=by
   have b:(!(D.dD (Z' (N,K))).down && (D.dD (Z' (N,K))).fo && (D.dD (Z' (N,K))).left == 0)=false:=by
    have:((N:Int) == 0)=false:=by simp;omega
    show (!D.down && true && (N:Int) == 0)=false
    rw [this];simp
   unfold aC.dy;rw [b];rfl
  unfold aC.cS aC.begun;rw [e,OE,h.down];refine ⟨rfl,?_⟩;show (if false=true then _ else if true=true then ({ D.dD (Z' (N,K)) with left:=cG ((N:Int)-1) }:aC) else _)=_
  rw [if_neg (by decide),if_pos rfl];have a:cG ((N:Int)-1)=((N-1:Nat):Int):=by simp only [cG,wrap64];omega
  rw [a];rfl
theorem xU (h:D.Calm) (d:kE o):(D.dD o).flush=(2,D.gg (IK o)):=by
 obtain ⟨a,b⟩:=G1 h d;unfold aC.flush;rw [a,b,if_neg (by decide)]
theorem Ay (h:D.Calm) (f:pS o) (d:¬ kE o):(D.dD o).flush=(0,D.aK.dD (nn o)):=by
 obtain ⟨a,b⟩:=MC h f d;unfold aC.flush;rw [a,b,if_pos rfl,Dc]
theorem xN (h:D.Calm) (g:kE o) {a:Int} (f:D.has a) {l:List UInt8} (j:l.length=512):(D.dD o).write a l=(2,D.gg (IK o)):=by
 obtain ⟨b,d⟩:=G1 h g;unfold aC.write;rw [if_pos ⟨(An D o a).2 f,j⟩,b,d,if_neg (by decide)]
theorem Ai (h:D.Calm) (r:pS o) (g:¬ kE o) {a:Int} (f:D.has a) {l:List UInt8} (j:l.length=512):(D.dD o).write a l=(0,({ D with cw:=cG (D.cw+1),wait:=D.wait++[(a,l)] }:aC).dD (nn o)):=by
 obtain ⟨b,d⟩:=MC h r g;unfold aC.write;rw [if_pos ⟨(An D o a).2 f,j⟩,b,d,if_pos rfl,mi,SH];cases nn o <;> rfl
end
end Go.SL
namespace Go.Proofs.Nn
open RowKit SL
section
variable {n P B:Nat} {Sp:List UInt8} {J:Jr} {D:aC} {has:Has} {L:Bl} {o:Ar}
theorem Bw (D:aC):D.dD none=D:=rfl
end
def Xa (has:Has) (id:Int):List UInt8:=(has id).getD (zs 480)
section
variable {n P B:Nat} {Sp:List UInt8} {J:Jr} {D E:aC} {has:Has} {L:Bl} {m:Nat} {K:List Int} {o:Ar}
def w0 (has:Has):Bl:=[((0:Int),Xa has 0)]
theorem IC (c:Int) (a b:Nat):iT (iT c a) b=iT c (a+b):=by
 induction b with
 | zero=>rfl
 | succ b d=>show cG (iT (iT c a) b+1)=cG (iT c (a+b)+1);rw [d]
theorem xe (h:kE o):o≠none:=fun e=>by obtain ⟨K,a⟩:=h;rw [e] at a;cases a
theorem rW (o:Ar):IK (nn o)=IK o:=by cases o <;> rfl
theorem mS (e:o=none):nn o=none:=by rw [e];rfl
structure nG (o o':Ar):Prop where
 ok:pS o'
 none:o=none->o'=none
 K:IK o'=IK o
theorem nG.trans {a b c:Ar} (h:nG a b) (k:nG b c):nG a c:=⟨k.ok,fun e=>k.none (h.none e),k.K.trans h.K⟩
theorem nG.dec (h:pS o):nG o (nn o):=⟨h.dec,mS,rW o⟩
end
end Go.Proofs.Nn

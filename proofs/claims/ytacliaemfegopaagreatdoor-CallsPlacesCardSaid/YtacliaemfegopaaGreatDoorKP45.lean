/- Steps. -/
import Derived.Test.YtacliaemfegopaaGreatDoorKP44
import Derived.Test.YtacliaemfegopaaGreatDoorKP36
set_option linter.all false
set_option maxRecDepth 99999
set_option maxHeartbeats 0
open Go.SL
open Option renaming some->Z'
namespace Go.Proofs.Nn
open Go.RowKit Go.SL
def RL:Value:=.agg #[.int .u32 0,.int .u64 0,.int .u64 0,.int .i64 0,.int .i64 0,.slice none 0 0]
def Is (v:Value) (s:Option Js):ai:=match s with
 | none=>fact (v=RL)
 | some s=>ex fun g=>fact (v=s.v (.slice (Z' ⟨g,0,none⟩) s.at_.length s.at_.length))*pt g (.cells (ints s.at_) 3 (0,0))
theorem Pc (n:Nat) (j:Nat):ib (zs n) j=0:=by
 induction j with
 | zero=>rfl
 | succ j a=>
  rw [ib,a]
  have:(zs n).getD j 0=0:=by
   unfold zs;rw [List.getD,List.getElem?_replicate]
   split <;> rfl
  rw [this];simp
theorem M7 (n k:Nat):(zs n).drop k=zs (n-k):=by simp [zs]
theorem O4 (t:Tg) (n:Int) (k:Nat) (h:k≠1):(t.set n k).ep=t.ep:=by
 unfold Tg.set;split <;> first|rfl|exact absurd rfl h
theorem LO (n:Nat) (k:Nat):(il (zs n) k).ep=0:=by
 induction k with
 | zero=>rfl
 | succ k a=>
  rw [il]
  by_cases h:k=1
  .subst h
   rw [M7,Pc];rfl
  .rw [O4 _ _ _ h];exact a
theorem BE (n:Nat):cO (zs n)=none:=by
 have h:=LO n 9;unfold cO;generalize il (zs n) 9=t at *;rw [if_neg];rintro ⟨a,_⟩;have:=(IB a).1;omega
theorem KL (n:Nat) (h:n<=20000):(az.fresh n).Ok:=⟨by simp [az.fresh];omega,by simp [az.fresh],by simp [az.fresh],by simp [az.fresh]⟩
end Go.Proofs.Nn
namespace Go.SL
theorem uM {sq h:Int} {P:Nat}:∀ (L:List RB) (s:Int × Int),(∀ x ∈ L,x.1.sq=sq->((x.2:Int)+(x.1.ct-x.1.ix))%(P:Int)=h/\0<=x.1.ix)->(s.1=h\/(s.2=-1/\∃ x ∈ L,x.1.sq=sq))->(L.foldl (No sq P) s).1=h
 | [],s,_,j=>by
  rcases j with h|⟨_,x,r,_⟩
  .exact h
  .cases r
 | x :: L,s,g,j=>by
  rw [List.foldl_cons];have l:∀ y ∈ L,y.1.sq=sq->((y.2:Int)+(y.1.ct-y.1.ix))%(P:Int)=h/\0<=y.1.ix:=fun y a=>g y (by simp [a]);refine uM L _ l ?_;unfold No
  by_cases b:x.1.sq=sq/\s.2<x.1.ix
  .rw [if_pos b];exact .inl (g x (by simp) b.1).1
  .rw [if_neg b]
   rcases j with d|⟨d,y,a,f⟩
   .exact .inl d
   .rcases List.mem_cons.1 a with rfl|a
    .exact absurd ⟨f,by have:=(g y (by simp) f).2;omega⟩ b
    .exact .inr ⟨d,y,a,f⟩
abbrev TM:=Nat->Option Tg
structure PN (P:Nat) (T:TM) (q:Int) (at_:Int->Option Nat) (p:Nat) (t:Tg):Prop where
 sq:t.sq<=q
 fresh:∀ p' t',p'<P->T p'=some t'->t.ep<t'.ep->t.sq<t'.st
 live:∃ p' t',at_ t.id=some p'/\T p'=some t'/\(p'=p\/t.sq<t'.sq)
structure Sv (n P:Nat) (T:TM) (q:Int) (h p:Nat) (t:Tg):Prop where
 off:(p+P-h)%P<n
 Sz:t.sq=q+1\/∃ pw tw,pw<P/\T pw=some tw/\t.ep<tw.ep/\tw.st<=t.sq/\(p+P-pw)%P<n/\(p+P-h)%P<(p+P-pw)%P
structure Si (P:Nat) (T:TM) (q:Int) (h:Nat) (at_:Int->Option Nat) (c:Nat):Prop where
 all:∀ i:Nat,i<c->∃ t,T ((h+P-c+i)%P)=some t/\t.sq=q/\t.ix=(i:Int)/\t.ct=(c:Int)/\PN P T q at_ ((h+P-c+i)%P) t
 one:∀ p t,p<P->T p=some t->PN P T q at_ p t->t.sq=q->∃ i:Nat,i<c/\p=(h+P-c+i)%P
structure Dv (n P:Nat) (T:TM) (q:Int) (h:Nat) (at_:Int->Option Nat):Prop where
 hP:h<P
 nP:n<=P
 q0:0<=q
 h0:q=0->h=0
 tag:∀ p t,p<P->T p=some t->t.ok=true/\t.fl=t.sq-1/\t.sq<=q+1/\t.id<n
 cg:∀ p t,p<P->T p=some t->PN P T q at_ p t\/Sv n P T q h p t
 live:∀ id p,at_ id=some p->p<P/\0<=id/\id<n/\∃ t,T p=some t/\t.id=id/\PN P T q at_ p t
 last:0<q->∃ c:Nat,0<c/\c<=n/\Si P T q h at_ c
 nw:∀ e:Int,∃ c k:Int,0<=k/\k<c/\∀ p t,p<P->T p=some t->t.ep=e->t.sq=q+1->t.ct=c/\t.ix≠k
end Go.SL
namespace Go.Proofs.Nn
open Go.SL
structure Lays (P:Nat) (T:TM) (L:List RB):Prop where
 iff:∀ t p,(t,p) ∈ L↔p<P/\T p=some t
end Go.Proofs.Nn
namespace Go.SL
structure Rp (n P:Nat) (T:TM) (q:Int) (h:Nat) (at_:Int->Option Nat) (E S:Int):Prop where
 tr:Dv n P T q h at_
 ep:∀ p t,p<P->T p=some t->t.ep<=E/\(t.ep=E->t.st=S/\PN P T q at_ p t)
 st:∀ p t,p<P->T p=some t->PN P T q at_ p t->t.ep<E->t.sq<S
 S1:S<=q+1
theorem Dv.run {n P:Nat} {T:TM} {q:Int} {h:Nat} {at_:Int->Option Nat} (f:Dv n P T q h at_) {E:Int} (d:∀ p t,p<P->T p=Z' t->t.ep<E):Rp n P T q h at_ E (q+1):=
 ⟨f,fun p t a b=>⟨Int.le_of_lt (d p t a b),fun e=>absurd (d p t a b) (by omega)⟩,fun p t a b g _=>by have:=g.sq;omega,Int.le_refl _⟩
end Go.SL
namespace Go.Proofs.Nn
open Go.RowKit Go.SL
def xr (P:Nat) (D:az):TM:=fun p=>if p<P/\(D.bV ((p:Int)+1)).1=0 then (cO (D.bV ((p:Int)+1)).2).map Prod.fst else none
def MD (J:Jr):Int->Option Nat:=fun id=>(told J.T.ps id).map Int.toNat
structure JT (n:Nat) (J:Jr) (D:az) (has:Has):Prop where
 inv:fq J D has
 jn:J.n=(n:Int)
 run:Rp n J.P (xr J.P D) J.sq J.hd.toNat (MD J) J.ep J.st
structure Sj (n P B:Nat) (Sp:List UInt8) (J:Jr) (D:az) (has:Has):Prop where
 jt:JT n J D has
 bound:qQ J
 jP:J.P=P
 sq:J.sq<=(B:Int)
 ep:J.ep<=(B:Int)
 sup:D.bV 0=(0,Sp)
end Go.Proofs.Nn
namespace Go.SL
open Go.RowKit
abbrev Ar:=Option (Nat × List Int)
def az.cU (D:az) (o:Ar):az:=match o with
 | none=>D
 | some (N,K)=>{ D with eE:=true,left:=(N:Int),aZ:=K }
def lE (o:Ar):Ar:=o.map fun x=>(x.1-1,x.2)
def jm (o:Ar):Prop:=∃ K,o=Z' (0,K)
def FK (o:Ar):List Int:=match o with|some (_,K)=>K|none=>[]
def nF (o:Ar):Prop:=∀ N K,o=Z' (N,K)->N<=1000000/\K.length<=4611686018427387904
instance (o:Ar):Decidable (jm o):=match o with
 | none=>isFalse fun ⟨_,h⟩=>by cases h
 | some (0,K)=>isTrue ⟨K,rfl⟩
 | some (N+1,K)=>isFalse fun ⟨_,h⟩=>by injection h with h;injection h with h _;cases h
theorem Fa:nF none:=fun _ _ h=>by cases h
theorem nF.dec {o:Ar} (h:nF o):nF (lE o):=fun N K e=>by
 cases o with
 | none=>cases e
 | some x=>
  obtain ⟨M,b⟩:=x;injection e with e;injection e with d a
  have:=h M b rfl;simp only at d a;subst a;exact ⟨by omega,this.2⟩
section
variable {D:az} {o:Ar}
theorem pQ (D:az) (o:Ar):(D.cU o).sec=D.sec:=by cases o <;> rfl
theorem kN (D:az) (o:Ar):(D.cU o).wait=D.wait:=by cases o <;> rfl
theorem Gp (D:az) (o:Ar):(D.cU o).down=D.down:=by cases o <;> rfl
theorem N7 (D:az) (o:Ar):(D.cU o).cw=D.cw:=by cases o <;> rfl
theorem yg (D:az) (o:Ar) (a:Int):(D.cU o).has a↔D.has a:=by unfold az.has;rw [pQ]
theorem kn (h:D.Ok) (b:nF o):(D.cU o).Ok:=by
 refine ⟨by rw [pQ];exact h.n,fun x a=>(yg D o _).2 (h.wait x (by rw [kN] at a;exact a)),by rw [kN];exact h.many,?_⟩
 cases o with
 | none=>exact h.aZ
 | some x=>exact (b x.1 x.2 rfl).2
theorem zo (D:az) (o:Ar) (x:Int × List UInt8):(D.cU o).done x=(D.done x).cU o:=by cases o <;> rfl
theorem y4 (o:Ar) (l:List (Int × List UInt8)):∀ D:az,(D.cU o).bF l=(D.bF l).cU o:=by
 induction l with
 | nil=>intro D;rfl
 | cons x l a=>
  intro D;show az.bF ((D.cU o).done x) l=_
  rw [zo,a];rfl
theorem IQ (D:az) (o:Ar) (f:Int) (x:Int × List UInt8):(D.cU o).qR f x=(D.qR f x).cU o:=by
 unfold az.qR
 split
 .exact zo D o x
 .split
  .cases o <;> rfl
  .rfl
theorem E6 (D:az) (o:Ar) (K:List Int):∀ k,(D.cU o).dY K k=(D.dY K k).cU o:=by
 intro k
 induction k with
 | zero=>rfl
 | succ k a=>
  show (match (D.cU o).wait[k]? with|some p=>((D.cU o).dY K k).qR (K.getD k 0) p|none=>(D.cU o).dY K k)=(match D.wait[k]? with|some p=>(D.dY K k).qR (K.getD k 0) p|none=>D.dY K k).cU o
  rw [kN,a]
  cases D.wait[k]? with
  | none=>rfl
  | some p=>exact IQ _ _ _ _
theorem Eu (D:az) (o:Ar) (K:List Int):(D.cU o).fy K=D.fy K:=by
 unfold az.fy;rw [kN,E6];cases o <;> rfl
theorem zg (D:az) (o:Ar):(D.cU o).aF=D.aF.cU o:=by
 have e:({ D.cU o with cf:=bY ((D.cU o).cf+1) }:az)=({ D with cf:=bY (D.cf+1) }:az).cU o:=by cases o <;> rfl
 have a:(D.cU o).aF={ (({ D.cU o with cf:=bY ((D.cU o).cf+1) }:az)).bF (D.cU o).wait with wait:=[] }:=rfl;have b:D.aF={ (({ D with cf:=bY (D.cf+1) }:az)).bF D.wait with wait:=[] }:=rfl;rw [a,b,e,kN,y4];generalize (({ D with cf:=bY (D.cf+1) }:az)).bF D.wait=E;cases o <;> rfl
theorem C2 (h:D.Calm) (b:jm o):(D.cU o).cF=2/\(D.cU o).begun=D.fy (FK o):=by
 obtain ⟨K,rfl⟩:=b
 have e:(D.cU (Z' (0,K))).cW=D.fy K:=by
  have a:(!(D.cU (Z' (0,K))).down && (D.cU (Z' (0,K))).eE && (D.cU (Z' (0,K))).left == 0)=true:=by
   show (!D.down && true && ((0:Nat):Int) == 0)=true
   rw [h.down];rfl
  unfold az.cW;rw [if_pos a];exact Eu D _ K
 unfold az.cF az.begun;rw [e];exact ⟨rfl,rfl⟩
theorem KT (h:D.Calm) (f:nF o) (d:¬ jm o):(D.cU o).cF=0/\(D.cU o).begun=D.cU (lE o):=by
 cases o with
 | none=>exact ⟨h.cF,h.begun⟩
 | some x=>
  obtain ⟨N,K⟩:=x;have g:=(f N K rfl).1;have j:N≠0:=fun e=>d ⟨K,by rw [e]⟩
  have e:(D.cU (Z' (N,K))).cW=D.cU (Z' (N,K)):=by
   have b:(!(D.cU (Z' (N,K))).down && (D.cU (Z' (N,K))).eE && (D.cU (Z' (N,K))).left == 0)=false:=by
    have:((N:Int) == 0)=false:=by simp;omega
    show (!D.down && true && (N:Int) == 0)=false
    rw [this];simp
   unfold az.cW;rw [b];rfl
  unfold az.cF az.begun;rw [e,Gp,h.down];refine ⟨rfl,?_⟩;show (if false=true then _ else if true=true then ({ D.cU (Z' (N,K)) with left:=bY ((N:Int)-1) }:az) else _)=_
  rw [if_neg (by decide),if_pos rfl];have a:bY ((N:Int)-1)=((N-1:Nat):Int):=by simp only [bY,wrap64];omega
  rw [a];rfl
theorem vg (h:D.Calm) (d:jm o):(D.cU o).flush=(2,D.fy (FK o)):=by
 obtain ⟨a,b⟩:=C2 h d;unfold az.flush;rw [a,b,if_neg (by decide)]
theorem xx (h:D.Calm) (f:nF o) (d:¬ jm o):(D.cU o).flush=(0,D.aF.cU (lE o)):=by
 obtain ⟨a,b⟩:=KT h f d;unfold az.flush;rw [a,b,if_pos rfl,zg]
theorem uP (h:D.Calm) (g:jm o) {a:Int} (f:D.has a) {l:List UInt8} (j:l.length=512):(D.cU o).write a l=(2,D.fy (FK o)):=by
 obtain ⟨b,d⟩:=C2 h g;unfold az.write;rw [if_pos ⟨(yg D o a).2 f,j⟩,b,d,if_neg (by decide)]
theorem xT (h:D.Calm) (r:nF o) (g:¬ jm o) {a:Int} (f:D.has a) {l:List UInt8} (j:l.length=512):(D.cU o).write a l=(0,({ D with cw:=bY (D.cw+1),wait:=D.wait++[(a,l)] }:az).cU (lE o)):=by
 obtain ⟨b,d⟩:=KT h r g;unfold az.write;rw [if_pos ⟨(yg D o a).2 f,j⟩,b,d,if_pos rfl,kN,N7];cases lE o <;> rfl
end
end Go.SL
namespace Go.Proofs.Nn
open Go.RowKit Go.SL
section
variable {n P B:Nat} {Sp:List UInt8} {J:Jr} {D:az} {has:Has} {L:Bl} {o:Ar}
theorem An (D:az):D.cU none=D:=rfl
end
def Sx (has:Has) (id:Int):List UInt8:=(has id).getD (zs 480)
section
variable {n P B:Nat} {Sp:List UInt8} {J:Jr} {D E:az} {has:Has} {L:Bl} {m:Nat} {K:List Int} {o:Ar}
def w0 (has:Has):Bl:=[((0:Int),Sx has 0)]
theorem Fp (c:Int) (a b:Nat):gZ (gZ c a) b=gZ c (a+b):=by
 induction b with
 | zero=>rfl
 | succ b d=>show bY (gZ (gZ c a) b+1)=bY (gZ c (a+b)+1);rw [d]
theorem sG (h:jm o):o≠none:=fun e=>by obtain ⟨K,a⟩:=h;rw [e] at a;cases a
theorem pC (o:Ar):FK (lE o)=FK o:=by cases o <;> rfl
theorem ld (e:o=none):lE o=none:=by rw [e];rfl
structure lN (o o':Ar):Prop where
 ok:nF o'
 none:o=none->o'=none
 K:FK o'=FK o
theorem lN.trans {a b c:Ar} (h:lN a b) (k:lN b c):lN a c:=⟨k.ok,fun e=>k.none (h.none e),k.K.trans h.K⟩
theorem lN.dec (h:nF o):lN o (lE o):=⟨h.dec,ld,pC o⟩
end
end Go.Proofs.Nn

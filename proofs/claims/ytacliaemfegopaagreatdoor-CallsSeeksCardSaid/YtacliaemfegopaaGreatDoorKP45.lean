/- Steps. -/
import Derived.Test.YtacliaemfegopaaGreatDoorKP44
import Derived.Test.YtacliaemfegopaaGreatDoorKP36
set_option linter.unusedVariables false
set_option linter.unusedSimpArgs false
set_option maxRecDepth 100000
set_option maxHeartbeats 40000000
open Go.Proofs Go.SL
namespace Go.Nn
open Go.RowKit Go.SL
def Q8:Value:=.agg #[.int .u32 0,.int .u64 0,.int .u64 0,.int .i64 0,.int .i64 0,.slice none 0 0]
def ID (v:Value) (s:Option Js):ah:=match s with
 | none=>fact (v=Q8)
 | some s=>ex fun g=>fact (v=s.v (.slice (some ⟨g,0,none⟩) s.at_.length s.at_.length))*pt g (.cells (ints s.at_) 3 (0,0))
theorem N4 (n:Nat) (j:Nat):ia (zs n) j=0:=by
 induction j with
 | zero=>rfl
 | succ j ih=>
  rw [ia,ih]
  have:(zs n).getD j 0=0:=by
   unfold zs;rw [List.getD,List.getElem?_replicate]
   split <;> rfl
  rw [this];simp
theorem Lg (n k:Nat):(zs n).drop k=zs (n-k):=by simp [zs]
theorem OW (t:Tg) (n:Int) (k:Nat) (h:k≠1):(t.set n k).ep=t.ep:=by
 unfold Tg.set;split <;> first|rfl|exact absurd rfl h
theorem Mu (n:Nat) (k:Nat):(iu (zs n) k).ep=0:=by
 induction k with
 | zero=>rfl
 | succ k ih=>
  rw [iu]
  by_cases h:k=1
  ·subst h
   rw [Lg,N4];rfl
  ·rw [OW _ _ _ h];exact ih
theorem BY (n:Nat):cK (zs n)=none:=by
 have h:=Mu n 9;unfold cK;generalize iu (zs n) 9=t at *;rw [if_neg];rintro ⟨h1,_⟩;have:=(IN h1).1;omega
theorem Iy (n:Nat) (h:n≤20000):(ay.fresh n).Ok:=⟨by simp [ay.fresh];omega,by simp [ay.fresh],by simp [ay.fresh],by simp [ay.fresh]⟩
end Go.Nn
namespace Go.SL
theorem uj {sq h:Int} {P:Nat}:∀ (L:List QX) (s:Int × Int),(∀ x ∈ L,x.1.sq=sq→((x.2:Int)+(x.1.ct-x.1.ix))%(P:Int)=h∧0≤x.1.ix)→(s.1=h∨(s.2=-1∧∃ x ∈ L,x.1.sq=sq))→(L.foldl (Na sq P) s).1=h
 | [],s,_,hs=>by
  rcases hs with h|⟨_,x,hx,_⟩
  ·exact h
  ·cases hx
 | x :: L,s,hL,hs=>by
  rw [List.foldl_cons];have hL':∀ y ∈ L,y.1.sq=sq→((y.2:Int)+(y.1.ct-y.1.ix))%(P:Int)=h∧0≤y.1.ix:=fun y hy=>hL y (by simp [hy]);refine uj L _ hL' ?_;unfold Na
  by_cases hc:x.1.sq=sq∧s.2<x.1.ix
  ·rw [if_pos hc];exact .inl (hL x (by simp) hc.1).1
  ·rw [if_neg hc]
   rcases hs with h1|⟨h1,y,hy,h2⟩
   ·exact .inl h1
   ·rcases List.mem_cons.1 hy with rfl|hy
    ·exact absurd ⟨h2,by have:=(hL y (by simp) h2).2;omega⟩ hc
    ·exact .inr ⟨h1,y,hy,h2⟩
abbrev TM:=Nat→Option Tg
structure Pe (P:Nat) (T:TM) (q:Int) (at_:Int→Option Nat) (p:Nat) (t:Tg):Prop where
 sq:t.sq≤q
 fresh:∀ p' t',p'<P→T p'=some t'→t.ep<t'.ep→t.sq<t'.st
 live:∃ p' t',at_ t.id=some p'∧T p'=some t'∧(p'=p∨t.sq<t'.sq)
structure Rv (n P:Nat) (T:TM) (q:Int) (h p:Nat) (t:Tg):Prop where
 off:(p+P-h)%P<n
 wit:t.sq=q+1∨∃ pw tw,pw<P∧T pw=some tw∧t.ep<tw.ep∧tw.st≤t.sq∧(p+P-pw)%P<n∧(p+P-h)%P<(p+P-pw)%P
structure RG (P:Nat) (T:TM) (q:Int) (h:Nat) (at_:Int→Option Nat) (c:Nat):Prop where
 all:∀ i:Nat,i<c→∃ t,T ((h+P-c+i)%P)=some t∧t.sq=q∧t.ix=(i:Int)∧t.ct=(c:Int)∧Pe P T q at_ ((h+P-c+i)%P) t
 one:∀ p t,p<P→T p=some t→Pe P T q at_ p t→t.sq=q→∃ i:Nat,i<c∧p=(h+P-c+i)%P
structure Cp (n P:Nat) (T:TM) (q:Int) (h:Nat) (at_:Int→Option Nat):Prop where
 hP:h<P
 nP:n≤P
 q0:0≤q
 h0:q=0→h=0
 tag:∀ p t,p<P→T p=some t→t.ok=true∧t.fl=t.sq-1∧t.sq≤q+1∧t.id<n
 cg:∀ p t,p<P→T p=some t→Pe P T q at_ p t∨Rv n P T q h p t
 live:∀ id p,at_ id=some p→p<P∧0≤id∧id<n∧∃ t,T p=some t∧t.id=id∧Pe P T q at_ p t
 last:0<q→∃ c:Nat,0<c∧c≤n∧RG P T q h at_ c
 nw:∀ e:Int,∃ c k:Int,0≤k∧k<c∧∀ p t,p<P→T p=some t→t.ep=e→t.sq=q+1→t.ct=c∧t.ix≠k
end Go.SL
namespace Go.Nn
open Go.SL
structure Lays (P:Nat) (T:TM) (L:List QX):Prop where
 iff:∀ t p,(t,p) ∈ L↔p<P∧T p=some t
end Go.Nn
namespace Go.SL
structure QU (n P:Nat) (T:TM) (q:Int) (h:Nat) (at_:Int→Option Nat) (E S:Int):Prop where
 tr:Cp n P T q h at_
 ep:∀ p t,p<P→T p=some t→t.ep≤E∧(t.ep=E→t.st=S∧Pe P T q at_ p t)
 st:∀ p t,p<P→T p=some t→Pe P T q at_ p t→t.ep<E→t.sq<S
 S1:S≤q+1
theorem Cp.run {n P:Nat} {T:TM} {q:Int} {h:Nat} {at_:Int→Option Nat} (hT:Cp n P T q h at_) {E:Int} (hE:∀ p t,p<P→T p=some t→t.ep<E):QU n P T q h at_ E (q+1):=
 ⟨hT,fun p t hp ht=>⟨Int.le_of_lt (hE p t hp ht),fun e=>absurd (hE p t hp ht) (by omega)⟩,fun p t hp ht hc _=>by have:=hc.sq;omega,Int.le_refl _⟩
end Go.SL
namespace Go.Nn
open Go.RowKit Go.SL
def wG (P:Nat) (D:ay):TM:=fun p=>if p<P∧(D.bT ((p:Int)+1)).1=0 then (cK (D.bT ((p:Int)+1)).2).map Prod.fst else none
def KZ (J:Jr):Int→Option Nat:=fun id=>(told J.T.ps id).map Int.toNat
structure JT (n:Nat) (J:Jr) (D:ay) (has:Has):Prop where
 inv:fg J D has
 jn:J.n=(n:Int)
 run:QU n J.P (wG J.P D) J.sq J.hd.toNat (KZ J) J.ep J.st
structure Sj (n P B:Nat) (Sp:List UInt8) (J:Jr) (D:ay) (has:Has):Prop where
 jt:JT n J D has
 bound:qh J
 jP:J.P=P
 sq:J.sq≤(B:Int)
 ep:J.ep≤(B:Int)
 sup:D.bT 0=(0,Sp)
end Go.Nn
namespace Go.SL
open Go.RowKit
abbrev Ar:=Option (Nat × List Int)
def ay.cR (D:ay) (o:Ar):ay:=match o with
 | none=>D
 | some (N,K)=>{ D with armed:=true,left:=(N:Int),aX:=K }
def lB (o:Ar):Ar:=o.map fun x=>(x.1-1,x.2)
def jo (o:Ar):Prop:=∃ K,o=some (0,K)
def E0 (o:Ar):List Int:=match o with|some (_,K)=>K|none=>[]
def nz (o:Ar):Prop:=∀ N K,o=some (N,K)→N≤1000000∧K.length≤4611686018427387904
instance (o:Ar):Decidable (jo o):=match o with
 | none=>isFalse fun ⟨_,h⟩=>by cases h
 | some (0,K)=>isTrue ⟨K,rfl⟩
 | some (N+1,K)=>isFalse fun ⟨_,h⟩=>by injection h with h;injection h with h _;cases h
theorem Du:nz none:=fun _ _ h=>by cases h
theorem nz.dec {o:Ar} (h:nz o):nz (lB o):=fun N K e=>by
 cases o with
 | none=>cases e
 | some x=>
  obtain ⟨M,K'⟩:=x;injection e with e;injection e with e1 e2
  have:=h M K' rfl;simp only at e1 e2;subst e2;exact ⟨by omega,this.2⟩
section
variable {D:ay} {o:Ar}
theorem px (D:ay) (o:Ar):(D.cR o).sec=D.sec:=by cases o <;> rfl
theorem kE (D:ay) (o:Ar):(D.cR o).wait=D.wait:=by cases o <;> rfl
theorem Ku (D:ay) (o:Ar):(D.cR o).down=D.down:=by cases o <;> rfl
theorem NR (D:ay) (o:Ar):(D.cR o).cw=D.cw:=by cases o <;> rfl
theorem xN (D:ay) (o:Ar) (a:Int):(D.cR o).has a↔D.has a:=by unfold ay.has;rw [px]
theorem jW (h:D.Ok) (ho:nz o):(D.cR o).Ok:=by
 refine ⟨by rw [px];exact h.n,fun x hx=>(xN D o _).2 (h.wait x (by rw [kE] at hx;exact hx)),by rw [kE];exact h.many,?_⟩
 cases o with
 | none=>exact h.aX
 | some x=>exact (ho x.1 x.2 rfl).2
theorem yP (D:ay) (o:Ar) (x:Int × List UInt8):(D.cR o).done x=(D.done x).cR o:=by cases o <;> rfl
theorem yi (o:Ar) (l:List (Int × List UInt8)):∀ D:ay,(D.cR o).bC l=(D.bC l).cR o:=by
 induction l with
 | nil=>intro D;rfl
 | cons x l ih=>
  intro D;show ay.bC ((D.cR o).done x) l=_
  rw [yP,ih];rfl
theorem J5 (D:ay) (o:Ar) (f:Int) (x:Int × List UInt8):(D.cR o).qi f x=(D.qi f x).cR o:=by
 unfold ay.qi
 split
 ·exact yP D o x
 ·split
  ·cases o <;> rfl
  ·rfl
theorem Dw (D:ay) (o:Ar) (K:List Int):∀ k,(D.cR o).dU K k=(D.dU K k).cR o:=by
 intro k
 induction k with
 | zero=>rfl
 | succ k ih=>
  show (match (D.cR o).wait[k]? with|some p=>((D.cR o).dU K k).qi (K.getD k 0) p|none=>(D.cR o).dU K k)=(match D.wait[k]? with|some p=>(D.dU K k).qi (K.getD k 0) p|none=>D.dU K k).cR o
  rw [kE,ih]
  cases D.wait[k]? with
  | none=>rfl
  | some p=>exact J5 _ _ _ _
theorem DP (D:ay) (o:Ar) (K:List Int):(D.cR o).fm K=D.fm K:=by
 unfold ay.fm;rw [kE,Dw];cases o <;> rfl
theorem zC (D:ay) (o:Ar):(D.cR o).aE=D.aE.cR o:=by
 have e:({ D.cR o with cf:=bU ((D.cR o).cf+1) }:ay)=({ D with cf:=bU (D.cf+1) }:ay).cR o:=by cases o <;> rfl
 have e2:(D.cR o).aE={ (({ D.cR o with cf:=bU ((D.cR o).cf+1) }:ay)).bC (D.cR o).wait with wait:=[] }:=rfl;have e3:D.aE={ (({ D with cf:=bU (D.cf+1) }:ay)).bC D.wait with wait:=[] }:=rfl;rw [e2,e3,e,kE,yi];generalize (({ D with cf:=bU (D.cf+1) }:ay)).bC D.wait=E;cases o <;> rfl
theorem CG (h:D.Calm) (hh:jo o):(D.cR o).cD=2∧(D.cR o).begun=D.fm (E0 o):=by
 obtain ⟨K,rfl⟩:=hh
 have e:(D.cR (some (0,K))).cV=D.fm K:=by
  have hc:(!(D.cR (some (0,K))).down && (D.cR (some (0,K))).armed && (D.cR (some (0,K))).left == 0)=true:=by
   show (!D.down && true && ((0:Nat):Int) == 0)=true
   rw [h.down];rfl
  unfold ay.cV;rw [if_pos hc];exact DP D _ K
 unfold ay.cD ay.begun;rw [e];exact ⟨rfl,rfl⟩
theorem Im (h:D.Calm) (ho:nz o) (hh:¬ jo o):(D.cR o).cD=0∧(D.cR o).begun=D.cR (lB o):=by
 cases o with
 | none=>exact ⟨h.cD,h.begun⟩
 | some x=>
  obtain ⟨N,K⟩:=x;have hN:=(ho N K rfl).1;have hN0:N≠0:=fun e=>hh ⟨K,by rw [e]⟩
  have e:(D.cR (some (N,K))).cV=D.cR (some (N,K)):=by
   have hc:(!(D.cR (some (N,K))).down && (D.cR (some (N,K))).armed && (D.cR (some (N,K))).left == 0)=false:=by
    have:((N:Int) == 0)=false:=by simp;omega
    show (!D.down && true && (N:Int) == 0)=false
    rw [this];simp
   unfold ay.cV;rw [hc];rfl
  unfold ay.cD ay.begun;rw [e,Ku,h.down];refine ⟨rfl,?_⟩;show (if false=true then _ else if true=true then ({ D.cR (some (N,K)) with left:=bU ((N:Int)-1) }:ay) else _)=_
  rw [if_neg (by decide),if_pos rfl];have e2:bU ((N:Int)-1)=((N-1:Nat):Int):=by simp only [bU,wrap64];omega
  rw [e2];rfl
theorem uJ (h:D.Calm) (hh:jo o):(D.cR o).flush=(2,D.fm (E0 o)):=by
 obtain ⟨e1,e2⟩:=CG h hh;unfold ay.flush;rw [e1,e2,if_neg (by decide)]
theorem xn (h:D.Calm) (ho:nz o) (hh:¬ jo o):(D.cR o).flush=(0,D.aE.cR (lB o)):=by
 obtain ⟨e1,e2⟩:=Im h ho hh;unfold ay.flush;rw [e1,e2,if_pos rfl,zC]
theorem uH (h:D.Calm) (hh:jo o) {a:Int} (ha:D.has a) {l:List UInt8} (hl:l.length=512):(D.cR o).write a l=(2,D.fm (E0 o)):=by
 obtain ⟨e1,e2⟩:=CG h hh;unfold ay.write;rw [if_pos ⟨(xN D o a).2 ha,hl⟩,e1,e2,if_neg (by decide)]
theorem wF (h:D.Calm) (ho:nz o) (hh:¬ jo o) {a:Int} (ha:D.has a) {l:List UInt8} (hl:l.length=512):(D.cR o).write a l=(0,({ D with cw:=bU (D.cw+1),wait:=D.wait++[(a,l)] }:ay).cR (lB o)):=by
 obtain ⟨e1,e2⟩:=Im h ho hh;unfold ay.write;rw [if_pos ⟨(xN D o a).2 ha,hl⟩,e1,e2,if_pos rfl,kE,NR];cases lB o <;> rfl
end
end Go.SL
namespace Go.Nn
open Go.RowKit Go.SL
section
variable {n P B:Nat} {Sp:List UInt8} {J:Jr} {D:ay} {has:Has} {L:Bl} {o:Ar}
theorem Ac (D:ay):D.cR none=D:=rfl
end
def RF (has:Has) (id:Int):List UInt8:=(has id).getD (zs 480)
section
variable {n P B:Nat} {Sp:List UInt8} {J:Jr} {D E:ay} {has:Has} {L:Bl} {m:Nat} {K:List Int} {o:Ar}
def w0 (has:Has):Bl:=[((0:Int),RF has 0)]
theorem EL (c:Int) (a b:Nat):gV (gV c a) b=gV c (a+b):=by
 induction b with
 | zero=>rfl
 | succ b ih=>show bU (gV (gV c a) b+1)=bU (gV c (a+b)+1);rw [ih]
theorem ss (h:jo o):o≠none:=fun e=>by obtain ⟨K,hK⟩:=h;rw [e] at hK;cases hK
theorem pC (o:Ar):E0 (lB o)=E0 o:=by cases o <;> rfl
theorem lh (e:o=none):lB o=none:=by rw [e];rfl
structure lI (o o':Ar):Prop where
 ok:nz o'
 none:o=none→o'=none
 K:E0 o'=E0 o
theorem lI.trans {a b c:Ar} (h:lI a b) (k:lI b c):lI a c:=⟨k.ok,fun e=>k.none (h.none e),k.K.trans h.K⟩
theorem lI.dec (h:nz o):lI o (lB o):=⟨h.dec,lh,pC o⟩
end
end Go.Nn

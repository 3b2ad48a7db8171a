/- Steps. -/
import Derived.Test.YtdickhgiahcnaaaGreatDoorNP28
import Derived.Lib.Bytealg
set_option linter.all false
set_option maxRecDepth 99999
set_option maxHeartbeats 0
open Go.SL
open Go.Value renaming int->Z,slice->S,string->Y
open Go.IntKind renaming i64->X
open Go.Ending renaming returned->Y'
open Go renaming World->T,Value->Q
open Go.Proofs.Tryz renaming prog->O
open Option renaming some->W,none->V
open Bool renaming true->Z',false->P
open Go.SL renaming Om0->U,Nm->N
open List renaming length_append->A3,getElem?_append_right->B3,append_nil->D8,length_cons->D7,length_singleton->D6,eq_nil_of_length_eq_zero->D4,length_take->E5,append_assoc->G3,nil_append->H4,take_append_drop->H3,set_append_right->J4,set_cons_succ->J3,getElem?_eq_getElem->K9,concat_eq_append->K8,length_drop->K7,getElem?_append_left->K6,getElem_map->K4,eq_nil_or_concat->K3,length_nil->L8,getElem_of_mem->O4
open Nat renaming le_refl->D9,sub_self->D3,lt_irrefl->K5,add_sub_cancel->L5
open List.Perm renaming append_left->J7,refl->L6
open Array renaming size_setIfInBounds->N4
namespace Go.SL
open RowKit
structure Ord {α:Type} (lt:α->α->Bool):Prop where
 Q6:∀ x y,lt x y=true->lt y x=false
 tr:∀ x y z,lt y x=false->lt z y=false->lt z x=false
def eJ {α:Type} (lt:α->α->Bool) (L:List α):Prop:=L.Pairwise fun x y=>lt y x=P
section
variable {α:Type} {lt:α->α->Bool}
def eJ.nil:eJ lt []:=List.Pairwise.nil
def eJ.one (x:α):eJ lt [x]:=List.pairwise_singleton _ _
def eJ.app {A B:List α}:eJ lt (A++B)↔eJ lt A/\eJ lt B/\∀ x ∈ A,∀ y ∈ B,lt y x=P:=List.pairwise_append
def eJ.cons {x:α} {B:List α}:eJ lt (x :: B)↔(∀ y ∈ B,lt y x=P)/\eJ lt B:=List.pairwise_cons
def eJ.last (d:Ord lt) {A:List α} {z x:α} (h:eJ lt (A++[z])) (e:x ∈ A++[z]):lt z x=P:=by
 rcases List.mem_append.1 e with a|a
 .exact (eJ.app.1 h).2.2 x a z (List.mem_singleton_self z)
 .rw [List.mem_singleton.1 a]
  cases c:lt z z with
  | false=>rfl
  | true=>have b:=d.Q6 z z c;rw [c] at b;cases b
def eJ.head (d:Ord lt) {B:List α} {z x:α} (h:eJ lt (z :: B)) (e:x ∈ z :: B):lt x z=P:=by
 rcases List.mem_cons.1 e with a|a
 .rw [a]
  cases c:lt z z with
  | false=>rfl
  | true=>have b:=d.Q6 z z c;rw [c] at b;cases b
 .exact (eJ.cons.1 h).1 x a
def eJ.NN (a:Ord lt) {A B:List α} (f:eJ lt A) (m:eJ lt B) (h:∀ c z y d,A=c++[z]->B=y :: d->lt y z=P):∀ x ∈ A,∀ y ∈ B,lt y x=P:=by
 intro x e y hy;rcases K3 A with rfl|⟨c,z,rfl⟩
 .cases e
 .cases B with
  | nil=>cases hy
  | cons b d=>
   rw [K8] at e f;have g:=f.last a e;have k:=m.head a hy;have l:=h c z b d (K8 ..) rfl;exact a.tr x b y (a.tr x z b g l) k
def eJ.join (e:Ord lt) {A B:List α} (a:eJ lt A) (b:eJ lt B) (h:∀ c z y d,A=c++[z]->B=y :: d->lt y z=P):eJ lt (A++B):=
 eJ.app.2 ⟨a,b,eJ.NN e a b h⟩
def eJ.insert (d:Ord lt) {A B:List α} {u:α} (h:eJ lt (A++B)) (k:∀ c z,A=c++[z]->lt u z=P) (l:∀ y a,B=y :: a->lt y u=P):eJ lt (A++u :: B):=by
 obtain ⟨m,f,n⟩:=eJ.app.1 h;refine eJ.join d m (eJ.cons.2 ⟨fun y hy=>?_,f⟩) fun c z y a g e=>?_
 .cases B with
  | nil=>cases hy
  | cons b a=>exact d.tr u b y (l b a rfl) (f.head d hy)
 .simp only [List.cons.injEq] at e
  rw [<- e.1];exact k c z g
def eJ.RC (d:Ord lt) {U1 U2 V1 V2 e f:List α} (o:eJ lt (U1++U2)) (s:eJ lt (V1++V2)) (m:∀ b z y c,U1=b++[z]->V2=y :: c->lt y z=P)
  (n:∀ b z y c,V1=b++[z]->U2=y :: c->lt z y=Z') (E:eJ lt e) (G:eJ lt f) (C:e.Perm (U1++V1)) (D:f.Perm (U2++V2)):eJ lt (e++f):=by
 obtain ⟨p,q,r⟩:=eJ.app.1 o;obtain ⟨t,u,B⟩:=eJ.app.1 s;have g:=eJ.NN d p u m;have h:=eJ.NN d t q fun b z y c k l=>d.Q6 _ _ (n b z y c k l);refine eJ.app.2 ⟨E,G,fun x a y hy=>?_⟩;rcases List.mem_append.1 (C.mem_iff.1 a) with a|a <;> rcases List.mem_append.1 (D.mem_iff.1 hy) with hy|hy
 .exact r x a y hy
 .exact g x a y hy
 .exact h x a y hy
 .exact B x a y hy
end
def jw (x y:aL):Bool:=decide (Lib.compareBytes x.nm y.nm<0)
def sQ:∀ a b:List UInt8,Lib.compareBytes a b=- Lib.compareBytes b a
 | [],[]=>rfl
 | [],_ :: _=>rfl
 | _ :: _,[]=>rfl
 | a :: d,b :: bs=>by
  unfold Lib.compareBytes
  by_cases h:a<b
  .have c:¬ b<a:=fun e=>absurd (UInt8.lt_trans h e) (UInt8.lt_irrefl a)
   rw [if_pos h,if_neg c,if_pos h]
  .rw [if_neg h]
   by_cases c:b<a
   .rw [if_pos c,if_pos c];rfl
   .rw [if_neg c,if_neg c,if_neg h];exact sQ d bs
def wS:∀ a b:List UInt8,Lib.compareBytes a b=-1\/Lib.compareBytes a b=0\/Lib.compareBytes a b=1
 | [],[]=>.inr (.inl rfl)
 | [],_ :: _=>.inl rfl
 | _ :: _,[]=>.inr (.inr rfl)
 | a :: c,b :: bs=>by
  unfold Lib.compareBytes
  split
  .exact .inl rfl
  .split
   .exact .inr (.inr rfl)
   .exact wS c bs
def GD:∀ a b:List UInt8,Lib.compareBytes a b=0->a=b
 | [],[],_=>rfl
 | [],_ :: _,h=>by cases h
 | _ :: _,[],h=>by cases h
 | a :: f,b :: bs,h=>by
  unfold Lib.compareBytes at h
  by_cases c:a<b
  .rw [if_pos c] at h;cases h
  .by_cases d:b<a
   .rw [if_neg c,if_pos d] at h;cases h
   .rw [if_neg c,if_neg d] at h
    have e:a=b:=UInt8.le_antisymm (UInt8.not_lt.1 d) (UInt8.not_lt.1 c);rw [e,GD f bs h]
def wD:∀ a b c:List UInt8,0<=Lib.compareBytes b a->0<=Lib.compareBytes c b->0<=Lib.compareBytes c a
 | [],_,[],_,_=>by simp [Lib.compareBytes]
 | [],_,_ :: _,_,_=>by simp [Lib.compareBytes]
 | a :: g,[],_,h,_=>by simp [Lib.compareBytes] at h
 | a :: g,b :: bs,[],_,h=>by simp [Lib.compareBytes] at h
 | a :: g,b :: bs,c :: o,d,e=>by
  unfold Lib.compareBytes at d e ⊢
  by_cases f:b<a
  .rw [if_pos f] at d;omega
  .by_cases l:c<b
   .rw [if_pos l] at e;omega
   .rw [if_neg f] at d
    rw [if_neg l] at e;have n:a<=b:=UInt8.not_lt.1 f;have k:b<=c:=UInt8.not_lt.1 l;have q:¬ c<a:=UInt8.not_lt.2 (UInt8.le_trans n k);rw [if_neg q]
    by_cases m:a<c
    .rw [if_pos m];decide
    .rw [if_neg m]
     have p:a=c:=UInt8.le_antisymm (UInt8.le_trans n k) (UInt8.not_lt.1 m);subst p;have r:¬ a<b:=UInt8.not_lt.2 k;have s:¬ b<a:=f;rw [if_neg r] at d;rw [if_neg s] at e;exact wD g bs o d e
def zV:Ord jw where
 Q6:=fun x y h=>by
  unfold jw at h ⊢;have:=of_decide_eq_true h;have e:=sQ x.nm y.nm;exact decide_eq_false U
 tr:=fun x y z a b=>by
  unfold jw at a b ⊢;have c:=of_decide_eq_false a;have d:=of_decide_eq_false b;have:=wD x.nm y.nm z.nm U U;exact decide_eq_false U
def IC {α:Type} (L:List α) (i j:Nat) (x y:α):List α:=(L.set i y).set j x
def Cq {α:Type} (a b R:List α) (x y:α):IC (a++x :: (b++y :: R)) a.length (a.length+1+b.length) x y=a++y :: (b++x :: R):=by
 unfold IC;rw [J4 _ _ (D9 _),D3,List.set_cons_zero,J4 _ _ U,show a.length+1+b.length-a.length=b.length+1 by omega,J3,J4 _ _ (D9 _),D3,List.set_cons_zero]
end Go.SL
namespace Go.Proofs.Fs
open RowKit SL Proofs.Ba
abbrev zI:Q:=.func (.func 79) #[] #[]
def xN (x y:aL):Int:=Lib.compareBytes x.nm y.nm
def uE (x y:aL):decide (xN x y<0)=jw x y:=rfl
def Ei (x y:aL):-1<=xN x y/\xN x y<=1:=by
 unfold xN;rcases wS x.nm y.nm with h|h|h <;> omega
def VZ (x y:aL) (w:T) (e:Ending) (a:T):Prop:=e = Y' (Z X (xN x y))/\ag a (whole w)/\aj w a
def BM (x y:aL) (w:T):Calls O 79 #[.agg #[Z X (x.nd:Int),Y (str x.nm)],.agg #[Z X (y.nd:Int),Y (str y.nm)]] w (VZ x y w):=by
 refine aF fun g c=>?_;have f:=ae (((ag.whole w).alloc (.cells #[Z X (x.nd:Int),Y (str x.nm)] 81 (0,0))).alloc (.cells #[Z X (y.nd:Int),Y (str y.nm)] 81 (0,0))).right.right;have d:=ae (((aj.refl w).alloc (.cells #[Z X (x.nd:Int),Y (str x.nm)] 81 (0,0))).alloc (.cells #[Z X (y.nd:Int),Y (str y.nm)] 81 (0,0)));have a:=fun w=>Tryz.strings_Compare (str x.nm) (str y.nm) w;have b:=ae a;clear a
 go_in
 go_wp2_with fail
 apply (b.o _).mono;rintro e h ⟨rfl,rfl⟩
 exact Zz (c.o _ _ ⟨rfl,f.o,d.o⟩)
def dQ (v:Q) (L:List aL):ai:=sl 81 2 v L.length (bG L)
def I2 {L:List aL} {i:Nat} (c:i<L.length) (e:aL):((bG L).set (i*2) (Z X (e.nd:Int))).set (i*2+1) (Y (str e.nm))=bG (L.set i e):=by
 induction L generalizing i with
 | nil=>simp at c
 | cons a L f=>
  have b:bG (a :: L) = Z X (a.nd:Int) :: Y (str a.nm) :: bG L:=rfl
  cases i with
  | zero=>rw [b];rfl
  | succ i=>
   have d:(i+1)*2=i*2+1+1:=U
   rw [b,d,J3,J3,J3,J3];show _ = Z X (a.nd:Int) :: Y (str a.nm) :: bG (L.set i e)
   rw [<- f (by simpa using c)]
section
variable {w:T} {v:Q} {L:List aL} {F:ai} {i j:Nat}
def xi (h:ag w (dQ v L*F)) (m:i<L.length) (e:aL):∃ g c,v = S (W ⟨g,0,V⟩) L.length c/\w.frozen? ⟨g,i*2,V⟩=P/\w.frozen? ⟨g,i*2+1,V⟩=P /\
  ag ((w.setCell ⟨g,i*2,V⟩ (Z X (e.nd:Int))).setCell ⟨g,i*2+1,V⟩ (Y (str e.nm))) (dQ v (L.set i e)*F):=by
 rcases h.dq with ⟨_,o,_⟩|⟨g,b,n,rfl,d,h4,h5,f,a⟩
 .omega
 .refine ⟨g,b,rfl,a.frozen _,a.frozen _,?_⟩
  have k:=(a.setCell (i*2) (Z X (e.nd:Int))).setCell (i*2+1) (Y (str e.nm));have l:=ag.nM (sz:=2) (n:=L.length) (cap:=b) k d h4 (by rw [N4,N4];exact h5);unfold dQ;rw [List.length_set];refine l.to ?_;congr 2;rw [<- I2 m,<- f];simp only [Array.toList_setIfInBounds];rw [List.take_set,List.take_set]
def qW (h:ag w (dQ v L*F)) (d:i<L.length) {x:aL} (f:L[i]?=W x):∃ g c,v = S (W ⟨g,0,V⟩) L.length c/\w.cell? ⟨g,i*2,V⟩=W (Z X (x.nd:Int))/\w.cell? ⟨g,i*2+1,V⟩=W (Y (str x.nm))/\L.length<=c/\(c:Int)<=9223372036854775807:=by
 obtain ⟨g,c,e,a,b,k,l⟩:=oD h d;have:L[i]=x:=by rw [K9 d] at f;exact Option.some.inj f
 rw [this] at a b;exact ⟨g,c,e,a,b,k,U⟩
def tl (h:ag w (dQ v L*F)) (f:i<L.length) (d:j<L.length) (D:i≠j) {x y:aL} (u:L[i]?=W x) (hy:L[j]?=W y):∃ g c,v = S (W ⟨g,0,V⟩) L.length c/\L.length<=c/\(c:Int)<=9223372036854775807 /\
  (w.cell? ⟨g,i*2,V⟩=W (Z X (x.nd:Int))/\w.cell? ⟨g,i*2+1,V⟩=W (Y (str x.nm))/\w.cell? ⟨g,j*2,V⟩=W (Z X (y.nd:Int))/\w.cell? ⟨g,j*2+1,V⟩=W (Y (str y.nm))) /\
  (w.frozen? ⟨g,i*2,V⟩=P/\w.frozen? ⟨g,i*2+1,V⟩=P/\w.frozen? ⟨g,j*2,V⟩=P/\w.frozen? ⟨g,j*2+1,V⟩=P) /\
  ag ((((w.setCell ⟨g,i*2,V⟩ (Z X (y.nd:Int))).setCell ⟨g,i*2+1,V⟩ (Y (str y.nm))).setCell ⟨g,j*2,V⟩ (Z X (x.nd:Int))).setCell ⟨g,j*2+1,V⟩ (Y (str x.nm))) (dQ v (IC L i j x y)*F):=by
 obtain ⟨g,c,rfl,k,l,B,C⟩:=qW h f u;obtain ⟨b,a,e,m,n,-,-⟩:=qW h d hy;simp only [Value.slice.injEq,Option.some.injEq,Addr.mk.injEq] at e;obtain ⟨⟨rfl,-⟩,-⟩:=e;obtain ⟨b,a,e,o,p,s⟩:=xi h f y;simp only [Value.slice.injEq,Option.some.injEq,Addr.mk.injEq] at e;obtain ⟨⟨rfl,-⟩,-⟩:=e;obtain ⟨b,a,e,q,r,-⟩:=xi h d y;simp only [Value.slice.injEq,Option.some.injEq,Addr.mk.injEq] at e;obtain ⟨⟨rfl,-⟩,-⟩:=e;obtain ⟨b,a,e,_,_,t⟩:=xi s (by rw [List.length_set];exact d:j<_) x;simp only [Value.slice.injEq,Option.some.injEq,Addr.mk.injEq] at e;obtain ⟨⟨rfl,-⟩,-⟩:=e;exact ⟨g,c,rfl,B,C,⟨k,l,m,n⟩,⟨o,p,q,r⟩,t⟩
end
def Vb (v:Q) (e A M B f:List aL) (w0:T) (F:ai) (u:Q) (wr:T):Prop:=
 ∃ (a c b d:List aL),A=a++c/\B=b++d/\a.length=b.length/\u = Z X (a.length:Int)/\aj w0 wr/\ag wr (dQ v (e++(b++(c++(M++(a++(d++f))))))*F)
def Uu (v:Q) (L:List aL) (F:ai) (w:T) (e:Ending) (a:T):Prop:=e = Y' (.tuple #[])/\aj w a/\ag a (dQ v L*F)
def r9 (v:Q) (d A M B e:List aL) (l0:A.length=B.length) (a b m:Nat) (ha:d.length=a) (hb:d.length+A.length+M.length=b) (hm:A.length=m) (w:T) (F:ai) (hl:(d++(A++(M++(B++e)))).length<=4000) (g0:ag w (dQ v (d++(A++(M++(B++e))))*F)) :
  Calls O 265 #[v,Z X (a:Int),Z X (b:Int),Z X (m:Int),zI] w (Uu v (d++(B++(M++(A++e)))) F w):=by
 refine aF fun Q' HQ=>?_;obtain ⟨va,vc,rfl⟩:=aC g0;obtain ⟨l,K⟩:=N ((d++(A++(M++(B++e)))).length)
 have e0:=ae g0;have HN:=ae K;rw [K] at hl e0 HQ ⊢;have s0:=ae l0;have Ha:=ae ha;have Hb:=ae hb;have H:=ae hm;have m0:d.length+(A.length+(M.length+(B.length+e.length)))=l:=by rw [<- K];simp only [A3]
 have u0:=ae m0;clear g0 K l0 ha hb hm m0
 go_in
 go_wp2_with fail
 go_loopw [10] (fun k0 wr=>Vb (S va l vc) d A M B e w F k0 wr) (fun k0 _=>m-(intOf k0).toNat)
 case atStart=>exact ⟨[],A,[],B,rfl,rfl,rfl,rfl,aj.refl w,e0.o⟩
 case round=>
  obtain ⟨r,D,E,G,p,q,d0,rfl,r0,C⟩:=hrel;clear e0;obtain ⟨k,o⟩:=N r.length
  have j0:k+D.length=m:=by rw [<- H.o,p,A3,o]
  have q0:k+G.length=m:=by rw [<- H.o,s0.o,q,A3,<- d0,o]
  rw [o]
  by_cases R0:k<m
  .obtain ⟨x,g,rfl⟩:∃ x g,D=x :: g:=by
    cases D with
    | nil=>simp at j0;omega
    | cons x g=>exact ⟨x,g,rfl⟩
   obtain ⟨y,h,rfl⟩:∃ y h,G=y :: h:=by
    cases G with
    | nil=>simp at q0;omega
    | cons y h=>exact ⟨y,h,rfl⟩
   obtain ⟨f,b0⟩:=N (d++E)
   obtain ⟨n,c0⟩:=N (g++(M++r))
   obtain ⟨s,i0⟩:=N (h++e)
   have eL:d++(E++(x :: g++(M++(r++(y :: h++e)))))=f++x :: (n++y :: s):=by rw [<- b0,<- c0,<- i0];simp
   have eR:d++((E++[y])++(g++(M++((r++[x])++(h++e)))))=f++y :: (n++x :: s):=by rw [<- b0,<- c0,<- i0];simp
   rw [eL] at C;have t:f.length=a+k:=by rw [<- b0,A3,Ha.o,<- d0,o]
   have u:f.length+1+n.length=b+k:=by
    have h1:=Hb.o;rw [t,<- c0,A3,A3,o,<- h1,Ha.o];rw [D7] at j0;have:=H.o;omega
   have h0:(f++x :: (n++y :: s)).length=l:=by
    rw [<- u0.o,<- eL];simp only [A3,p,q];omega
   have D0:b+k<l:=by
    rw [<- h0,<- u];simp only [A3,D7];omega
   have n0:a+k<b+k:=by have:=Hb.o;have:=Ha.o;have:=H.o;omega
   obtain ⟨I,o0⟩:=N (a+k)
   obtain ⟨J,p0⟩:=N (b+k)
   have S0:IntKind.i64.wrap ((a:Int)+(k:Int))=(I:Int):=by rw [IntKind.wrap_i64];omega
   have T0:IntKind.i64.wrap ((b:Int)+(k:Int))=(J:Int):=by rw [IntKind.wrap_i64];omega
   rw [o0] at t n0;rw [p0] at u D0 n0
   obtain ⟨F0,c,f0,k1,k2,⟨c1,c2,c3,c4⟩,⟨f1,f2,f3,f4⟩,h9⟩:=tl (i:=I) (j:=J) (x:=x) (y:=y) C U U U
    (by rw [<- t,B3 (D9 _),D3];rfl)
    (by rw [<- u,B3 U,show f.length+1+n.length-f.length=n.length+1 by omega,List.getElem?_cons_succ,B3 (D9 _),D3];rfl)
   rw [h0] at f0 k1;simp only [Value.slice.injEq] at f0;obtain ⟨rfl,-,rfl⟩:=f0;have eS:IC (f++x :: (n++y :: s)) I J x y=f++y :: (n++x :: s):=by rw [<- u,<- t];exact Cq _ _ _ _ _
   rw [eS,<- eR] at h9;have H9:=ae h9;have L0:(l:Int)<=(vc:Int):=U
   have K0:(J:Int)<(l:Int):=U
   have H0:(I:Int)<(l:Int):=U
   have G0:(l:Int)<=4000:=U
   have N0:(k:Int)<4000:=U
   have Hk:=ae o;have HA:=ae p;have HB:=ae q;have x0:=ae d0;clear C h9 eS eL eR t u h0 k1 j0 q0 o p q d0 b0 c0 i0 o0 p0
   go_wp2_with fail
   go_region_law (fail)
   all_goals
    go_wp2
    go_roundw
    case rel=>exact ⟨r++[x],g,E++[y],h,by rw [HA.o];simp,by rw [HB.o];simp,by simp [x0.o],by rw [A3,Hk.o];simp,((((r0.setCell _ _).setCell _ _).setCell _ _).setCell _ _).drew,H9.o.drew⟩
    case measure=>simp [intOf];omega
  .have h1:D=[]:=D4 U
   have h2:G=[]:=D4 U;subst h1 h2;rw [D8] at p q;subst p q;have H2:=ae C;clear C
   exact Zy (HQ.o _ _ ⟨rfl,r0,by simpa using H2.o⟩)
def Rm (v:Q) (m e:Nat) (f:List aL) (w0:T) (F:ai) (u10 u11:Q) (wr:T):Prop:=
 ∃ (c a b d:List aL),u10 = Z X (a.length:Int)/\u11 = Z X (b.length:Int)/\c.length+a.length=m/\1<=a.length/\1<=b.length/\(c++(a++(b++d))).length=e/\c++(b++(a++d))=f/\aj w0 wr/\ag wr (dQ v (c++(a++(b++d)))*F)
def Ek (v:Q) (t l n C:List aL) (a m b:Nat) (ha:t.length=a) (hm:a+l.length=m) (hb:m+n.length=b) (h1:1<=l.length) (d:1<=n.length) (w:T) (F:ai) (hl:(t++(l++(n++C))).length<=4000) (h0:ag w (dQ v (t++(l++(n++C)))*F)) :
  Calls O 238 #[v,Z X (a:Int),Z X (m:Int),Z X (b:Int),zI] w (Uu v (t++(n++(l++C))) F w):=by
 refine aF fun Q' HQ=>?_;obtain ⟨va,vc,rfl⟩:=aC h0;obtain ⟨c,E⟩:=N ((t++(l++(n++C))).length)
 obtain ⟨r0,hT⟩:=N (t++(n++(l++C)))
 have e0:=ae h0;have HN:=ae E;have HT:=ae hT;rw [E] at hl e0 ⊢;rw [E,hT] at HQ;have S0:b<=c:=by rw [<- E];simp only [A3];omega
 obtain ⟨i0,s0⟩:=N l.length
 obtain ⟨j0,u0⟩:=N n.length
 have g1:IntKind.i64.wrap ((m:Int)-(a:Int))=(i0:Int):=by rw [IntKind.wrap_i64];omega
 have g2:IntKind.i64.wrap ((b:Int)-(m:Int))=(j0:Int):=by rw [IntKind.wrap_i64];omega
 have L0:(c:Int)<=4000:=U
 have R0:(b:Int)<=(c:Int):=U
 have N0:(a:Int)<=(m:Int):=U
 have T0:(m:Int)<=(b:Int):=U
 have e1:(m:Int)-(a:Int)=(i0:Int):=U
 have e2:(b:Int)-(m:Int)=(j0:Int):=U
 have x0:Rm (S va c vc) m c r0 w F (Z X (i0:Int)) (Z X (j0:Int)) w:=⟨t,l,n,C,by rw [s0],by rw [u0],U,h1,d,E,hT,aj.refl w,e0.o⟩
 have q0:=ae x0;clear h0 E hT ha hm hb h1 d s0 u0 x0 g1 g2 e0
 go_in
 go_wp2_with fail
 go_loopw [10,11] (fun u10 u11 wr=>Rm (S va c vc) m c r0 w F u10 u11 wr) (fun u10 u11 _=>(intOf u10).toNat+(intOf u11).toNat)
 case atStart=>exact q0.o
 case round=>
  obtain ⟨B,f,g,D,rfl,rfl,u,hu,hv,e,H,p0,r⟩:=hrel;clear q0;obtain ⟨i,q⟩:=N f.length
  obtain ⟨j,G⟩:=N g.length
  obtain ⟨d0,h⟩:=N B.length
  have c0:d0+(i+(j+D.length))=c:=by rw [<- e,<- q,<- G,<- h];simp only [A3]
  rw [q] at u hu ⊢;rw [G] at hv ⊢;rw [h] at u;have p1:(m:Int)-(i:Int)=(d0:Int):=U
  have p2:(i:Int)<=(m:Int):=U
  have p3:(j:Int)<=4000:=U
  have p4:(m:Int)<=4000:=U
  rcases Nat.lt_trichotomy j i with o0|o0|o0
  .have H0:(j:Int)<(i:Int):=U
   have K0:¬ ((i:Int)=(j:Int)):=U
   have b0:f=f.take j++f.drop j:=(H3 j f).symm;obtain ⟨U1,k0⟩:=N (f.take j)
   obtain ⟨U2,l0⟩:=N (f.drop j)
   have I:U1.length=j:=by rw [<- k0,E5];omega
   have l2:U2.length=i-j:=by rw [<- l0,K7];omega
   rw [k0,l0] at b0;subst b0;rw [G3] at r e;have p:=r9 (S va c vc) B U1 U2 g D U d0 m j h U I wr F (by rw [e];omega) r;have o:=ae p;have q1:(i:Int)-(j:Int)=((i-j:Nat):Int):=U
   have K:=ae H;have G0:=ae e;have Hp:=ae h;have s:=ae I;have k:=ae l2;have Hj:=ae G;have g0:=ae u;have Hv:=ae hv;have f0:=ae c0;clear p H e h I l2 q G r k0 l0 u c0
   go_wp2_with fail
   apply o.o.mono;rintro F0 w2 ⟨rfl,M,d⟩;have J:=ae d;clear d o
   go_wp2_with fail
   go_roundw
   case rel=>
    refine ⟨B++g,U2,U1,D,by rw [k.o,<- q1],by rw [s.o],by rw [A3,Hp.o,Hj.o,k.o];have:=g0.o;omega,by rw [k.o];omega,by rw [s.o];exact Hv.o,?_,?_,p0.trans M,by simpa using J.o⟩
    .have:=f0.o
     simp only [A3,s.o,k.o,Hp.o,Hj.o];omega
    .rw [<- K.o];simp
   case measure=>simp [intOf];omega
  .subst o0
   have p:=r9 (S va c vc) B f [] g D U d0 m j h (by simp;omega) q wr F (by rw [H4,e];omega) r;have o:=ae p;have K:=ae H;clear p H e h q G r u c0
   go_wp2_with fail
   apply o.o.mono;rintro F0 w2 ⟨rfl,M,d⟩;have J:=ae d;clear d o
   go_wp2_with fail
   go_end0
   refine HQ.o _ _ ⟨rfl,p0.trans M,?_⟩;rw [<- K.o];exact J.o
  .have H0:(i:Int)<(j:Int):=U
   have K0:¬ ((i:Int)=(j:Int)):=U
   have b0:g=g.take (j-i)++g.drop (j-i):=(H3 (j-i) g).symm;obtain ⟨V1,m0⟩:=N (g.take (j-i))
   obtain ⟨V2,n0⟩:=N (g.drop (j-i))
   have I:V1.length=j-i:=by rw [<- m0,E5];omega
   have l2:V2.length=i:=by rw [<- n0,K7];omega
   rw [m0,n0] at b0;subst b0;rw [G3] at r e;obtain ⟨D0,hq⟩:=N (m+j-i)
   have q2:(m:Int)+(j:Int)-(i:Int)=(D0:Int):=U
   have p:=r9 (S va c vc) B f V1 V2 D U d0 D0 i h U q wr F (by rw [e];omega) r;have o:=ae p;have q1:(j:Int)-(i:Int)=((j-i:Nat):Int):=U
   have K:=ae H;have G0:=ae e;have Hp:=ae h;have s:=ae I;have k:=ae l2;have Hi:=ae q;have g0:=ae u;have Hu:=ae hu;have f0:=ae c0;clear p H e h I l2 q G r m0 n0 u c0 hq
   go_wp2_with fail
   apply o.o.mono;rintro F0 w2 ⟨rfl,M,d⟩;have J:=ae d;clear d o
   go_wp2_with fail
   go_roundw
   case rel=>
    refine ⟨B,V2,V1,f++D,by rw [k.o],by rw [s.o,<- q1],by rw [Hp.o,k.o];exact g0.o,by rw [k.o];exact Hu.o,by rw [s.o];omega,?_,?_,p0.trans M,by simpa using J.o⟩
    .have:=f0.o
     simp only [A3,s.o,k.o,Hp.o,Hi.o];omega
    .rw [<- K.o];simp
   case measure=>simp [intOf];omega
def j7 {w:T} {v:Q} {a b:List aL} {x y:aL} {F:ai} (h:ag w (dQ v (a++x :: y :: b)*F)) {d i:Nat} (p:a.length=i) (m:(a++x :: y :: b).length=d):∃ g c,v = S (W ⟨g,0,V⟩) d c/\d<=c/\(c:Int)<=9223372036854775807 /\
  (w.cell? ⟨g,i*2,V⟩=W (Z X (x.nd:Int))/\w.cell? ⟨g,i*2+1,V⟩=W (Y (str x.nm))/\w.cell? ⟨g,(i+1)*2,V⟩=W (Z X (y.nd:Int))/\w.cell? ⟨g,(i+1)*2+1,V⟩=W (Y (str y.nm))) /\
  (w.frozen? ⟨g,i*2,V⟩=P/\w.frozen? ⟨g,i*2+1,V⟩=P/\w.frozen? ⟨g,(i+1)*2,V⟩=P/\w.frozen? ⟨g,(i+1)*2+1,V⟩=P) /\
  ag ((((w.setCell ⟨g,i*2,V⟩ (Z X (y.nd:Int))).setCell ⟨g,i*2+1,V⟩ (Y (str y.nm))).setCell ⟨g,(i+1)*2,V⟩ (Z X (x.nd:Int))).setCell ⟨g,(i+1)*2+1,V⟩ (Y (str x.nm))) (dQ v (a++y :: x :: b)*F) /\
  ag ((((w.setCell ⟨g,(i+1)*2,V⟩ (Z X (x.nd:Int))).setCell ⟨g,(i+1)*2+1,V⟩ (Y (str x.nm))).setCell ⟨g,i*2,V⟩ (Z X (y.nd:Int))).setCell ⟨g,i*2+1,V⟩ (Y (str y.nm))) (dQ v (a++y :: x :: b)*F):=by
 subst p m;have ex:(a++x :: y :: b)[a.length]?=W x:=by rw [B3 (D9 _),D3];rfl
 have f:(a++x :: y :: b)[a.length+1]?=W y:=by rw [B3 U,show a.length+1-a.length=1 by omega];rfl
 obtain ⟨g,c,rfl,q,r,n,o,k⟩:=tl h Si0 Si0 U ex f;obtain ⟨t,s,e,_,_,_,_,l⟩:=tl h (i:=a.length+1) (j:=a.length) Si0 Si0 U f ex;simp only [Value.slice.injEq,Option.some.injEq,Addr.mk.injEq] at e;obtain ⟨⟨rfl,-⟩,-⟩:=e;refine ⟨g,c,rfl,q,r,n,o,?_,?_⟩
 .have e:=Cq a [] b x y
  rw [L8,Nat.add_zero,H4,H4] at e;rw [e] at k;exact k
 .have e:IC (a++x :: y :: b) (a.length+1) a.length y x=a++y :: x :: b:=by
   unfold IC;rw [J4 _ _ U,show a.length+1-a.length=1 by omega,J4 _ _ (D9 _),D3];rfl
  rw [e] at l;exact l
def Xj (v:Q) (e d f:List aL) (a b g:Nat) (w0:T) (F:ai) (u8:Q) (wr:T):Prop:=
 ∃ (c R:List aL),u8 = Z X ((a+c.length:Nat):Int)/\1<=c.length/\a+c.length+R.length=b/\(c++R).Perm d/\eJ jw c/\aj w0 wr/\ag wr (dQ v (e++(c++(R++f)))*F)
def W8 (v:Q) (f e g:List aL) (x:aL) (a:Nat) (w0:T) (F:ai) (u9:Q) (wr:T):Prop:=
 ∃ (b c:List aL),u9 = Z X ((a+b.length:Nat):Int)/\b++c=e/\(∀ y d,c=y :: d->jw x y=Z')/\aj w0 wr/\ag wr (dQ v (f++(b++x :: (c++g)))*F)
def mO (v:Q) (c b d:List aL) (F:ai) (w:T) (e:Ending) (w':T):Prop:=
 ∃ a:List aL,e = Y' (.tuple #[])/\a.Perm b/\eJ jw a/\aj w w'/\ag w' (dQ v (c++(a++d))*F)
def wE (v:Q) (m B n:List aL) (a b:Nat) (ha:m.length=a) (hb:a+B.length=b) (w:T) (F:ai) (hl:(m++(B++n)).length<=4000) (h:ag w (dQ v (m++(B++n))*F)) :
  Calls O 191 #[v,Z X (a:Int),Z X (b:Int),zI] w (mO v m B n F w):=by
 refine aF fun Q' HQ=>?_;obtain ⟨va,vc,rfl⟩:=aC h;obtain ⟨l,hN⟩:=N ((m++(B++n)).length)
 rw [hN] at hl h HQ ⊢;have s0:a+B.length+n.length=l:=by rw [<- hN,A3,A3,ha];omega
 have W0:(l:Int)<=4000:=U
 have Z0:(b:Int)<=(l:Int):=U
 have Y0:(a:Int)<=(b:Int):=U
 have f0:=ae h;have Ha:=ae ha;have Hb:=ae hb;have N0:=ae s0;have HN:=ae hN;clear h ha hb s0 hN
 cases B with
 | nil=>
  have S0:b=a:=by rw [<- Hb.o];rfl
  subst S0
  go_in
  go_wp2_with fail
  refine wp_loop_rounds 1 ?_;rw [rounds_succ]
  exact Zy (HQ.o _ _ ⟨[],rfl,L6 _,eJ.nil,aj.refl w,f0.o⟩)
 | cons x0 R0=>
  go_in
  go_wp2_with fail
  go_loopw [8] (fun u8 wr=>Xj (S va l vc) m (x0 :: R0) n a b l w F u8 wr) (fun u8 _=>b-(intOf u8).toNat)
  case atStart=>exact ⟨[x0],R0,Si0,D9 _,by have:=Hb.o;simp at this ⊢;omega,L6 _,eJ.one _,aj.refl w,f0.o⟩
  case round=>
   obtain ⟨G,R,rfl,X0,k0,hP,hS,H0,d0⟩:=hrel;clear f0;obtain ⟨i,hi⟩:=N (a+G.length)
   rw [hi] at k0 ⊢;have HP:=ae hP;have HS:=ae hS;clear hP hS
   cases R with
   | nil=>
    have G0:i=b:=by simpa using k0
    subst G0;have H2:=ae d0;clear d0 hi
    go_wp2_with fail
    go_end0
    exact HQ.o _ _ ⟨G,rfl,by have:=HP.o;rwa [D8] at this,HS.o,H0,by simpa using H2.o⟩
   | cons x q=>
    rw [D7] at k0;have G0:(i:Int)<(b:Int):=U
    have K0:W8 (S va l vc) m G (q++n) x a w F (Z X (i:Int)) wr:=⟨G,[],by rw [hi],D8 G,fun y I h=>(by cases h),H0,d0⟩
    have r0:=ae K0;have u:=ae hi;clear d0 K0 hi
    go_wp2_with fail
    go_loopw [9] (fun u9 wr=>W8 (S va l vc) m G (q++n) x a w F u9 wr) (fun u9 _=>(intOf u9).toNat)
    case atStart=>exact r0.o
    case round=>
     clear r0;obtain ⟨i0,o,rfl,b0,hQ,p0,E⟩:=hrel;obtain ⟨j,D⟩:=N (a+i0.length)
     rw [D]
     have H:(m++(i0++x :: (o++(q++n)))).length=l:=by
      have d:=N0.o;have h2:=Hb.o;have h3:=u.o;rw [<- b0,A3] at h3;rw [D7] at d h2;simp only [A3,D7,Ha.o];omega
     have d1:j<l:=by rw [<- H];simp only [A3,D7,Ha.o];omega
     have e1:a<=j:=U
     rcases K3 i0 with rfl|⟨p,z,rfl⟩
     .obtain rfl:a=j:=by simpa using D
      rw [H4] at b0 E;subst b0;have H2:=ae E;have g0:=ae hQ;clear E D H hQ;have g1:¬ ((a:Int)<(a:Int)):=U
      go_wp2_with fail
      go_quiet (fail)
      go_wp2_with fail
      go_roundw
      case rel=>exact ⟨x :: o,q,by simp;have:=u.o;omega,Si0,by rw [D7];have:=u.o;omega,(List.perm_middle.symm.trans HP.o),eJ.insert zV (A:=[]) HS.o (fun A' z h=>absurd h Si0) (fun y I h=>zV.Q6 _ _ (g0.o y I h)),p0.drewN nq,by have C:=ag.of_heap (w':=wr.drewN nq) H2.o rfl;simpa using C⟩
      case measure=>have:=u.o;simp [intOf];omega
     .rw [K8] at *
      obtain ⟨k,hk⟩:=N ((m++p).length)
      have n0:k+1=j:=by rw [<- hk,<- D];simp only [A3,D6,Ha.o];omega
      have e0:m++(p++[z]++x :: (o++(q++n)))=(m++p)++z :: x :: (o++(q++n)):=Si0
      rw [e0] at E H;obtain ⟨g,c,e,k1,k2,⟨c1,c2,M,c4⟩,-,-,-⟩:=j7 E hk H;simp only [Value.slice.injEq] at e;obtain ⟨rfl,-,rfl⟩:=e;rw [n0] at M c4;have D0:=BM x z;have l0:=uE x z;have T0:=Ei x z;obtain ⟨cz,m0⟩:=N (xN x z)
      have F0:∀ w,Calls O 79 #[.agg #[Z X (x.nd:Int),Y (str x.nm)],.agg #[Z X (z.nd:Int),Y (str z.nm)]] w (fun e f=>e = Y' (Z X cz)/\ag f (whole w)/\aj w f):=fun w=>by
       apply (D0 w).mono;rintro e f ⟨rfl,d,h2⟩;exact ⟨by rw [m0],d,h2⟩
      rw [m0] at l0 T0;have HC:=ae F0;have c0:=ae E;have Hk:=ae hk;have g0:=ae hQ;have J:=ae b0;have h0:=ae H;have K:=ae n0;have Hj:=ae D;have t1:(a:Int)<(j:Int):=by have:=D;simp only [A3,D6] at this;omega
      have t2:(j:Int)<(l:Int):=U
      have t3:(k:Int)<(l:Int):=U
      have t4:(l:Int)<=(vc:Int):=U
      have t5:IntKind.i64.wrap ((j:Int)-1)=(k:Int):=by rw [IntKind.wrap_i64];omega
      have u0:=ae l0;have a1:decide ((a:Int)<(j:Int))=Z':=by simpa using t1
      clear D0 F0 m0 E hk hQ b0 H n0 D k1 e0 l0
      by_cases hz:cz<0
      .have o0:Hid (jw x z=Z'):=by show _=_;rw [<- u0.o];exact decide_eq_true hz
       have V0:decide (cz<0)=Z':=decide_eq_true hz
       go_wp2_with fail
       go_region_held3 (fun f=>f.cell? ⟨g,k*2,V⟩=W (Z X (z.nd:Int))/\f.cell? ⟨g,k*2+1,V⟩=W (Y (str z.nm))/\f.cell? ⟨g,j*2,V⟩=W (Z X (x.nd:Int))/\f.cell? ⟨g,j*2+1,V⟩=W (Y (str x.nm))) (first|exact ⟨c1,c2,M,c4⟩|exact kA|go_keep)
        (first|(go_at_call 79;apply (HC.o wr.drew).mono;rintro e r ⟨rfl,h5,d5⟩;have t:=h5.cM (ag.drew c0.o);obtain ⟨g',c',s,-,-,q0,-,-,-⟩:=j7 t Hk.o h0.o;have kA:r.cell? ⟨g,k*2,V⟩=W (Z X (z.nd:Int))/\r.cell? ⟨g,k*2+1,V⟩=W (Y (str z.nm))/\r.cell? ⟨g,j*2,V⟩=W (Z X (x.nd:Int))/\r.cell? ⟨g,j*2+1,V⟩=W (Y (str x.nm)):=by simp only [Value.slice.injEq,Option.some.injEq,Addr.mk.injEq] at s;obtain ⟨⟨rfl,-⟩,-⟩:=s;rwa [K.o] at q0))
       rename_i j0;have D5:=ae (p0.drew.trans d5);obtain ⟨g',c',s,-,-,⟨b1,b2,b3,b4⟩,⟨f1,f2,f3,f4⟩,h7,h8⟩:=j7 t Hk.o h0.o;simp only [Value.slice.injEq,Option.some.injEq,Addr.mk.injEq] at s;obtain ⟨⟨rfl,-⟩,-⟩:=s;rw [K.o] at b3 b4 f3 f4 h7 h8;have H7:=ae h7;have H8:=ae h8;have t6:IntKind.i64.wrap (k:Int)=(k:Int):=by rw [IntKind.wrap_i64];omega
       have t7:(j:Int)-1=(k:Int):=by have:=K.o;omega
       clear h7 h8 t h5 d5 kA j0 HC c0 c1 c2 M c4
       go_wp2_with fail
       go_region_law (fail)
       all_goals
        go_wp2
        go_roundw
        case rel=>exact ⟨p,z :: o,by have:=Hk.o;rw [A3,Ha.o] at this;rw [this],by rw [<- J.o];simp,fun y I h=>by
          simp only [List.cons.injEq] at h;rw [<- h.1];exact o0.o,((((D5.o.setCell _ _).setCell _ _).setCell _ _).setCell _ _).drew,by
          first
           | (have C:=H8.o.drew;simpa using C)
           | (have C:=H7.o.drew;simpa using C)⟩
        case measure=>have:=K.o;simp [intOf];omega
      .have o0:Hid (jw x z=P):=by show _=_;rw [<- u0.o];exact decide_eq_false hz
       have V0:decide (cz<0)=P:=decide_eq_false hz
       go_wp2_with fail
       go_region_held3 (fun f=>f.cell? ⟨g,k*2,V⟩=W (Z X (z.nd:Int))/\f.cell? ⟨g,k*2+1,V⟩=W (Y (str z.nm))/\f.cell? ⟨g,j*2,V⟩=W (Z X (x.nd:Int))/\f.cell? ⟨g,j*2+1,V⟩=W (Y (str x.nm))) (first|exact ⟨c1,c2,M,c4⟩|exact kA|go_keep)
        (first|(go_at_call 79;apply (HC.o wr.drew).mono;rintro e r ⟨rfl,h5,d5⟩;have t:=h5.cM (ag.drew c0.o);obtain ⟨g',c',s,-,-,q0,-,-,-⟩:=j7 t Hk.o h0.o;have kA:r.cell? ⟨g,k*2,V⟩=W (Z X (z.nd:Int))/\r.cell? ⟨g,k*2+1,V⟩=W (Y (str z.nm))/\r.cell? ⟨g,j*2,V⟩=W (Z X (x.nd:Int))/\r.cell? ⟨g,j*2+1,V⟩=W (Y (str x.nm)):=by simp only [Value.slice.injEq,Option.some.injEq,Addr.mk.injEq] at s;obtain ⟨⟨rfl,-⟩,-⟩:=s;rwa [K.o] at q0))
       rename_i j0;have D5:=ae (p0.drew.trans d5);have L0:=ae t;clear t h5 d5 kA j0 HC c0 c1 c2 M c4
       go_wp2_with fail
       go_roundw
       case rel=>exact ⟨(p++[z])++x :: o,q,by
         have h2:a+((p++[z])++x :: o).length=i+1:=by
          have d:=u.o;rw [<- J.o] at d;simp only [A3,D7,L8] at d ⊢;omega
         rw [h2];simp,by simp only [A3,D7];omega,by
         have d:=u.o;rw [<- J.o] at d;simp only [A3,D7,L8] at d ⊢;omega,by
         have d:=HP.o;rw [<- J.o] at d;refine (List.Perm.trans ?_ d);have e9:((p++[z])++x :: o)++q=(p++[z])++(x :: (o++q)):=Si0
         rw [e9,G3 (p++[z]) o];exact J7 _ List.perm_middle.symm,by
         have d:=HS.o;rw [<- J.o] at d
         exact eJ.insert zV d (fun A' y h=>by
          have:=List.append_inj_right' h rfl;simp only [List.cons.injEq] at this;rw [<- this.1];exact o0.o) (fun y I h=>zV.Q6 _ _ (g0.o y I h)),D5.o,by have C:=L0.o;simpa using C⟩
       case measure=>have:=u.o;simp [intOf];omega
end Go.Proofs.Fs
namespace Go.SL
open RowKit
def mR {α:Type} {a b:List α} {z:α} {k:Nat} (h:a.take k=b++[z]) (f:k<=a.length):1<=k/\a[k-1]?=W z:=by
 have e:=congrArg List.length h;rw [E5,A3,D6] at e;have d:b.length=k-1:=U
 refine ⟨U,?_⟩;have c:=congrArg (fun l=>l[k-1]?) h;rw [List.getElem?_take,if_pos U,B3 U,d,D3] at c;exact c
def mA {α:Type} {a b:List α} {y:α} {k:Nat} (h:a.drop k=y :: b):a[k]?=W y:=by
 have c:=congrArg (fun l=>l[0]?) h;simpa using c
end Go.SL
namespace Go.Proofs.Fs
open RowKit SL Proofs.Ba
def gh {w:T} {v:Q} {L:List aL} {F:ai} {x y:aL} {i j a:Nat} (h:ag w (dQ v L*F)) (l:L.length=a) (m:i<a) (n:j<a) (o:L[i]?=W x) (hy:L[j]?=W y):∃ g c,v = S (W ⟨g,0,V⟩) a c/\a<=c/\(c:Int)<=9223372036854775807 /\
  (w.cell? ⟨g,i*2,V⟩=W (Z X (x.nd:Int))/\w.cell? ⟨g,i*2+1,V⟩=W (Y (str x.nm))/\w.cell? ⟨g,j*2,V⟩=W (Z X (y.nd:Int))/\w.cell? ⟨g,j*2+1,V⟩=W (Y (str y.nm))):=by
 subst l;obtain ⟨g,c,rfl,b,d,p,q⟩:=qW h m o;obtain ⟨s,r,e,f,k,-,-⟩:=qW h n hy;simp only [Value.slice.injEq,Option.some.injEq,Addr.mk.injEq] at e;obtain ⟨⟨rfl,-⟩,-⟩:=e;exact ⟨g,c,rfl,p,q,b,d,f,k⟩
def WA (z:Int) (w:T) (e:Ending) (a:T):Prop:=e = Y' (Z X z)/\ag a (whole w)/\aj w a
def uR {x y:aL} {z:Int} (a:xN x y=z) (w:T):Calls O 79 #[.agg #[Z X (x.nd:Int),Y (str x.nm)],.agg #[Z X (y.nd:Int),Y (str y.nm)]] w (WA z w):=by
 subst a;exact BM x y w
def Xs (v:Q) (L a:List aL) (u:aL) (m b:Nat) (w0:T) (F:ai) (u10 u11:Q) (wr:T):Prop:=
 ∃ (i j:Nat),u10 = Z X (i:Int)/\u11 = Z X (j:Int)/\m<=i/\i<=j/\j<=b/\(∀ y,m<i->a[i-1-m]?=W y->jw y u=Z')/\(∀ y,a[j-m]?=W y->jw y u=P)/\aj w0 wr/\ag wr (dQ v L*F)
def Va (v:Q) (c b d:List aL) (u:aL) (a:Nat) (w0:T) (F:ai) (u13:Q) (wr:T):Prop:=
 ∃ (A B:List aL),u13 = Z X ((a+A.length:Nat):Int)/\A++B=b/\aj w0 wr/\ag wr (dQ v (c++(A++u :: (B++d)))*F)
def Ot (v:Q) (l f n:List aL) (u:aL) (a m b:Nat) (ha:l.length=a) (hm:a+1=m) (hb:m+f.length=b) (hV:eJ jw f) (w:T) (F:ai) (hl:(l++([u]++(f++n))).length<=4000) (h:ag w (dQ v (l++([u]++(f++n)))*F)) :
  Calls O 192 #[v,Z X (a:Int),Z X (m:Int),Z X (b:Int),zI] w (mO v l ([u]++f) n F w):=by
 refine aF fun Q' HQ=>?_;obtain ⟨va,vc,rfl⟩:=aC h;obtain ⟨L,H⟩:=N (l++([u]++(f++n)))
 rw [H] at hl h HQ ⊢;obtain ⟨d,hN⟩:=N L.length
 rw [hN] at hl h HQ ⊢;have N0:b+n.length=d:=by rw [<- hN,<- H];simp only [A3,D6];omega
 have L0:L[a]?=W u:=by rw [<- H,B3 U,ha,D3];rfl
 have K0:∀ h,m<=h->h<b->L[h]?=f[h-m]?:=fun h h1 s=>by
  rw [<- H,B3 U,B3 (by rw [D6];omega),K6 (by rw [D6];omega)];congr 1;rw [D6];omega
 have g1:(m:Int)-(a:Int)=1:=U
 have j1:(d:Int)<=4000:=U
 have m1:(b:Int)<=(d:Int):=U
 have l1:(a:Int)<(m:Int):=U
 have x1:(m:Int)<=(b:Int):=U
 have x0:=ae h;have Ha:=ae ha;have Hm:=ae hm;have Hb:=ae hb;have i1:=ae N0;have HN:=ae hN;have HL:=ae H;have j0:=ae L0;have W0:=ae K0;have HV:=ae hV;clear h ha hm hb N0 hN H L0 K0 hV
 go_in
 go_wp2_with fail
 go_loopw [10,11] (fun u10 u11 wr=>Xs (S va d vc) L f u m b w F u10 u11 wr) (fun u10 u11 _=>(intOf u11).toNat-(intOf u10).toNat)
 case atStart=>exact ⟨m,b,rfl,rfl,D9 _,U,D9 _,fun y h1=>absurd h1 (K5 _),fun y h1=>by
   have:=(List.getElem?_eq_some_iff.1 h1).1;have:=Hb.o;omega,aj.refl w,x0.o⟩
 case round=>
  obtain ⟨i,j,rfl,rfl,b1,s1,Z0,hI,hJ,s0,b0⟩:=hrel;clear x0;have u1:(j:Int)<=(b:Int):=U
  have r1:(i:Int)<=(j:Int):=U
  by_cases v1:i<j
  .have w1:(i:Int)<(j:Int):=U
   obtain ⟨h,hh⟩:=N ((i+j)/2)
   have e1:(i:Int)+(j:Int)<=8000:=U
   have q1:((i:Int)+(j:Int))/2=(h:Int):=U
   have o1:(h:Int)<4000:=U
   have n1:(h:Int)<(d:Int):=U
   have Y0:h-m<f.length:=by have:=Hb.o;omega
   obtain ⟨y,hy⟩:∃ y,f[h-m]?=W y:=⟨_,K9 Y0⟩
   have l0:L[h]?=W y:=by rw [W0.o h U U];exact hy
   obtain ⟨g,c,e,k1,k2,J,K,D,E⟩:=gh b0 HN.o (by omega:h<d) (by omega:a<d) l0 j0.o;simp only [Value.slice.injEq] at e;obtain ⟨rfl,-,rfl⟩:=e;obtain ⟨cz,o0⟩:=N (xN y u)
   have HC:=ae (fun w=>uR o0 w);have n0:=uE y u;rw [o0] at n0;have G0:=ae n0;have D0:=ae l0;have Hy:=ae hy;have HI:=ae hI;have HJ:=ae hJ;have HS:=ae b0;have A1:(d:Int)<=(vc:Int):=U
   have p1:(a:Int)<(d:Int):=U
   clear o0 n0 l0 hy hI hJ b0 k1
   by_cases hz:cz<0
   .have r0:Hid (jw y u=Z'):=by show _=_;rw [<- G0.o];exact decide_eq_true hz
    have d1:decide (cz<0)=Z':=decide_eq_true hz
    go_wp2_with fail
    go_region_held3 (fun q=>q.cell? ⟨g,h*2,V⟩=W (Z X (y.nd:Int))/\q.cell? ⟨g,h*2+1,V⟩=W (Y (str y.nm))/\q.cell? ⟨g,a*2,V⟩=W (Z X (u.nd:Int))/\q.cell? ⟨g,a*2+1,V⟩=W (Y (str u.nm))) (first|exact ⟨J,K,D,E⟩|exact kA|go_keep)
     (first|(go_at_call 79;apply (HC.o wr.drew).mono;rintro e r ⟨rfl,h5,M⟩;have t:=h5.cM (ag.drew HS.o);obtain ⟨g',c',e',-,-,u0⟩:=gh t HN.o (by omega:h<d) (by omega:a<d) D0.o j0.o;have kA:r.cell? ⟨g,h*2,V⟩=W (Z X (y.nd:Int))/\r.cell? ⟨g,h*2+1,V⟩=W (Y (str y.nm))/\r.cell? ⟨g,a*2,V⟩=W (Z X (u.nd:Int))/\r.cell? ⟨g,a*2+1,V⟩=W (Y (str u.nm)):=by simp only [Value.slice.injEq,Option.some.injEq,Addr.mk.injEq] at e';obtain ⟨⟨rfl,-⟩,-⟩:=e';exact u0))
    rename_i k0;have D5:=ae (s0.drew.trans M);have i0:=ae t;clear t h5 M kA k0 HC HS J K D E
    go_wp2_with fail
    go_roundw
    case rel=>exact ⟨h+1,j,Si0,rfl,U,U,Z0,fun y2 _ s=>by
      rw [L5,Hy.o] at s;rw [<- Option.some.inj s];exact r0.o,HJ.o,D5.o,i0.o⟩
    case measure=>simp [intOf];omega
   .have r0:Hid (jw y u=P):=by show _=_;rw [<- G0.o];exact decide_eq_false hz
    have d1:decide (cz<0)=P:=decide_eq_false hz
    go_wp2_with fail
    go_region_held3 (fun q=>q.cell? ⟨g,h*2,V⟩=W (Z X (y.nd:Int))/\q.cell? ⟨g,h*2+1,V⟩=W (Y (str y.nm))/\q.cell? ⟨g,a*2,V⟩=W (Z X (u.nd:Int))/\q.cell? ⟨g,a*2+1,V⟩=W (Y (str u.nm))) (first|exact ⟨J,K,D,E⟩|exact kA|go_keep)
     (first|(go_at_call 79;apply (HC.o wr.drew).mono;rintro e r ⟨rfl,h5,M⟩;have t:=h5.cM (ag.drew HS.o);obtain ⟨g',c',e',-,-,u0⟩:=gh t HN.o (by omega:h<d) (by omega:a<d) D0.o j0.o;have kA:r.cell? ⟨g,h*2,V⟩=W (Z X (y.nd:Int))/\r.cell? ⟨g,h*2+1,V⟩=W (Y (str y.nm))/\r.cell? ⟨g,a*2,V⟩=W (Z X (u.nd:Int))/\r.cell? ⟨g,a*2+1,V⟩=W (Y (str u.nm)):=by simp only [Value.slice.injEq,Option.some.injEq,Addr.mk.injEq] at e';obtain ⟨⟨rfl,-⟩,-⟩:=e';exact u0))
    rename_i k0;have D5:=ae (s0.drew.trans M);have i0:=ae t;clear t h5 M kA k0 HC HS J K D E
    go_wp2_with fail
    go_roundw
    case rel=>exact ⟨i,h,rfl,rfl,b1,U,U,HI.o,fun y2 s=>by
      rw [Hy.o] at s;rw [<- Option.some.inj s];exact r0.o,D5.o,i0.o⟩
    case measure=>simp [intOf];omega
  .obtain rfl:i=j:=U
   have y1:¬ ((i:Int)<(i:Int)):=U
   obtain ⟨o,f0⟩:=N (f.take (i-m))
   obtain ⟨p,m0⟩:=N (f.drop (i-m))
   have g0:o++p=f:=by rw [<- f0,<- m0];exact H3 _ _
   have a1:o.length=i-m:=by rw [<- f0,E5];have:=Hb.o;omega
   have c1:Hid (eJ jw (o++u :: p)):=by
    refine eJ.insert zV (by rw [g0];exact HV.o) (fun A' z e=>?_) fun y I e=>?_
    .rw [<- f0] at e
     obtain ⟨h1,s⟩:=mR e (by have:=Hb.o;omega);exact zV.Q6 _ _ (hI z U (by rw [show i-1-m=i-m-1 by omega];exact s))
    .rw [<- m0] at e
     exact hJ y (mA e)
   have T0:Va (S va d vc) l o (p++n) u a w F (Z X (a:Int)) wr:=⟨[],o,Si0,rfl,s0,by
    have e:L=l++([]++u :: (o++(p++n))):=by rw [<- HL.o,<- g0];simp
    rw [<- e];exact b0⟩
   have H0:=ae T0;have F0:=ae g0;have e1:(i:Int)-1=((a+o.length:Nat):Int):=by have:=Hm.o;omega
   obtain ⟨d0,hq⟩:=N (a+o.length)
   rw [hq] at e1;have z1:(d0:Int)<(d:Int):=U
   have Hq:=ae hq;clear T0 b0 hI hJ f0 m0 g0 a1 hq
   go_wp2_with fail
   go_loopw [13] (fun u13 wr=>Va (S va d vc) l o (p++n) u a w F u13 wr) (fun u13 _=>d0-(intOf u13).toNat)
   case atStart=>exact H0.o
   case round=>
    clear H0;obtain ⟨A,V0,rfl,B,S0,c0⟩:=hrel;obtain ⟨k,C⟩:=N (a+A.length)
    rw [C]
    cases V0 with
    | nil=>
     have R0:k=d0:=by rw [<- C,<- Hq.o,<- B];simp
     subst R0;have H2:=ae c0;have h0:=ae B;clear c0 B C
     go_wp2_with fail
     exact bodyPost_ret (results_none rfl _ _ _) rfl <| HQ.o _ _ ⟨o++u :: p,rfl,by rw [<- F0.o];exact List.perm_middle,c1.o,S0,by have G:=H2.o;have e9:=h0.o;simp at e9;rw [e9] at G;simpa using G⟩
    | cons z I=>
     have R0:k<d0:=by rw [<- C,<- Hq.o,<- B];simp
     have q0:(l++(A++u :: (z :: I++(p++n)))).length=d:=by
      rw [<- HN.o,<- HL.o,<- F0.o,<- B];simp;omega
     have e0:l++(A++u :: (z :: I++(p++n)))=(l++A)++u :: z :: (I++(p++n)):=Si0
     rw [e0] at c0 q0;obtain ⟨g,c,e,k1,k2,⟨J,K,D,E⟩,⟨f1,f2,f3,f4⟩,h7,h8⟩:=j7 c0 (show (l++A).length=k by rw [A3,Ha.o,C]) q0;simp only [Value.slice.injEq] at e;obtain ⟨rfl,-,rfl⟩:=e;obtain ⟨k',p0⟩:=N (k+1)
     rw [p0] at D E f3 f4 h7 h8;have H7:=ae h7;have H8:=ae h8;have h0:=ae B;have Hk:=ae C;have X0:=ae p0;have t1:(k:Int)<(d0:Int):=U
     have t2:IntKind.i64.wrap ((k:Int)+1)=(k':Int):=by rw [IntKind.wrap_i64];omega
     have t3:(k':Int)<(d:Int):=U
     have t4:(d:Int)<=(vc:Int):=U
     have t5:(k:Int)<(d:Int):=U
     have t6:(k:Int)<4000:=U
     have t7:k<k':=U
     clear h7 h8 c0 B q0 e0 C k1 p0
     go_wp2_with fail
     go_region_law (fail)
     all_goals
      go_wp2
      go_roundw
      case rel=>exact ⟨A++[z],I,by rw [A3,D6,<- Nat.add_assoc,Hk.o];first|(rw [X0.o])|simp,by rw [<- h0.o];simp,((((S0.setCell _ _).setCell _ _).setCell _ _).setCell _ _).drew,by
        first
         | (have G:=H7.o.drew;simpa using G)
         | (have G:=H8.o.drew;simpa using G)⟩
      case measure=>simp [intOf];omega
def Xk (x:Q) (L b:List aL) (v:aL) (a m:Nat) (w0:T) (F:ai) (u14 u15:Q) (wr:T):Prop:=
 ∃ (i j:Nat),u14 = Z X (i:Int)/\u15 = Z X (j:Int)/\a<=i/\i<=j/\j<=m/\(∀ y,a<i->b[i-1-a]?=W y->jw v y=P)/\(∀ y,b[j-a]?=W y->jw v y=Z')/\aj w0 wr/\ag wr (dQ x L*F)
def Vn (x:Q) (b a c:List aL) (v:aL) (i:Nat) (w0:T) (F:ai) (u17:Q) (wr:T):Prop:=
 ∃ (A B:List aL),u17 = Z X ((i+A.length:Nat):Int)/\A++B=a/\aj w0 wr/\ag wr (dQ x (b++(A++v :: (B++c)))*F)
def On (x:Q) (t f l:List aL) (v:aL) (a m b:Nat) (ha:t.length=a) (hm:a+f.length=m) (c0:2<=f.length) (hb:m+1=b) (hU:eJ jw f) (w:T) (F:ai) (hl:(t++(f++([v]++l))).length<=4000) (h:ag w (dQ x (t++(f++([v]++l)))*F)) :
  Calls O 192 #[x,Z X (a:Int),Z X (m:Int),Z X (b:Int),zI] w (mO x t (f++[v]) l F w):=by
 refine aF fun Q' HQ=>?_;obtain ⟨va,vc,rfl⟩:=aC h;obtain ⟨L,G⟩:=N (t++(f++([v]++l)))
 rw [G] at hl h HQ ⊢;obtain ⟨d,hN⟩:=N L.length
 rw [hN] at hl h HQ ⊢;have Z0:b+l.length=d:=by rw [<- hN,<- G];simp only [A3,D6];omega
 have Y0:L[m]?=W v:=by rw [<- G,B3 U,B3 U,show m-t.length-f.length=0 by omega];rfl
 have X0:∀ h,a<=h->h<m->L[h]?=f[h-a]?:=fun h u r=>by
  rw [<- G,B3 U,K6 U,ha]
 have g1:((m:Int)-(a:Int) == 1)=P:=by rw [beq_eq_false_iff_ne];omega
 have g2:(b:Int)-(m:Int)=1:=U
 have q1:(d:Int)<=4000:=U
 have s1:(b:Int)<=(d:Int):=U
 have r1:(a:Int)+2<=(m:Int):=U
 have H1:(m:Int)<(b:Int):=U
 have H0:=ae h;have Ha:=ae ha;have H:=ae hm;have Hb:=ae hb;have p1:=ae Z0;have HN:=ae hN;have HL:=ae G;have o0:=ae Y0;have h1:=ae X0;have HU:=ae hU;clear h ha hm hb Z0 hN G Y0 X0 hU c0
 go_in
 go_wp2_with fail
 go_loopw [14,15] (fun u14 u15 wr=>Xk (S va d vc) L f v a m w F u14 u15 wr) (fun u14 u15 _=>(intOf u15).toNat-(intOf u14).toNat)
 case atStart=>exact ⟨a,m,rfl,rfl,D9 _,U,D9 _,fun y u=>absurd u (K5 _),fun y u=>by
   have:=(List.getElem?_eq_some_iff.1 u).1;have:=H.o;omega,aj.refl w,H0.o⟩
 case round=>
  obtain ⟨i,j,rfl,rfl,m1,z1,j1,hI,hJ,F0,g0⟩:=hrel;clear H0;have A1:(j:Int)<=(m:Int):=U
  have y1:(i:Int)<=(j:Int):=U
  by_cases D1:i<j
  .have E1:(i:Int)<(j:Int):=U
   obtain ⟨h,hh⟩:=N ((i+j)/2)
   have e1:(i:Int)+(j:Int)<=8000:=U
   have x1:((i:Int)+(j:Int))/2=(h:Int):=U
   have v1:(h:Int)<4000:=U
   have u1:(h:Int)<(d:Int):=U
   have i1:h-a<f.length:=by have:=H.o;omega
   obtain ⟨y,hy⟩:∃ y,f[h-a]?=W y:=⟨_,K9 i1⟩
   have q0:L[h]?=W y:=by rw [h1.o h U U];exact hy
   obtain ⟨g,c,e,k1,k2,J,K,C,D⟩:=gh g0 HN.o (by omega:m<d) (by omega:h<d) o0.o q0;simp only [Value.slice.injEq] at e;obtain ⟨rfl,-,rfl⟩:=e;obtain ⟨cz,s0⟩:=N (xN v y)
   have HC:=ae (fun w=>uR s0 w);have r0:=uE v y;rw [s0] at r0;have S0:=ae r0;have K0:=ae q0;have Hy:=ae hy;have HI:=ae hI;have HJ:=ae hJ;have HS:=ae g0;have M1:(d:Int)<=(vc:Int):=U
   have w1:(m:Int)<(d:Int):=U
   clear s0 r0 q0 hy hI hJ g0 k1
   by_cases hz:cz<0
   .have D0:Hid (jw v y=Z'):=by show _=_;rw [<- S0.o];exact decide_eq_true hz
    have o1:decide (cz<0)=Z':=decide_eq_true hz
    go_wp2_with fail
    go_region_held3 (fun o=>o.cell? ⟨g,m*2,V⟩=W (Z X (v.nd:Int))/\o.cell? ⟨g,m*2+1,V⟩=W (Y (str v.nm))/\o.cell? ⟨g,h*2,V⟩=W (Z X (y.nd:Int))/\o.cell? ⟨g,h*2+1,V⟩=W (Y (str y.nm))) (first|exact ⟨J,K,C,D⟩|exact kA|go_keep)
     (first|(go_at_call 79;apply (HC.o wr.drew).mono;rintro e p ⟨rfl,h5,M⟩;have s:=h5.cM (ag.drew HS.o);obtain ⟨g',c',e',-,-,G0⟩:=gh s HN.o (by omega:m<d) (by omega:h<d) o0.o K0.o;have kA:p.cell? ⟨g,m*2,V⟩=W (Z X (v.nd:Int))/\p.cell? ⟨g,m*2+1,V⟩=W (Y (str v.nm))/\p.cell? ⟨g,h*2,V⟩=W (Z X (y.nd:Int))/\p.cell? ⟨g,h*2+1,V⟩=W (Y (str y.nm)):=by simp only [Value.slice.injEq,Option.some.injEq,Addr.mk.injEq] at e';obtain ⟨⟨rfl,-⟩,-⟩:=e';exact G0))
    rename_i p0;have D5:=ae (F0.drew.trans M);have n0:=ae s;clear s h5 M kA p0 HC HS J K C D
    go_wp2_with fail
    go_roundw
    case rel=>exact ⟨i,h,rfl,rfl,m1,U,U,HI.o,fun y2 r=>by
      rw [Hy.o] at r;rw [<- Option.some.inj r];exact D0.o,D5.o,n0.o⟩
    case measure=>simp [intOf];omega
   .have D0:Hid (jw v y=P):=by show _=_;rw [<- S0.o];exact decide_eq_false hz
    have o1:decide (cz<0)=P:=decide_eq_false hz
    go_wp2_with fail
    go_region_held3 (fun o=>o.cell? ⟨g,m*2,V⟩=W (Z X (v.nd:Int))/\o.cell? ⟨g,m*2+1,V⟩=W (Y (str v.nm))/\o.cell? ⟨g,h*2,V⟩=W (Z X (y.nd:Int))/\o.cell? ⟨g,h*2+1,V⟩=W (Y (str y.nm))) (first|exact ⟨J,K,C,D⟩|exact kA|go_keep)
     (first|(go_at_call 79;apply (HC.o wr.drew).mono;rintro e p ⟨rfl,h5,M⟩;have s:=h5.cM (ag.drew HS.o);obtain ⟨g',c',e',-,-,G0⟩:=gh s HN.o (by omega:m<d) (by omega:h<d) o0.o K0.o;have kA:p.cell? ⟨g,m*2,V⟩=W (Z X (v.nd:Int))/\p.cell? ⟨g,m*2+1,V⟩=W (Y (str v.nm))/\p.cell? ⟨g,h*2,V⟩=W (Z X (y.nd:Int))/\p.cell? ⟨g,h*2+1,V⟩=W (Y (str y.nm)):=by simp only [Value.slice.injEq,Option.some.injEq,Addr.mk.injEq] at e';obtain ⟨⟨rfl,-⟩,-⟩:=e';exact G0))
    rename_i p0;have D5:=ae (F0.drew.trans M);have n0:=ae s;clear s h5 M kA p0 HC HS J K C D
    go_wp2_with fail
    go_roundw
    case rel=>exact ⟨h+1,j,Si0,rfl,U,U,j1,fun y2 _ r=>by
      rw [L5,Hy.o] at r;rw [<- Option.some.inj r];exact D0.o,HJ.o,D5.o,n0.o⟩
    case measure=>simp [intOf];omega
  .obtain rfl:i=j:=U
   have L1:¬ ((i:Int)<(i:Int)):=U
   obtain ⟨I,j0⟩:=N (f.take (i-a))
   obtain ⟨n,c0⟩:=N (f.drop (i-a))
   have d0:I++n=f:=by rw [<- j0,<- c0];exact H3 _ _
   have x0:I.length=i-a:=by rw [<- j0,E5];have:=H.o;omega
   have n1:Hid (eJ jw (I++v :: n)):=by
    refine eJ.insert zV (by rw [d0];exact HU.o) (fun B z e=>?_) fun y B' e=>?_
    .rw [<- j0] at e
     obtain ⟨u,r⟩:=mR e (by have:=H.o;omega);exact hI z U (by rw [show i-1-a=i-a-1 by omega];exact r)
    .rw [<- c0] at e
     exact zV.Q6 _ _ (hJ y (mA e))
   obtain ⟨q,k0⟩:=N (t++I)
   have a1:q.length=i:=by rw [<- k0,A3,Ha.o,x0];omega
   have b1:i+n.length=m:=by
    have u:=H.o;rw [<- d0,A3,x0] at u;omega
   have d1:Vn (S va d vc) q n l v i w F (Z X (m:Int)) wr:=⟨n,[],by rw [b1],D8 _,F0,by
    have e:L=q++(n++v :: ([]++l)):=by rw [<- HL.o,<- d0,<- k0];simp
    rw [<- e];exact g0⟩
   have W0:=ae d1;have L0:=ae d0;have N0:=ae k0;have R0:=ae a1;have K1:(m:Int)<(d:Int):=U
   clear d1 g0 hI hJ j0 c0 d0 x0 k0 a1 b1
   go_wp2_with fail
   go_loopw [17] (fun u17 wr=>Vn (S va d vc) q n l v i w F u17 wr) (fun u17 _=>(intOf u17).toNat)
   case atStart=>exact W0.o
   case round=>
    clear W0;obtain ⟨A,i0,rfl,b0,c1,h0⟩:=hrel;obtain ⟨k,hk⟩:=N (i+A.length)
    rw [hk]
    have f0:(q++(A++v :: (i0++l))).length=d:=by
     rw [<- HN.o,<- HL.o,<- L0.o,<- N0.o,<- b0];simp;omega
    have B1:k<d:=by rw [<- f0];simp [R0.o];omega
    rcases K3 A with rfl|⟨B,z,rfl⟩
    .have l1:i=k:=by simpa using hk
     subst l1;have H2:=ae h0;have m0:=ae b0;clear h0 b0 hk f0
     go_wp2_with fail
     exact bodyPost_ret (results_none rfl _ _ _) rfl <| HQ.o _ _ ⟨I++v :: n,rfl,by
      rw [<- L0.o,G3];exact J7 _ (List.perm_append_singleton v n).symm,n1.o,c1,by have E:=H2.o;have e9:=m0.o;simp at e9;rw [e9,<- N0.o] at E;simpa using E⟩
    .rw [K8] at *
     obtain ⟨k',l0⟩:=N (i+B.length)
     have u0:k'+1=k:=by rw [<- hk,<- l0,A3,D6];omega
     have e0:q++(B++[z]++v :: (i0++l))=(q++B)++z :: v :: (i0++l):=Si0
     rw [e0] at h0 f0;obtain ⟨g,c,e,k1,k2,⟨J,K,C,D⟩,⟨f1,f2,f3,f4⟩,h7,h8⟩:=j7 h0 (show (q++B).length=k' by rw [A3,R0.o,l0]) f0;simp only [Value.slice.injEq] at e;obtain ⟨rfl,-,rfl⟩:=e;rw [u0] at C D f3 f4 h7 h8;have H7:=ae h7;have H8:=ae h8;have m0:=ae b0;have T0:=ae l0;have V0:=ae u0;have t1:(i:Int)<(k:Int):=U
     have t2:IntKind.i64.wrap ((k:Int)-1)=(k':Int):=by rw [IntKind.wrap_i64];omega
     have t3:(k':Int)<(d:Int):=U
     have t4:(d:Int)<=(vc:Int):=U
     have t5:(k:Int)<(d:Int):=U
     have t6:(k:Int)<4000:=U
     have t7:k'<k:=U
     clear h7 h8 h0 b0 f0 e0 hk k1 l0 u0
     go_wp2_with fail
     go_region_law (fail)
     all_goals
      go_wp2
      go_roundw
      case rel=>exact ⟨B,z :: i0,by first|(rw [T0.o])|(rw [T0.o];have:=V0.o;congr 1;omega),by rw [<- m0.o];simp,((((c1.setCell _ _).setCell _ _).setCell _ _).setCell _ _).drew,by
        first
         | (have E:=H8.o.drew;simpa using E)
         | (have E:=H7.o.drew;simpa using E)⟩
      case measure=>have:=V0.o;simp [intOf];omega
def Rq (n:Nat):Prop:=∀ (v:Q) (e c d f:List aL) (a m b:Nat),e.length=a->a+c.length=m->m+d.length=b->1<=c.length->1<=d.length->c.length+d.length<n->eJ jw c->eJ jw d->∀ (w:T) (F:ai),(e++(c++(d++f))).length<=4000->ag w (dQ v (e++(c++(d++f)))*F) ->
  Calls O 192 #[v,Z X (a:Int),Z X (m:Int),Z X (b:Int),zI] w (mO v e (c++d) f F w)
def Xm (a m b n:Nat) (w0:T) (u20 u21:Q) (e:T):Prop:=
 ∃ d c:Nat,u20 = Z X (d:Int)/\u21 = Z X (c:Int)/\a<=d/\d<=c/\c<=m/\n<=b+d/\m+c<=n/\(d=a\/b+d=n)/\(c=m\/m+c=n)/\w0=e
def Xo (v:Q) (L b c:List aL) (a m n e d:Nat) (w0:T) (F:ai) (u20 u21:Q) (wr:T):Prop:=
 ∃ (s r:Nat),u20 = Z X (s:Int)/\u21 = Z X (r:Int)/\e<=s/\s<=r/\r<=d/\(∀ x y,e<s->b[s-1-a]?=W x->c[n-s-m]?=W y->jw y x=P)/\(∀ x y,r<d->b[r-a]?=W x->c[n-1-r-m]?=W y->jw y x=Z')/\aj w0 wr/\ag wr (dQ v L*F)
def V8 (v:Q) (L:List aL) (w0:T) (F:ai) (wr:T):Prop:=ag wr (dQ v L*F)/\aj w0 wr
def Xa (v:Q) (b A c:List aL) (w0:T) (F:ai) (wr:T):Prop:=∃ a:List aL,a.Perm A/\eJ jw a/\ag wr (dQ v (b++(a++c))*F)/\aj w0 wr
def Mx (n0:Nat) (IH:Rq n0) (v:Q) (u C D B:List aL) (a m b:Nat) (ha:u.length=a) (hm:a+C.length=m) (hb:m+D.length=b) (g0:2<=C.length) (h0:2<=D.length) (x1:C.length+D.length<=n0) (hU:eJ jw C) (hV:eJ jw D) (w:T) (F:ai) (hl:(u++(C++(D++B))).length<=4000) (h:ag w (dQ v (u++(C++(D++B)))*F)) :
  Calls O 192 #[v,Z X (a:Int),Z X (m:Int),Z X (b:Int),zI] w (mO v u (C++D) B F w):=by
 refine aF fun Q' HQ=>?_;obtain ⟨M,H,rfl⟩:=aC h;obtain ⟨L,hL⟩:=N (u++(C++(D++B)))
 rw [hL] at hl h HQ ⊢;obtain ⟨f,hN⟩:=N L.length
 rw [hN] at hl h HQ ⊢;have u1:b+B.length=f:=by rw [<- hN,<- hL];simp only [A3];omega
 have r1:∀ h,a<=h->h<m->L[h]?=C[h-a]?:=fun h h1 J=>by
  rw [<- hL,B3 U,K6 U,ha]
 have s1:∀ h,m<=h->h<b->L[h]?=D[h-m]?:=fun h h1 J=>by
  rw [<- hL,B3 U,B3 U,K6 U];congr 1;omega
 have g1:((m:Int)-(a:Int) == 1)=P:=by rw [beq_eq_false_iff_ne];omega
 have g2:((b:Int)-(m:Int) == 1)=P:=by rw [beq_eq_false_iff_ne];omega
 have f2:(f:Int)<=4000:=U
 have i2:(b:Int)<=(f:Int):=U
 have h2:(a:Int)+2<=(m:Int):=U
 have r2:(m:Int)+2<=(b:Int):=U
 obtain ⟨o,t2⟩:=N ((a+b)/2)
 obtain ⟨n,hn⟩:=N (o+m)
 have q1:((a:Int)+(b:Int))/2=(o:Int):=U
 have q2:(o:Int)+(m:Int)=(n:Int):=U
 have q3:(a:Int)+(b:Int)<=8000:=U
 have q4:(n:Int)<=8000:=U
 have d1:=ae h;have Ha:=ae ha;have Hm:=ae hm;have Hb:=ae hb;have d2:=ae u1;have HN:=ae hN;have HL:=ae hL;have T1:=ae r1;have U1:=ae s1;have HU:=ae hU;have HV:=ae hV;have f1:=ae IH;have m1:=ae x1;clear h ha hm hb u1 hN hL r1 s1 hU hV IH x1 g0 h0
 go_in
 go_upto_if 140 with (fail)
 generalize v1:decide (o<m)=cb
 go_cut [20,21] from 141 to 146 (fun u20 u21 wx=>Xm a m b n w u20 u21 wx)
 case first=>
  cases cb with
  | true=>
   have Y1:o<m:=of_decide_eq_true v1;have hc:(o:Int)<(m:Int):=U
   obtain ⟨s0,Y0⟩:=N (n-b)
   have e1:(n:Int)-(b:Int)=(s0:Int):=U
   go_wp2_with fail
   go_meet
   exact ⟨s0,o,rfl,rfl,U,U,U,U,U,.inr U,.inr U,rfl⟩
  | false=>
   have Y1:¬ o<m:=of_decide_eq_false v1;have hc:¬ (o:Int)<(m:Int):=U
   go_wp2_with fail
   go_meet
   exact ⟨a,m,rfl,rfl,U,U,U,U,U,.inl rfl,.inl rfl,rfl⟩
 case rest=>
  obtain ⟨s0,r0,rfl,rfl,z1,z2,z3,z4,z5,z6,z7,rfl⟩:=hcut;have K2:(a:Int)<=(s0:Int):=U
  have N2:(r0:Int)<=(m:Int):=U
  have M2:(s0:Int)<=(r0:Int):=U
  obtain ⟨a1,hp⟩:=N (n-1)
  have q5:(n:Int)-1=(a1:Int):=U
  go_wp2_with fail
  go_loopw [20,21] (fun u20 u21 wr=>Xo (S M f H) L C D a m n s0 r0 w F u20 u21 wr) (fun u20 u21 _=>(intOf u21).toNat-(intOf u20).toNat)
  case atStart=>exact ⟨s0,r0,rfl,rfl,D9 _,z2,D9 _,fun x y h=>absurd h (K5 _),fun x y h=>absurd h (K5 _),aj.refl w,d1.o⟩
  case round=>
   obtain ⟨s,r,rfl,rfl,Y0,H2,y1,hI,hJ,k0,l0⟩:=hrel;clear d1;have D2:(s:Int)<=(r:Int):=U
   have B2:(r:Int)<=(m:Int):=U
   by_cases n2:s<r
   .have o2:(s:Int)<(r:Int):=U
    obtain ⟨c,hc⟩:=N ((s+r)/2)
    have e1:(s:Int)+(r:Int)<=8000:=U
    have e2:((s:Int)+(r:Int))/2=(c:Int):=U
    have e3:(c:Int)<(f:Int):=U
    obtain ⟨t,A2⟩:=N (a1-c)
    have e4:IntKind.i64.wrap ((a1:Int)-(c:Int))=(t:Int):=by rw [IntKind.wrap_i64];omega
    have e5:(t:Int)<(f:Int):=U
    have Z1:c-a<C.length:=by have:=Hm.o;omega
    have a2:t-m<D.length:=by have:=Hb.o;omega
    obtain ⟨x,hx⟩:∃ x,C[c-a]?=W x:=⟨_,K9 Z1⟩
    obtain ⟨y,hy⟩:∃ y,D[t-m]?=W y:=⟨_,K9 a2⟩
    have L0:L[c]?=W x:=by rw [T1.o c U U];exact hx
    have N0:L[t]?=W y:=by rw [U1.o t U U];exact hy
    obtain ⟨g,cc,e,k1,k2,c1,c2,c3,c4⟩:=gh l0 HN.o (by omega:t<f) (by omega:c<f) N0 L0;simp only [Value.slice.injEq] at e;obtain ⟨rfl,-,rfl⟩:=e;obtain ⟨cz,V0⟩:=N (xN y x)
    have HC:=ae (fun w=>uR V0 w);have T0:=uE y x;rw [V0] at T0;have l1:=ae T0;have i1:=ae L0;have j1:=ae N0;have Hx:=ae hx;have Hy:=ae hy;have HI:=ae hI;have HJ:=ae hJ;have HS:=ae l0;have J2:(f:Int)<=(H:Int):=U
    have e6:(c:Int)<4000:=U
    clear V0 T0 L0 N0 hx hy hI hJ l0 k1
    by_cases hz:cz<0
    .have X0:Hid (jw y x=Z'):=by show _=_;rw [<- l1.o];exact decide_eq_true hz
     have b2:decide (cz<0)=Z':=decide_eq_true hz
     go_wp2_with fail
     go_region_held3 (fun w'=>w'.cell? ⟨g,t*2,V⟩=W (Z X (y.nd:Int))/\w'.cell? ⟨g,t*2+1,V⟩=W (Y (str y.nm))/\w'.cell? ⟨g,c*2,V⟩=W (Z X (x.nd:Int))/\w'.cell? ⟨g,c*2+1,V⟩=W (Y (str x.nm))) (first|exact ⟨c1,c2,c3,c4⟩|exact kA|go_keep)
      (first|(go_at_call 79;apply (HC.o wr.drew).mono;rintro e w5 ⟨rfl,h5,d5⟩;have H5:=h5.cM (ag.drew HS.o);obtain ⟨g',c',e',-,-,Z0⟩:=gh H5 HN.o (by omega:t<f) (by omega:c<f) j1.o i1.o;have kA:w5.cell? ⟨g,t*2,V⟩=W (Z X (y.nd:Int))/\w5.cell? ⟨g,t*2+1,V⟩=W (Y (str y.nm))/\w5.cell? ⟨g,c*2,V⟩=W (Z X (x.nd:Int))/\w5.cell? ⟨g,c*2+1,V⟩=W (Y (str x.nm)):=by simp only [Value.slice.injEq,Option.some.injEq,Addr.mk.injEq] at e';obtain ⟨⟨rfl,-⟩,-⟩:=e';exact Z0))
     rename_i H0;have D5:=ae (k0.drew.trans d5);have x0:=ae H5;clear H5 h5 d5 kA H0 HC HS c1 c2 c3 c4
     go_wp2_with fail
     go_roundw
     case rel=>exact ⟨s,c,rfl,rfl,Y0,U,U,HI.o,fun E y2 _ J K=>by
       rw [Hx.o] at J;rw [show n-1-c-m=t-m by omega,Hy.o] at K;rw [<- Option.some.inj J,<- Option.some.inj K];exact X0.o,D5.o,x0.o⟩
     case measure=>simp [intOf];omega
    .have X0:Hid (jw y x=P):=by show _=_;rw [<- l1.o];exact decide_eq_false hz
     have b2:decide (cz<0)=P:=decide_eq_false hz
     go_wp2_with fail
     go_region_held3 (fun w'=>w'.cell? ⟨g,t*2,V⟩=W (Z X (y.nd:Int))/\w'.cell? ⟨g,t*2+1,V⟩=W (Y (str y.nm))/\w'.cell? ⟨g,c*2,V⟩=W (Z X (x.nd:Int))/\w'.cell? ⟨g,c*2+1,V⟩=W (Y (str x.nm))) (first|exact ⟨c1,c2,c3,c4⟩|exact kA|go_keep)
      (first|(go_at_call 79;apply (HC.o wr.drew).mono;rintro e w5 ⟨rfl,h5,d5⟩;have H5:=h5.cM (ag.drew HS.o);obtain ⟨g',c',e',-,-,Z0⟩:=gh H5 HN.o (by omega:t<f) (by omega:c<f) j1.o i1.o;have kA:w5.cell? ⟨g,t*2,V⟩=W (Z X (y.nd:Int))/\w5.cell? ⟨g,t*2+1,V⟩=W (Y (str y.nm))/\w5.cell? ⟨g,c*2,V⟩=W (Z X (x.nd:Int))/\w5.cell? ⟨g,c*2+1,V⟩=W (Y (str x.nm)):=by simp only [Value.slice.injEq,Option.some.injEq,Addr.mk.injEq] at e';obtain ⟨⟨rfl,-⟩,-⟩:=e';exact Z0))
     rename_i H0;have D5:=ae (k0.drew.trans d5);have x0:=ae H5;clear H5 h5 d5 kA H0 HC HS c1 c2 c3 c4
     go_wp2_with fail
     go_roundw
     case rel=>exact ⟨c+1,r,Si0,rfl,U,U,y1,fun E y2 _ J K=>by
       rw [L5,Hx.o] at J;rw [show n-(c+1)-m=t-m by omega,Hy.o] at K;rw [<- Option.some.inj J,<- Option.some.inj K];exact X0.o,HJ.o,D5.o,x0.o⟩
     case measure=>simp [intOf];omega
   .obtain rfl:s=r:=U
    have x2:¬ ((s:Int)<(s:Int)):=U
    obtain ⟨e,he⟩:=N (n-s)
    have e1:(n:Int)-(s:Int)=(e:Int):=U
    obtain ⟨p,p0⟩:=N (C.take (s-a))
    obtain ⟨k,g0⟩:=N (C.drop (s-a))
    obtain ⟨q,q0⟩:=N (D.take (e-m))
    obtain ⟨l,h0⟩:=N (D.drop (e-m))
    have R0:p++k=C:=by rw [<- p0,<- g0];exact H3 _ _
    have S0:q++l=D:=by rw [<- q0,<- h0];exact H3 _ _
    have E1:a+p.length=s:=by rw [<- p0,E5];have:=Hm.o;omega
    have K1:s+k.length=m:=by rw [<- g0,K7];have:=Hm.o;omega
    have M1:m+q.length=e:=by rw [<- q0,E5];have:=Hb.o;omega
    have N1:e+l.length=b:=by rw [<- h0,K7];have:=Hb.o;omega
    have o1:∀ A' z y B',p=A'++[z]->l=y :: B'->jw y z=P:=fun A' z y B' e3 e4=>by
     rw [<- p0] at e3;rw [<- h0] at e4;obtain ⟨h1,J⟩:=mR e3 (by have:=Hm.o;omega);have K:=mA e4;have h4:=(List.getElem?_eq_some_iff.1 K).1;exact hI z y (by have:=Hb.o;omega) (by rw [show s-1-a=s-a-1 by omega];exact J) (by rw [he];exact K)
    have p1:∀ A' z y B',q=A'++[z]->k=y :: B'->jw z y=Z':=fun A' z y B' e3 e4=>by
     rw [<- q0] at e3;rw [<- g0] at e4;obtain ⟨h1,J⟩:=mR e3 (by have:=Hb.o;omega);have K:=mA e4;have h4:=(List.getElem?_eq_some_iff.1 K).1;exact hJ y z (by have:=Hm.o;omega) K (by rw [show n-1-s-m=e-m-1 by omega];exact J)
    have K0:L=u++(p++(k++(q++(l++B)))):=by rw [<- HL.o,<- R0,<- S0];simp
    have t1:u.length+(p.length+(q.length+(k.length+(l.length+B.length))))=f:=by rw [<- HN.o,K0];simp only [A3];omega
    have m2:(s:Int)+(e:Int)=(o:Int)+(m:Int):=U
    have l2:(m:Int)<=(e:Int):=U
    have j2:(e:Int)<=(b:Int):=U
    have E2:(a:Int)<=(s:Int):=U
    have w2:o+m=s+e:=U
    have HS:=ae l0;have D0:=ae K0;have R1:=ae o1;have S1:=ae p1;have e0:=ae R0;have f0:=ae S0;have L1:=ae E1;have L2:=ae K1;have L3:=ae M1;have L4:=ae N1;have F0:=ae t1;have u2:(a:Int)<(o:Int):=U
    have v2:(o:Int)<(b:Int):=U
    clear l0 K0 o1 p1 R0 S0 E1 K1 M1 N1 p0 g0 q0 h0 hI hJ Y0 y1 z6 z7 t1;obtain ⟨cr,j0⟩:=Mn0 ((decide (s<m) && decide (m<e)))
    go_upto_region 39 with (fail)
    go_cut [185] from 178 to 185 (fun b1 wx=>b1 = .bool cr/\wr=wx)
    case first=>
     by_cases G:s<m
     .have m0:((s:Int)<(m:Int)):=U
      by_cases E:m<e
      .have o0:((m:Int)<(e:Int)):=U
       go_wp2_with fail
       go_meet
       exact ⟨by rw [j0,decide_eq_true G,decide_eq_true E];first|rfl|simp,rfl⟩
      .have o0:¬ ((m:Int)<(e:Int)):=U
       go_wp2_with fail
       go_meet
       exact ⟨by rw [j0,decide_eq_false E,Bool.and_false],rfl⟩
     .have m0:¬ ((s:Int)<(m:Int)):=U
      go_wp2_with fail
      go_meet
      exact ⟨by rw [j0,decide_eq_false G,Bool.false_and],rfl⟩
    case rest=>
     obtain ⟨rfl,rfl⟩:=hcut
     have A1:V8 (S M f H) (u++(p++(q++(k++(l++B))))) w F wr\/cr=Z':=by
      by_cases G:s<m
      .by_cases E:m<e
       .exact .inr (by rw [j0,decide_eq_true G,decide_eq_true E];rfl)
       .have hv:q=[]:=D4 (by have:=L3.o;omega)
        refine .inl ⟨?_,k0⟩;have d:=HS.o;rw [D0.o,hv] at d;rw [hv];exact d
      .have hu:k=[]:=D4 (by have:=L2.o;omega)
       refine .inl ⟨?_,k0⟩;have d:=HS.o;rw [D0.o,hu] at d;rw [hu];exact d
     have n1:=ae A1;have W1:=ae j0;clear A1 j0
     go_upto_if 185 with (fail)
     go_cut [] from 186 to 191 (fun wx=>V8 (S M f H) (u++(p++(q++(k++(l++B))))) w F wx)
     case first=>
      cases cr with
      | true=>
       have hx:=W1.o.symm;rw [Bool.and_eq_true,decide_eq_true_eq,decide_eq_true_eq] at hx;obtain ⟨G,E⟩:=hx
       have d0:=Ek (S M f H) (u++p) k q (l++B) s m e (by rw [A3,Ha.o];exact L1.o) L2.o L3.o (by have:=L2.o;omega) (by have:=L3.o;omega) wr F (by
        simp only [A3];have:=F0.o;omega) (by
        have d:=HS.o;rw [D0.o] at d;simpa using d)
       have c0:=ae d0;clear d0 G E
       go_wp2_with fail
       apply c0.o.mono;rintro r w6 ⟨rfl,d6,h6⟩;have H6:=ae h6;clear h6 c0
       go_wp2_with fail
       go_meet
       exact ⟨by have d:=H6.o;simpa using d,k0.trans d6⟩
      | false=>
       have hR:V8 (S M f H) (u++(p++(q++(k++(l++B))))) w F wr:=n1.o.resolve_right De0;have HR:=ae hR;clear hR
       go_wp2_with fail
       go_meet
       exact HR.o
     case rest=>
      obtain ⟨B1,u0⟩:=hcut;have H6:=ae B1;clear B1 HS n1 k0;obtain ⟨c1,i0⟩:=Mn0 ((decide (a<s) && decide (s<o)))
      go_upto_region 41 with (fail)
      go_cut [199] from 192 to 199 (fun b1 wx=>b1 = .bool c1/\wc=wx)
      case first=>
       by_cases G:a<s
       .have m0:((a:Int)<(s:Int)):=U
        by_cases E:s<o
        .have o0:((s:Int)<(o:Int)):=U
         go_wp2_with fail
         go_meet
         exact ⟨by rw [i0,decide_eq_true G,decide_eq_true E];first|rfl|simp,rfl⟩
        .have o0:¬ ((s:Int)<(o:Int)):=U
         go_wp2_with fail
         go_meet
         exact ⟨by rw [i0,decide_eq_false E,Bool.and_false],rfl⟩
       .have m0:¬ ((a:Int)<(s:Int)):=U
        go_wp2_with fail
        go_meet
        exact ⟨by rw [i0,decide_eq_false G,Bool.false_and],rfl⟩
      case rest=>
       obtain ⟨rfl,rfl⟩:=hcut
       have h1:Xa (S M f H) u (p++q) (k++(l++B)) w F wc\/c1=Z':=by
        by_cases G:a<s
        .by_cases E:s<o
         .exact .inr (by rw [i0,decide_eq_true G,decide_eq_true E];rfl)
         .have hv:q=[]:=D4 (by have:=L3.o;omega)
          refine .inl ⟨p,by rw [hv,D8],by have d:=HU.o;rw [<- e0.o] at d;exact (eJ.app.1 d).1,?_,u0⟩;have d:=H6.o;rw [hv,H4] at d;exact d
        .have hu:p=[]:=D4 (by have:=L1.o;omega)
         refine .inl ⟨q,by rw [hu,H4],by have d:=HV.o;rw [<- f0.o] at d;exact (eJ.app.1 d).1,?_,u0⟩;have d:=H6.o;rw [hu,H4] at d;exact d
       have H1:=ae h1;have V1:=ae i0;clear h1 i0
       go_upto_if 199 with (fail)
       go_cut [] from 200 to 205 (fun wx=>Xa (S M f H) u (p++q) (k++(l++B)) w F wx)
       case first=>
        cases c1 with
        | true=>
         have hx:=V1.o.symm;rw [Bool.and_eq_true,decide_eq_true_eq,decide_eq_true_eq] at hx;obtain ⟨G,E⟩:=hx
         have d0:=f1.o (S M f H) u p q (k++(l++B)) a s o Ha.o L1.o (by have:=L3.o;omega) (by have:=L1.o;omega) (by have:=L3.o;omega) (by have:=L1.o;have:=L3.o;have:=m1.o;have:=Hm.o;have:=Hb.o;omega) (by have d:=HU.o;rw [<- e0.o] at d;exact (eJ.app.1 d).1) (by have d:=HV.o;rw [<- f0.o] at d;exact (eJ.app.1 d).1) wc F (by
          simp only [A3];have:=F0.o;omega) H6.o
         have c0:=ae d0;clear d0 G E
         go_wp2_with fail
         apply c0.o.mono;rintro r w7 ⟨I,rfl,p7,s7,d7,h7⟩;have H7:=ae h7;have P7:=ae p7;have S7:=ae s7;clear h7 c0 p7 s7
         go_wp2_with fail
         go_meet
         exact ⟨I,P7.o,S7.o,H7.o,u0.trans d7⟩
        | false=>
         have hR:=H1.o.resolve_right De0;have HR:=ae hR;clear hR
         go_wp2_with fail
         go_meet
         exact HR.o
       case rest=>
        obtain ⟨I,p7,s7,D1,W0⟩:=hcut;have H7:=ae D1;have P7:=ae p7;have S7:=ae s7;have O1:u.length+I.length=o:=by have:=p7.length_eq;rw [A3] at this;have:=Ha.o;have:=L1.o;have:=L3.o;omega
        have X1:=ae O1
        have w1:∀ W2:List aL,W2.Perm (k++l)->eJ jw W2->(I++W2).Perm (C++D)/\eJ jw (I++W2):=fun W2 p2 s2=>by
         refine ⟨?_,eJ.RC zV (U1:=p) (U2:=k) (V1:=q) (V2:=l) (by rw [e0.o];exact HU.o) (by rw [f0.o];exact HV.o) R1.o S1.o S7.o s2 P7.o p2⟩;have e1:=P7.o.append p2;refine e1.trans ?_;rw [<- e0.o,<- f0.o];have e2:(p++q)++(k++l)=p++((q++k)++l):=Si0
         have e3:(p++k)++(q++l)=p++((k++q)++l):=Si0
         rw [e2,e3];exact (List.perm_append_comm.append_right l).append_left p
        have G0:=ae w1;clear D1 p7 s7 O1 w1 H6 H1 u0
        by_cases G:o<e
        .have m0:(o:Int)<(e:Int):=U
         by_cases E:e<b
         .have o0:(e:Int)<(b:Int):=U
          have d0:=f1.o (S M f H) (u++I) k l B o e b (by rw [A3];exact X1.o) (by have:=L2.o;omega) L4.o (by have:=L2.o;omega) (by have:=L4.o;omega) (by have:=L2.o;have:=L4.o;have:=m1.o;have:=Hm.o;have:=Hb.o;omega) (by have d:=HU.o;rw [<- e0.o] at d;exact (eJ.app.1 d).2.1) (by have d:=HV.o;rw [<- f0.o] at d;exact (eJ.app.1 d).2.1) wc F (by
           simp only [A3];have:=F0.o;have:=P7.o.length_eq;rw [A3] at this;omega) (by have d:=H7.o;simpa using d)
          have c0:=ae d0;clear d0
          go_wp2_with fail
          apply c0.o.mono;rintro r w8 ⟨W2,rfl,p8,s8,d8,h8⟩;have H8:=ae h8;have b0:=ae (G0.o W2 p8 s8);clear h8 c0 p8 s8
          go_wp2_with fail
          go_end0
          exact HQ.o _ _ ⟨I++W2,rfl,b0.o.1,b0.o.2,W0.trans d8,by have d:=H8.o;simpa using d⟩
         .have o0:¬ (e:Int)<(b:Int):=U
          have hv:l=[]:=D4 (by have:=L4.o;omega);have b0:=ae (G0.o k (by rw [hv,D8]) (by have d:=HU.o;rw [<- e0.o] at d;exact (eJ.app.1 d).2.1));have H8:Hid (ag wc (dQ (S M f H) (u++((I++k)++B))*F)):=ae (by have d:=H7.o;rw [hv] at d;simpa using d);clear hv
          exact Zy (HQ.o _ _ ⟨I++k,rfl,b0.o.1,b0.o.2,W0,H8.o⟩)
        .have m0:¬ (o:Int)<(e:Int):=U
         have hv:k=[]:=D4 (by have:=L2.o;omega);have b0:=ae (G0.o l (by rw [hv,H4]) (by have d:=HV.o;rw [<- f0.o] at d;exact (eJ.app.1 d).2.1));have H8:Hid (ag wc (dQ (S M f H) (u++((I++l)++B))*F)):=ae (by have d:=H7.o;rw [hv] at d;simpa using d);clear hv
         exact Zy (HQ.o _ _ ⟨I++l,rfl,b0.o.1,b0.o.2,W0,H8.o⟩)
end Go.Proofs.Fs
namespace Go.SL
open RowKit
inductive Fc {α:Type} (lt:α->α->Bool) (bs:Nat):List α->Prop where
 | last (A:List α):A.length<=bs->eJ lt A->Fc lt bs A
 | more (A R:List α):A.length=bs->eJ lt A->Fc lt bs R->Fc lt bs (A++R)
section
variable {α:Type} {lt:α->α->Bool} {bs:Nat} {R:List α}
def Fc.short (h:Fc lt bs R) (b:R.length<=bs):eJ lt R:=by
 cases h with
 | last _ _ s=>exact s
 | more A a c s _=>
  rw [A3] at b;have:a=[]:=D4 U;rw [this,D8];exact s
def Fc.split (h:Fc lt bs R) (d:bs<R.length):∃ A a,R=A++a/\A.length=bs/\eJ lt A/\Fc lt bs a:=by
 cases h with
 | last _ b _=>omega
 | more A a c s b=>exact ⟨A,a,rfl,c,s,b⟩
def Fc.two (h:Fc lt bs R) (n:1<=bs) (l:2*bs<=R.length):∃ A B a,R=A++(B++a)/\A.length=bs/\B.length=bs/\eJ lt A/\eJ lt B/\Fc lt bs a:=by
 obtain ⟨A,a,rfl,c,d,b⟩:=h.split U;rw [A3] at l
 by_cases f:a.length=bs
 .exact ⟨A,a,[],Si0,c,f,d,b.short U,.last [] Si0 eJ.nil⟩
 .obtain ⟨B,e,rfl,k,m,g⟩:=b.split U
  exact ⟨A,B,e,rfl,c,k,d,m,g⟩
def Ac {α:Type} (lt:α->α->Bool) (bs:Nat) (a:List α):Prop:=∀ R,Fc lt bs R->Fc lt bs (a++R)
def Ac.nil:Ac lt bs ([]:List α):=fun R h=>h
def Ac.snoc {b a:List α} (h:Ac lt bs b) (d:a.length=bs) (s:eJ lt a):Ac lt bs (b++a):=fun R c=>by
 rw [G3];exact h _ (.more a R d s c)
end
end Go.SL
namespace Go.Proofs.Fs
open RowKit SL Proofs.Ba
def sn:∀ n,Rq n
 | 0=>fun _ _ _ _ _ _ _ _ _ _ _ _ _ h=>absurd h (Nat.not_lt_zero _)
 | n+1=>fun v e c d f a m b g o k t B C p q w F l h=>by
  by_cases r:c.length=1
  .obtain ⟨u,rfl⟩:=List.length_eq_one_iff.1 r
   exact Ot v e d f u a m b g (by simpa using o) k q w F l h
  .by_cases s:d.length=1
   .obtain ⟨u,rfl⟩:=List.length_eq_one_iff.1 s
    exact On v e c f u a m b g o U (by simpa using k) p w F l h
   .exact Mx n (sn n) v e c d f a m b g o k U U U p q w F l h
def Xn (v:Q) (b:List aL) (c:Nat) (w0:T) (F:ai) (u7 u8:Q) (wr:T):Prop:=
 ∃ (a R:List aL),u7 = Z X (a.length:Int)/\u8 = Z X ((a.length+20:Nat):Int)/\Ac jw 20 a/\(a++R).Perm b/\aj w0 wr/\ag wr (dQ v (a++R)*F)
def WU (v:Q) (a:List aL) (w0:T) (F:ai) (u6:Q) (wr:T):Prop:=
 ∃ (bs:Nat) (L:List aL),u6 = Z X (bs:Int)/\1<=bs/\bs<=8000/\Fc jw bs L/\L.Perm a/\aj w0 wr/\ag wr (dQ v L*F)
def WV (v:Q) (b:List aL) (bs:Nat) (w0:T) (F:ai) (u7 u8:Q) (wr:T):Prop:=
 ∃ (a R:List aL),u7 = Z X (a.length:Int)/\u8 = Z X ((a.length+2*bs:Nat):Int)/\Ac jw (2*bs) a/\Fc jw bs R/\(a++R).Perm b/\aj w0 wr/\ag wr (dQ v (a++R)*F)
def zj:Nat:=3840
def UJ (v:Q) (c:List aL) (F:ai) (w:T) (e:Ending) (b:T):Prop:=
 ∃ a:List aL,e = Y' (.tuple #[])/\a.Perm c/\eJ jw a/\aj w b/\ag b (dQ v a*F)
def EO (v:Q) (o:List aL) (w:T) (F:ai) (hl:o.length<=3990) (k0:ag w (dQ v o*F)) (b:Nat) (hN:o.length=b) :
  Calls O 140 #[v,Z X (b:Int),zI] w (UJ v o F w):=by
 refine aF fun Q' HQ=>?_;obtain ⟨t,u,rfl⟩:=aC k0;have j0:=ae k0;have G:=ae hN;rw [hN] at hl j0 HQ ⊢;have Z0:(b:Int)<=3990:=U
 clear k0 hN
 go_in
 go_wp2_with fail
 go_loopw [7,8] (fun u7 u8 wr=>Xn (S t b u) o b w F u7 u8 wr) (fun u7 _ _=>b-(intOf u7).toNat)
 case atStart=>exact ⟨[],o,rfl,rfl,Ac.nil,L6 _,aj.refl w,j0.o⟩
 case round=>
  obtain ⟨D,R,rfl,rfl,m,c,m0,f0⟩:=hrel;clear j0;obtain ⟨a,d⟩:=N D.length
  have q:a+R.length=b:=by have:=c.length_eq;rw [A3,G.o] at this;omega
  rw [d];have ea:((a+20:Nat):Int)=(a:Int)+20:=U
  rw [ea]
  by_cases H0:a+20<=b
  .have h0:(a:Int)+20<=(b:Int):=U
   obtain ⟨B,hB⟩:=N (R.take 20)
   obtain ⟨R2,x0⟩:=N (R.drop 20)
   have hR:B++R2=R:=by rw [<- hB,<- x0];exact H3 _ _
   have g0:B.length=20:=by rw [<- hB,E5];omega
   rw [<- hR] at f0 c q;have h:=wE (S t b u) D B R2 a (a+20) d U wr F (by have:=c.length_eq;rw [G.o] at this;omega) f0;rw [ea] at h;have k:=ae h;have g:=ae c;have C:=ae m;have q0:=ae g0;have Ha:=ae d;have F0:(a:Int)<=4000:=U
   clear h c m g0 f0 hB x0 hR d q ea
   go_wp2_with fail
   apply k.o.mono;rintro p0 w2 ⟨l,rfl,f,n,H,e⟩;have M:=ae e;have r:=ae f;have S2:=ae n;clear e f n k;have d0:(D++l).length=a+20:=by rw [A3,r.o.length_eq,q0.o,Ha.o]
   have b0:=ae d0;clear d0
   go_wp2_with fail
   go_roundw
   case rel=>exact ⟨D++l,R2,by rw [b0.o];simp,by rw [b0.o];congr 1,C.o.snoc (by rw [r.o.length_eq,q0.o]) S2.o,(by
     rw [G3];exact (J7 D (r.o.append_right R2)).trans g.o),m0.trans H,by have h9:=M.o;simpa using h9⟩
   case measure=>simp [intOf];omega
  .have h0:¬ (a:Int)+20<=(b:Int):=U
   have h:=wE (S t b u) D R [] a b d q wr F (by have:=c.length_eq;rw [G.o] at this;simp at this ⊢;omega) (by rw [D8];exact f0);have k:=ae h;have g:=ae c;have C:=ae m;have Ha:=ae d;have D0:Hid (R.length<=20):=by show R.length<=20;omega
   have F0:(a:Int)<=4000:=U
   clear h c m f0 d q ea
   go_wp2_with fail
   apply k.o.mono;rintro p0 w2 ⟨l,rfl,f,n,H,e⟩;rw [D8] at e;have K0:WU (S t b u) o w F (Z X 20) w2:=⟨20,D++l,rfl,De0,De0,C.o _ (.last l (by rw [f.length_eq];exact D0.o) n),(J7 D f).trans g.o,m0.trans H,e⟩
   have r0:=ae K0;clear e f n k K0 g C Ha D0 m0 F0 h0 H0
   go_wp2_with fail
   go_loopw [6] (fun u6 wr=>WU (S t b u) o w F u6 wr) (fun u6 _=>b-(intOf u6).toNat)
   case atStart=>exact r0.o
   case round=>
    clear r0;obtain ⟨bs,L,rfl,V0,c1,p,c,n0,i0⟩:=hrel;have u0:L.length=b:=by rw [c.length_eq,G.o]
    by_cases H0:bs<b
    .have h0:(bs:Int)<(b:Int):=U
     have L0:WV (S t b u) o bs w F (Z X 0) (Z X (2*(bs:Int))) wr:=⟨[],L,rfl,Si0,Ac.nil,p,c,n0,i0⟩
     have s0:=ae L0;have b1:(1:Int)<=(bs:Int):=U
     clear L0 p c i0 n0 u0
     go_wp2_with fail
     go_loopw [7,8] (fun u7 u8 wr=>WV (S t b u) o bs w F u7 u8 wr) (fun _ u8 _=>b+1-(intOf u8).toNat)
     case atStart=>exact s0.o
     case round=>
      clear s0;obtain ⟨s,R3,rfl,rfl,m,p,c,o0,J⟩:=hrel;obtain ⟨a3,d⟩:=N s.length
      have q:a3+R3.length=b:=by have:=c.length_eq;rw [A3,G.o] at this;omega
      obtain ⟨I,e0⟩:=N (a3+2*bs)
      obtain ⟨K,l0⟩:=N (a3+bs)
      rw [d,e0];have em:(a3:Int)+(bs:Int)=(K:Int):=U
      have a1:(a3:Int)<=(b:Int):=U
      by_cases d1:I<=b
      .have W0:(I:Int)<=(b:Int):=U
       obtain ⟨A,B,R4,rfl,lA,lB,sA,E,c0⟩:=p.two V0 U;have h:=sn (A.length+B.length+1) (S t b u) s A B R4 a3 K I d U U U U U sA E wr F (by have:=c.length_eq;rw [G.o] at this;omega) J;have k:=ae h;have g:=ae c;have C:=ae m;have LA:=ae lA;have LB:=ae lB;have Ha:=ae d;have N0:=ae c0;have T0:=ae e0;clear h c m J d q lA lB sA E c0 e0 l0;have e2:(I:Int)+2*(bs:Int)<=16000:=U
       have e3:2*(bs:Int)<=8000:=U
       go_wp2_with fail
       apply k.o.mono;rintro p0 w4 ⟨l,rfl,f,n,H,e⟩;have d0:(s++l).length=I:=by rw [A3,f.length_eq,A3,LA.o,LB.o,Ha.o];have:=T0.o;omega
       have M:=ae e;have r:=ae f;have S2:=ae n;have b0:=ae d0;clear e f n k d0
       go_wp2_with fail
       go_roundw
       case rel=>exact ⟨s++l,R4,by rw [b0.o],by rw [b0.o];first|rfl|simp,C.o.snoc (by rw [r.o.length_eq,A3,LA.o,LB.o];omega) S2.o,N0.o,(by
         have h8:=g.o;rw [G3];refine (J7 s (r.o.append_right R4)).trans ?_;rw [G3];exact h8),o0.trans H,by have h9:=M.o;simpa using h9⟩
       case measure=>simp [intOf];omega
      .have W0:¬ (I:Int)<=(b:Int):=U
       by_cases e1:K<b
       .have X0:(K:Int)<(b:Int):=U
        obtain ⟨A,B,rfl,lA,sA,c0⟩:=p.split U;rw [A3] at q;have E:=c0.short U;have h:=sn (A.length+B.length+1) (S t b u) s A B [] a3 K b d U U U U U sA E wr F (by have:=c.length_eq;rw [G.o] at this;simp at this ⊢;omega) (by rw [D8];exact J);have k:=ae h;have g:=ae c;have C:=ae m;have LA:=ae lA;have Y0:=ae q;have g0:Hid (A.length+B.length<=2*bs):=by show A.length+B.length<=2*bs;omega
        clear h c m J d q lA sA E p c0 e0 l0
        go_wp2_with fail
        apply k.o.mono;rintro p0 w4 ⟨l,rfl,f,n,H,e⟩;rw [D8] at e;have M:=ae e;have r:=ae f;have S2:=ae n;clear e f n k
        go_wp2_with fail
        go_roundw
        case rel=>exact ⟨2*bs,s++l,by simp;omega,U,U,C.o _ (.last l (by rw [r.o.length_eq,A3];exact g0.o) S2.o),(J7 s r.o).trans g.o,o0.trans H,M.o⟩
        case measure=>simp [intOf];omega
       .have X0:¬ (K:Int)<(b:Int):=U
        have E:=p.short U;have G0:=m R3 (.last R3 U E);have HF:=ae G0;have g:=ae c;have S0:=ae J;clear G0 c J d q E p e0 l0 m
        go_wp2_with fail
        go_roundw
        case rel=>exact ⟨2*bs,s++R3,by simp;omega,U,U,HF.o,g.o,o0,S0.o⟩
        case measure=>simp [intOf];omega
    .have h0:¬ (bs:Int)<(b:Int):=U
     have hS:=p.short U;have HS:=ae hS;have g:=ae c;have R0:=ae i0;clear hS c i0 p u0
     exact Zy (HQ.o _ _ ⟨L,rfl,g.o,HS.o,n0,R0.o⟩)
def wR (v:Q) (a:List aL) (w:T) (F:ai) (o:a.length<=zj) (h:ag w (dQ v a*F)) :
  Calls O 78 #[v,zI] w (UJ v a F w):=by
 refine aF fun q g=>?_;have c:=ae (EO v a w F (Nat.le_trans o De0) h _ rfl);obtain ⟨s,t,rfl⟩:=aC h;clear h;generalize a.length=p at *
 go_in
 go_wp2_with fail
 apply c.o.mono;rintro r u ⟨m,rfl,d,e,n,b⟩;have f:=ae b;have k:=ae d;have l:=ae e;clear b d e c
 exact Zy (g.o _ _ ⟨m,rfl,k.o,l.o,n,f.o⟩)
end Go.Proofs.Fs
namespace Go.SL
open RowKit
def NR {a E:List aL} (f:a.Perm E) (n:eJ jw a) (m:eJ jw E) (o:(E.map aL.nm).Nodup):a=E:=by
 refine List.Perm.eq_of_pairwise (le:=fun x y=>jw y x=P) (fun x y p hy c d=>?_) n m f;unfold jw at c d;have q:=of_decide_eq_false c;have h4:=of_decide_eq_false d;have h5:=sQ x.nm y.nm;have e:=GD x.nm y.nm U;obtain ⟨i,g,rfl⟩:=O4 (f.mem_iff.1 p);obtain ⟨k,l,rfl⟩:=O4 hy;have b:=List.nodup_iff_pairwise_ne.1 o;rw [List.pairwise_iff_getElem] at b;rcases Nat.lt_trichotomy i k with h|h|h
 .exact absurd (by rw [K4,K4];exact e) (b i k (by simpa using g) (by simpa using l) h)
 .subst h;rfl
 .exact absurd (by rw [K4,K4];exact e.symm) (b k i (by simpa using l) (by simpa using g) h)
end Go.SL

/- Steps. -/
import Derived.Test.YtebfaobobccikaaGreatDoorLP26
import Derived.Lib.Bytealg
set_option linter.all false
set_option maxRecDepth 99999
set_option maxHeartbeats 0
open Go.SL
open Go.Value renaming int->Z,slice->U,string->Y
open Go.Ending renaming returned->Y'
open Go renaming World->V,Value->T
open Go.Proofs.Tryz renaming prog->Q
open Option renaming some->X,none->W
open Bool renaming true->Z',false->S
open Go.Proofs.Tryz
open List renaming length_append->O2,getElem?_append_right->P2,append_nil->X2,length_cons->Y2,length_singleton->Z2,eq_nil_of_length_eq_zero->A3,length_take->D3,append_assoc->G3,nil_append->H3,take_append_drop->J3,set_append_right->P3,set_cons_succ->S3,getElem?_eq_getElem->V3,concat_eq_append->W3,length_drop->X3,getElem?_append_left->Y3,eq_nil_or_concat->D4,length_nil->H4
open Nat renaming le_refl->T2,sub_self->B3,lt_irrefl->Z3,add_sub_cancel->K4
open List.Perm renaming append_left->K3,refl->J4
open Array renaming size_setIfInBounds->S4
namespace Go.SL
open RowKit
structure Ord {α:Type} (lt:α->α->Bool):Prop where
 P6:∀ x y,lt x y=true->lt y x=false
 tr:∀ x y z,lt y x=false->lt z y=false->lt z x=false
def eG {α:Type} (lt:α->α->Bool) (L:List α):Prop:=L.Pairwise fun x y=>lt y x=S
section
variable {α:Type} {lt:α->α->Bool}
theorem eG.nil:eG lt []:=List.Pairwise.nil
theorem eG.one (x:α):eG lt [x]:=List.pairwise_singleton _ _
theorem eG.app {A B:List α}:eG lt (A++B)↔eG lt A/\eG lt B/\∀ x ∈ A,∀ y ∈ B,lt y x=S:=List.pairwise_append
theorem eG.cons {x:α} {B:List α}:eG lt (x :: B)↔(∀ y ∈ B,lt y x=S)/\eG lt B:=List.pairwise_cons
theorem eG.last (O:Ord lt) {A:List α} {z x:α} (h:eG lt (A++[z])) (d:x ∈ A++[z]):lt z x=S:=by
 rcases List.mem_append.1 d with a|a
 .exact (eG.app.1 h).2.2 x a z (List.mem_singleton_self z)
 .rw [List.mem_singleton.1 a]
  cases c:lt z z with
  | false=>rfl
  | true=>have b:=O.P6 z z c;rw [c] at b;cases b
theorem eG.head (O:Ord lt) {B:List α} {z x:α} (h:eG lt (z :: B)) (d:x ∈ z :: B):lt x z=S:=by
 rcases List.mem_cons.1 d with a|a
 .rw [a]
  cases c:lt z z with
  | false=>rfl
  | true=>have b:=O.P6 z z c;rw [c] at b;cases b
 .exact (eG.cons.1 h).1 x a
theorem eG.LL (O:Ord lt) {A B:List α} (e:eG lt A) (m:eG lt B) (h:∀ a z y c,A=a++[z]->B=y :: c->lt y z=S):∀ x ∈ A,∀ y ∈ B,lt y x=S:=by
 intro x d y f;rcases D4 A with rfl|⟨a,z,rfl⟩
 .cases d
 .cases B with
  | nil=>cases f
  | cons b c=>
   rw [W3] at d e;have g:=e.last O d;have k:=m.head O f;have l:=h a z b c (W3 ..) rfl;exact O.tr x b y (O.tr x z b g l) k
theorem eG.join (O:Ord lt) {A B:List α} (a:eG lt A) (b:eG lt B) (h:∀ c z y d,A=c++[z]->B=y :: d->lt y z=S):eG lt (A++B):=
 eG.app.2 ⟨a,b,eG.LL O a b h⟩
theorem eG.insert (O:Ord lt) {A B:List α} {u:α} (h:eG lt (A++B)) (k:∀ c z,A=c++[z]->lt u z=S) (l:∀ y a,B=y :: a->lt y u=S):eG lt (A++u :: B):=by
 obtain ⟨m,e,n⟩:=eG.app.1 h;refine eG.join O m (eG.cons.2 ⟨fun y f=>?_,e⟩) fun c z y a g d=>?_
 .cases B with
  | nil=>cases f
  | cons b a=>exact O.tr u b y (l b a rfl) (e.head O f)
 .simp only [List.cons.injEq] at d
  rw [<- d.1];exact k c z g
theorem eG.Qo (O:Ord lt) {U1 U2 V1 V2 e f:List α} (o:eG lt (U1++U2)) (s:eG lt (V1++V2)) (m:∀ c z y d,U1=c++[z]->V2=y :: d->lt y z=S)
  (n:∀ c z y d,V1=c++[z]->U2=y :: d->lt z y=Z') (E:eG lt e) (G:eG lt f) (C:e.Perm (U1++V1)) (D:f.Perm (U2++V2)):eG lt (e++f):=by
 obtain ⟨p,q,r⟩:=eG.app.1 o;obtain ⟨t,u,B⟩:=eG.app.1 s;have g:=eG.LL O p u m;have h:=eG.LL O t q fun c z y d k l=>O.P6 _ _ (n c z y d k l);refine eG.app.2 ⟨E,G,fun x a y b=>?_⟩;rcases List.mem_append.1 (C.mem_iff.1 a) with a|a <;> rcases List.mem_append.1 (D.mem_iff.1 b) with b|b
 .exact r x a y b
 .exact g x a y b
 .exact h x a y b
 .exact B x a y b
end
def jB (x y:aH):Bool:=decide (Lib.compareBytes x.nm y.nm<0)
theorem yk:∀ a b:List UInt8,Lib.compareBytes a b=- Lib.compareBytes b a
 | [],[]=>rfl
 | [],_ :: _=>rfl
 | _ :: _,[]=>rfl
 | a :: d,b :: bs=>by
  unfold Lib.compareBytes
  by_cases h:a<b
  .have c:¬ b<a:=fun e=>absurd (UInt8.lt_trans h e) (UInt8.lt_irrefl a)
   rw [if_pos h,if_neg c,if_pos h]
  .rw [if_neg h]
   by_cases c:b<a
   .rw [if_pos c,if_pos c];rfl
   .rw [if_neg c,if_neg c,if_neg h];exact yk d bs
theorem vE:∀ a b:List UInt8,Lib.compareBytes a b=-1\/Lib.compareBytes a b=0\/Lib.compareBytes a b=1
 | [],[]=>.inr (.inl rfl)
 | [],_ :: _=>.inl rfl
 | _ :: _,[]=>.inr (.inr rfl)
 | a :: c,b :: bs=>by
  unfold Lib.compareBytes
  split
  .exact .inl rfl
  .split
   .exact .inr (.inr rfl)
   .exact vE c bs
theorem wD:∀ a b c:List UInt8,0<=Lib.compareBytes b a->0<=Lib.compareBytes c b->0<=Lib.compareBytes c a
 | [],_,[],_,_=>by simp [Lib.compareBytes]
 | [],_,_ :: _,_,_=>by simp [Lib.compareBytes]
 | a :: g,[],_,h,_=>by simp [Lib.compareBytes] at h
 | a :: g,b :: bs,[],_,h=>by simp [Lib.compareBytes] at h
 | a :: g,b :: bs,c :: o,d,e=>by
  unfold Lib.compareBytes at d e ⊢
  by_cases f:b<a
  .rw [if_pos f] at d;omega
  .by_cases l:c<b
   .rw [if_pos l] at e;omega
   .rw [if_neg f] at d
    rw [if_neg l] at e;have n:a<=b:=UInt8.not_lt.1 f;have k:b<=c:=UInt8.not_lt.1 l;have q:¬ c<a:=UInt8.not_lt.2 (UInt8.le_trans n k);rw [if_neg q]
    by_cases m:a<c
    .rw [if_pos m];decide
    .rw [if_neg m]
     have p:a=c:=UInt8.le_antisymm (UInt8.le_trans n k) (UInt8.not_lt.1 m);subst p;have r:¬ a<b:=UInt8.not_lt.2 k;have s:¬ b<a:=f;rw [if_neg r] at d;rw [if_neg s] at e;exact wD g bs o d e
theorem yU:Ord jB where
 P6:=fun x y h=>by
  unfold jB at h ⊢;have:=of_decide_eq_true h;have e:=yk x.nm y.nm;exact decide_eq_false (by omega)
 tr:=fun x y z a b=>by
  unfold jB at a b ⊢;have c:=of_decide_eq_false a;have d:=of_decide_eq_false b;have:=wD x.nm y.nm z.nm (by omega) (by omega);exact decide_eq_false (by omega)
def Im {α:Type} (L:List α) (i j:Nat) (x y:α):List α:=(L.set i y).set j x
theorem Az {α:Type} (a b R:List α) (x y:α):Im (a++x :: (b++y :: R)) a.length (a.length+1+b.length) x y=a++y :: (b++x :: R):=by
 unfold Im;rw [P3 _ _ (T2 _),B3,List.set_cons_zero,P3 _ _ (by omega),show a.length+1+b.length-a.length=b.length+1 by omega,S3,P3 _ _ (T2 _),B3,List.set_cons_zero]
end Go.SL
namespace Go.Proofs.Fs
open RowKit SL Proofs.Ba
abbrev yP:T:=.func (.func 93) #[] #[]
def wX (x y:aH):Int:=Lib.compareBytes x.nm y.nm
theorem tN (x y:aH):decide (wX x y<0)=jB x y:=rfl
theorem EA (x y:aH):-1<=wX x y/\wX x y<=1:=by
 unfold wX;rcases vE x.nm y.nm with h|h|h <;> omega
def UE (x y:aH) (w:V) (e:Ending) (a:V):Prop:=e = Y' (Z .i64 (wX x y))/\ag a (whole w)/\aj w a
theorem Bt (x y:aH) (w:V):Calls Q 93 #[.agg #[Z .i64 (x.nd:Int),Y (str x.nm)],.agg #[Z .i64 (y.nd:Int),Y (str y.nm)]] w (UE x y w):=by
 refine aJ fun g c=>?_;have f:=ae (((ag.whole w).alloc (.cells #[Z .i64 (x.nd:Int),Y (str x.nm)] 80 (0,0))).alloc (.cells #[Z .i64 (y.nd:Int),Y (str y.nm)] 80 (0,0))).right.right;have d:=ae (((aj.refl w).alloc (.cells #[Z .i64 (x.nd:Int),Y (str x.nm)] 80 (0,0))).alloc (.cells #[Z .i64 (y.nd:Int),Y (str y.nm)] 80 (0,0)));have a:=fun w=>Tryz.strings_Compare (str x.nm) (str y.nm) w;have b:=ae a;clear a
 go_enter func93,ntmps93
 go_wp2_with fail
 refine (b.out _).mono ?_;rintro e h ⟨rfl,rfl⟩
 go_wp2_with fail
 exact c.out _ _ ⟨rfl,f.out,d.out⟩
def dJ (v:T) (L:List aH):ai:=sl 80 2 v L.length (bD L)
theorem GH {L:List aH} {i:Nat} (c:i<L.length) (e:aH):((bD L).set (i*2) (Z .i64 (e.nd:Int))).set (i*2+1) (Y (str e.nm))=bD (L.set i e):=by
 induction L generalizing i with
 | nil=>simp at c
 | cons a L f=>
  have b:bD (a :: L) = Z .i64 (a.nd:Int) :: Y (str a.nm) :: bD L:=rfl
  cases i with
  | zero=>rw [b];rfl
  | succ i=>
   have d:(i+1)*2=i*2+1+1:=by omega
   rw [b,d,S3,S3,S3,S3];show _ = Z .i64 (a.nd:Int) :: Y (str a.nm) :: bD (L.set i e)
   rw [<- f (by simpa using c)]
section
variable {w:V} {v:T} {L:List aH} {F:ai} {i j:Nat}
theorem uU (h:ag w (dJ v L*F)) (o:i<L.length) (e:aH):∃ g c,v = U (X ⟨g,0,W⟩) L.length c/\w.frozen? ⟨g,i*2,W⟩=S/\w.frozen? ⟨g,i*2+1,W⟩=S /\
  ag ((w.setCell ⟨g,i*2,W⟩ (Z .i64 (e.nd:Int))).setCell ⟨g,i*2+1,W⟩ (Y (str e.nm))) (dJ v (L.set i e)*F):=by
 rcases h.cW with ⟨_,q,_⟩|⟨g,b,p,rfl,d,f,k,l,a⟩
 .omega
 .refine ⟨g,b,rfl,a.frozen _,a.frozen _,?_⟩
  have m:=(a.setCell (i*2) (Z .i64 (e.nd:Int))).setCell (i*2+1) (Y (str e.nm));have n:=ag.nj (sz:=2) (n:=L.length) (cap:=b) m d f (by rw [S4,S4];exact k);unfold dJ;rw [List.length_set];refine n.to ?_;congr 2;rw [<- GH o,<- l];simp only [Array.toList_setIfInBounds];rw [List.take_set,List.take_set]
theorem pV (h:ag w (dJ v L*F)) (d:i<L.length) {x:aH} (f:L[i]?=X x):∃ g c,v = U (X ⟨g,0,W⟩) L.length c/\w.cell? ⟨g,i*2,W⟩=X (Z .i64 (x.nd:Int))/\w.cell? ⟨g,i*2+1,W⟩=X (Y (str x.nm))/\L.length<=c/\(c:Int)<=9223372036854775807:=by
 obtain ⟨g,c,e,a,b,k,l⟩:=nV h d;have:L[i]=x:=by rw [V3 d] at f;exact Option.some.inj f
 rw [this] at a b;exact ⟨g,c,e,a,b,k,by omega⟩
theorem sx (h:ag w (dJ v L*F)) (f:i<L.length) (d:j<L.length) (E:i≠j) {x y:aH} (u:L[i]?=X x) (B:L[j]?=X y):∃ g c,v = U (X ⟨g,0,W⟩) L.length c/\L.length<=c/\(c:Int)<=9223372036854775807 /\
  (w.cell? ⟨g,i*2,W⟩=X (Z .i64 (x.nd:Int))/\w.cell? ⟨g,i*2+1,W⟩=X (Y (str x.nm))/\w.cell? ⟨g,j*2,W⟩=X (Z .i64 (y.nd:Int))/\w.cell? ⟨g,j*2+1,W⟩=X (Y (str y.nm))) /\
  (w.frozen? ⟨g,i*2,W⟩=S/\w.frozen? ⟨g,i*2+1,W⟩=S/\w.frozen? ⟨g,j*2,W⟩=S/\w.frozen? ⟨g,j*2+1,W⟩=S) /\
  ag ((((w.setCell ⟨g,i*2,W⟩ (Z .i64 (y.nd:Int))).setCell ⟨g,i*2+1,W⟩ (Y (str y.nm))).setCell ⟨g,j*2,W⟩ (Z .i64 (x.nd:Int))).setCell ⟨g,j*2+1,W⟩ (Y (str x.nm))) (dJ v (Im L i j x y)*F):=by
 obtain ⟨g,c,rfl,k,l,C,D⟩:=pV h f u;obtain ⟨b,a,e,m,n,-,-⟩:=pV h d B;simp only [Value.slice.injEq,Option.some.injEq,Addr.mk.injEq] at e;obtain ⟨⟨rfl,-⟩,-⟩:=e;obtain ⟨b,a,e,o,p,s⟩:=uU h f y;simp only [Value.slice.injEq,Option.some.injEq,Addr.mk.injEq] at e;obtain ⟨⟨rfl,-⟩,-⟩:=e;obtain ⟨b,a,e,q,r,-⟩:=uU h d y;simp only [Value.slice.injEq,Option.some.injEq,Addr.mk.injEq] at e;obtain ⟨⟨rfl,-⟩,-⟩:=e;obtain ⟨b,a,e,_,_,t⟩:=uU s (by rw [List.length_set];exact d:j<_) x;simp only [Value.slice.injEq,Option.some.injEq,Addr.mk.injEq] at e;obtain ⟨⟨rfl,-⟩,-⟩:=e;exact ⟨g,c,rfl,C,D,⟨k,l,m,n⟩,⟨o,p,q,r⟩,t⟩
end
def TI (v:T) (P A M B e:List aH) (w0:V) (F:ai) (u:T) (wr:V):Prop:=
 ∃ (a c b d:List aH),A=a++c/\B=b++d/\a.length=b.length/\u = Z .i64 (a.length:Int)/\aj w0 wr/\ag wr (dJ v (P++(b++(c++(M++(a++(d++e))))))*F)
def Uj (v:T) (L:List aH) (F:ai) (w:V) (e:Ending) (a:V):Prop:=e = Y' (.tuple #[])/\aj w a/\ag a (dJ v L*F)
theorem rT (v:T) (P A M B e:List aH) (i0:A.length=B.length) (a b m:Nat) (ha:P.length=a) (hb:P.length+A.length+M.length=b) (hm:A.length=m) (w:V) (F:ai) (hl:(P++(A++(M++(B++e)))).length<=4000) (d0:ag w (dJ v (P++(A++(M++(B++e))))*F)) :
  Calls Q 269 #[v,Z .i64 (a:Int),Z .i64 (b:Int),Z .i64 (m:Int),yP] w (Uj v (P++(B++(M++(A++e)))) F w):=by
 refine aJ fun Q' HQ=>?_;obtain ⟨va,vc,rfl⟩:=aE d0;obtain ⟨N,I⟩:∃ N,(P++(A++(M++(B++e)))).length=N:=⟨_,rfl⟩
 have b0:=ae d0;have HN:=ae I;rw [I] at hl b0 HQ ⊢;have p0:=ae i0;have Ha:=ae ha;have Hb:=ae hb;have E:=ae hm;have j0:P.length+(A.length+(M.length+(B.length+e.length)))=N:=by rw [<- I];simp only [O2]
 have q0:=ae j0;clear d0 I i0 ha hb hm j0
 go_enter func269,ntmps269
 go_wp2_with fail
 go_loopw [10] (fun h0 wr=>TI (U va N vc) P A M B e w F h0 wr) (fun h0 _=>m-(intOf h0).toNat)
 case atStart=>exact ⟨[],A,[],B,rfl,rfl,rfl,rfl,aj.refl w,b0.out⟩
 case round=>
  obtain ⟨q,u,C,D,o,p,O,rfl,o0,t⟩:=hrel;clear b0;obtain ⟨k,l⟩:∃ k,q.length=k:=⟨_,rfl⟩
  have g0:k+u.length=m:=by rw [<- E.out,o,O2,l]
  have n0:k+D.length=m:=by rw [<- E.out,p0.out,p,O2,<- O,l]
  rw [l]
  by_cases L0:k<m
  .obtain ⟨x,f,rfl⟩:∃ x f,u=x :: f:=by
    cases u with
    | nil=>simp at g0;omega
    | cons x f=>exact ⟨x,f,rfl⟩
   obtain ⟨y,g,rfl⟩:∃ y g,D=y :: g:=by
    cases D with
    | nil=>simp at n0;omega
    | cons y g=>exact ⟨y,g,rfl⟩
   obtain ⟨c,J⟩:∃ c,P++C=c:=⟨_,rfl⟩
   obtain ⟨d,K⟩:∃ d,f++(M++q)=d:=⟨_,rfl⟩
   obtain ⟨h,f0⟩:∃ h,g++e=h:=⟨_,rfl⟩
   have eL:P++(C++(x :: f++(M++(q++(y :: g++e)))))=c++x :: (d++y :: h):=by rw [<- J,<- K,<- f0];simp
   have eR:P++((C++[y])++(f++(M++((q++[x])++(g++e)))))=c++y :: (d++x :: h):=by rw [<- J,<- K,<- f0];simp
   rw [eL] at t;have r:c.length=a+k:=by rw [<- J,O2,Ha.out,<- O,l]
   have s:c.length+1+d.length=b+k:=by
    have h1:=Hb.out;rw [r,<- K,O2,O2,l,<- h1,Ha.out];rw [Y2] at g0;have:=E.out;omega
   have e0:(c++x :: (d++y :: h)).length=N:=by
    rw [<- q0.out,<- eL];simp only [O2,o,p];omega
   have s0:b+k<N:=by
    rw [<- e0,<- s];simp only [O2,Y2];omega
   have k0:a+k<b+k:=by have:=Hb.out;have:=Ha.out;have:=E.out;omega
   obtain ⟨G,l0⟩:∃ n,a+k=n:=⟨_,rfl⟩
   obtain ⟨H,m0⟩:∃ n,b+k=n:=⟨_,rfl⟩
   have N0:IntKind.i64.wrap ((a:Int)+(k:Int))=(G:Int):=by rw [IntKind.wrap_i64];omega
   have R0:IntKind.i64.wrap ((b:Int)+(k:Int))=(H:Int):=by rw [IntKind.wrap_i64];omega
   rw [l0] at r k0;rw [m0] at s s0 k0
   obtain ⟨x0,u0,c0,k1,k2,⟨c1,c2,c3,c4⟩,⟨f1,f2,f3,f4⟩,h9⟩:=sx (i:=G) (j:=H) (x:=x) (y:=y) t (by omega) (by omega) (by omega)
    (by rw [<- r,P2 (T2 _),B3];rfl)
    (by rw [<- s,P2 (by omega),show c.length+1+d.length-c.length=d.length+1 by omega,List.getElem?_cons_succ,P2 (T2 _),B3];rfl)
   rw [e0] at c0 k1;simp only [Value.slice.injEq] at c0;obtain ⟨rfl,-,rfl⟩:=c0;have eS:Im (c++x :: (d++y :: h)) G H x y=c++y :: (d++x :: h):=by rw [<- s,<- r];exact Az _ _ _ _ _
   rw [eS,<- eR] at h9;have H9:=ae h9;have H0:(N:Int)<=(vc:Int):=by omega
   have G0:(H:Int)<(N:Int):=by omega
   have F0:(G:Int)<(N:Int):=by omega
   have D0:(N:Int)<=4000:=by omega
   have K0:(k:Int)<4000:=by omega
   have Hk:=ae l;have HA:=ae o;have HB:=ae p;have r0:=ae O;clear t h9 eS eL eR r s e0 k1 g0 n0 l o p O J K f0 l0 m0
   go_wp2_with fail
   go_region_law (fail)
   all_goals
    go_wp2
    go_roundw
    case rel=>exact ⟨q++[x],f,C++[y],g,by rw [HA.out];simp,by rw [HB.out];simp,by simp [r0.out],by rw [O2,Hk.out];simp,((((o0.setCell _ _).setCell _ _).setCell _ _).setCell _ _).drew,H9.out.drew⟩
    case measure=>simp [intOf];omega
  .have h1:u=[]:=A3 (by omega)
   have h2:D=[]:=A3 (by omega);subst h1 h2;rw [X2] at o p;subst o p;have H2:=ae t;clear t
   go_wp2_with fail
   go_end0
   exact HQ.out _ _ ⟨rfl,o0,by simpa using H2.out⟩
def P5 (v:T) (m N:Nat) (e:List aH) (w0:V) (F:ai) (u10 u11:T) (wr:V):Prop:=
 ∃ (c a b d:List aH),u10 = Z .i64 (a.length:Int)/\u11 = Z .i64 (b.length:Int)/\c.length+a.length=m/\1<=a.length/\1<=b.length/\(c++(a++(b++d))).length=N/\c++(b++(a++d))=e/\aj w0 wr/\ag wr (dJ v (c++(a++(b++d)))*F)
theorem El (v:T) (u n o D:List aH) (a m b:Nat) (ha:u.length=a) (hm:a+n.length=m) (hb:m+o.length=b) (h1:1<=n.length) (c:1<=o.length) (w:V) (F:ai) (hl:(u++(n++(o++D))).length<=4000) (h0:ag w (dJ v (u++(n++(o++D)))*F)) :
  Calls Q 245 #[v,Z .i64 (a:Int),Z .i64 (m:Int),Z .i64 (b:Int),yP] w (Uj v (u++(o++(n++D))) F w):=by
 refine aJ fun Q' HQ=>?_;obtain ⟨va,vc,rfl⟩:=aE h0;obtain ⟨N,G⟩:∃ N,(u++(n++(o++D))).length=N:=⟨_,rfl⟩
 obtain ⟨c0,hT⟩:∃ c0,u++(o++(n++D))=c0:=⟨_,rfl⟩
 have e0:=ae h0;have HN:=ae G;have HT:=ae hT;rw [G] at hl e0 ⊢;rw [G,hT] at HQ;have N0:b<=N:=by rw [<- G];simp only [O2];omega
 obtain ⟨i0,r0⟩:∃ i,n.length=i:=⟨_,rfl⟩
 obtain ⟨j0,s0⟩:∃ j,o.length=j:=⟨_,rfl⟩
 have g1:IntKind.i64.wrap ((m:Int)-(a:Int))=(i0:Int):=by rw [IntKind.wrap_i64];omega
 have g2:IntKind.i64.wrap ((b:Int)-(m:Int))=(j0:Int):=by rw [IntKind.wrap_i64];omega
 have H0:(N:Int)<=4000:=by omega
 have L0:(b:Int)<=(N:Int):=by omega
 have K0:(a:Int)<=(m:Int):=by omega
 have R0:(m:Int)<=(b:Int):=by omega
 have e1:(m:Int)-(a:Int)=(i0:Int):=by omega
 have e2:(b:Int)-(m:Int)=(j0:Int):=by omega
 have u0:P5 (U va N vc) m N c0 w F (Z .i64 (i0:Int)) (Z .i64 (j0:Int)) w:=⟨u,n,o,D,by rw [r0],by rw [s0],by omega,h1,c,G,hT,aj.refl w,e0.out⟩
 have q0:=ae u0;clear h0 G hT ha hm hb h1 c r0 s0 u0 g1 g2 e0
 go_enter func245,ntmps245
 go_wp2_with fail
 go_loopw [10,11] (fun u10 u11 wr=>P5 (U va N vc) m N c0 w F u10 u11 wr) (fun u10 u11 _=>(intOf u10).toNat+(intOf u11).toNat)
 case atStart=>exact q0.out
 case round=>
  obtain ⟨C,f,g,E,rfl,rfl,B,hu,hv,d,I,p0,s⟩:=hrel;clear q0;obtain ⟨i,r⟩:∃ i,f.length=i:=⟨_,rfl⟩
  obtain ⟨j,H⟩:∃ i,g.length=i:=⟨_,rfl⟩
  obtain ⟨b0,h⟩:∃ i,C.length=i:=⟨_,rfl⟩
  have P:b0+(i+(j+E.length))=N:=by rw [<- d,<- r,<- H,<- h];simp only [O2]
  rw [r] at B hu ⊢;rw [H] at hv ⊢;rw [h] at B;have p1:(m:Int)-(i:Int)=(b0:Int):=by omega
  have p2:(i:Int)<=(m:Int):=by omega
  have p3:(j:Int)<=4000:=by omega
  have p4:(m:Int)<=4000:=by omega
  rcases Nat.lt_trichotomy j i with o0|o0|o0
  .have F0:(j:Int)<(i:Int):=by omega
   have G0:¬ ((i:Int)=(j:Int)):=by omega
   have e:f=f.take j++f.drop j:=(J3 j f).symm;obtain ⟨U1,k0⟩:∃ l,f.take j=l:=⟨_,rfl⟩
   obtain ⟨U2,l0⟩:∃ l,f.drop j=l:=⟨_,rfl⟩
   have J:U1.length=j:=by rw [<- k0,D3];omega
   have l2:U2.length=i-j:=by rw [<- l0,X3];omega
   rw [k0,l0] at e;subst e;rw [G3] at s d;have q:=rT (U va N vc) C U1 U2 g E (by omega) b0 m j h (by omega) J wr F (by rw [d];omega) s;have p:=ae q;have q1:(i:Int)-(j:Int)=((i-j:Nat):Int):=by omega
   have M:=ae I;have D0:=ae d;have Hp:=ae h;have t:=ae J;have k:=ae l2;have Hj:=ae H;have g0:=ae B;have Hv:=ae hv;have f0:=ae P;clear q I d h J l2 r H s k0 l0 B P
   go_wp2_with fail
   refine p.out.mono ?_;rintro x0 w2 ⟨rfl,O,c⟩;have K:=ae c;clear c p
   go_wp2_with fail
   go_roundw
   case rel=>
    refine ⟨C++g,U2,U1,E,by rw [k.out,<- q1],by rw [t.out],by rw [O2,Hp.out,Hj.out,k.out];have:=g0.out;omega,by rw [k.out];omega,by rw [t.out];exact Hv.out,?_,?_,p0.trans O,by simpa using K.out⟩
    .have:=f0.out
     simp only [O2,t.out,k.out,Hp.out,Hj.out];omega
    .rw [<- M.out];simp
   case measure=>simp [intOf];omega
  .subst o0
   have q:=rT (U va N vc) C f [] g E (by omega) b0 m j h (by simp;omega) r wr F (by rw [H3,d];omega) s;have p:=ae q;have M:=ae I;clear q I d h r H s B P
   go_wp2_with fail
   refine p.out.mono ?_;rintro x0 w2 ⟨rfl,O,c⟩;have K:=ae c;clear c p
   go_wp2_with fail
   go_end0
   refine HQ.out _ _ ⟨rfl,p0.trans O,?_⟩;rw [<- M.out];exact K.out
  .have F0:(i:Int)<(j:Int):=by omega
   have G0:¬ ((i:Int)=(j:Int)):=by omega
   have e:g=g.take (j-i)++g.drop (j-i):=(J3 (j-i) g).symm;obtain ⟨V1,m0⟩:∃ l,g.take (j-i)=l:=⟨_,rfl⟩
   obtain ⟨V2,n0⟩:∃ l,g.drop (j-i)=l:=⟨_,rfl⟩
   have J:V1.length=j-i:=by rw [<- m0,D3];omega
   have l2:V2.length=i:=by rw [<- n0,X3];omega
   rw [m0,n0] at e;subst e;rw [G3] at s d;obtain ⟨d0,hq⟩:∃ d0,m+j-i=d0:=⟨_,rfl⟩
   have q2:(m:Int)+(j:Int)-(i:Int)=(d0:Int):=by omega
   have q:=rT (U va N vc) C f V1 V2 E (by omega) b0 d0 i h (by omega) r wr F (by rw [d];omega) s;have p:=ae q;have q1:(j:Int)-(i:Int)=((j-i:Nat):Int):=by omega
   have M:=ae I;have D0:=ae d;have Hp:=ae h;have t:=ae J;have k:=ae l2;have Hi:=ae r;have g0:=ae B;have Hu:=ae hu;have f0:=ae P;clear q I d h J l2 r H s m0 n0 B P hq
   go_wp2_with fail
   refine p.out.mono ?_;rintro x0 w2 ⟨rfl,O,c⟩;have K:=ae c;clear c p
   go_wp2_with fail
   go_roundw
   case rel=>
    refine ⟨C,V2,V1,f++E,by rw [k.out],by rw [t.out,<- q1],by rw [Hp.out,k.out];exact g0.out,by rw [k.out];exact Hu.out,by rw [t.out];omega,?_,?_,p0.trans O,by simpa using K.out⟩
    .have:=f0.out
     simp only [O2,t.out,k.out,Hp.out,Hi.out];omega
    .rw [<- M.out];simp
   case measure=>simp [intOf];omega
theorem jL {w:V} {v:T} {a b:List aH} {x y:aH} {F:ai} (h:ag w (dJ v (a++x :: y :: b)*F)) {N i:Nat} (o:a.length=i) (l:(a++x :: y :: b).length=N):∃ g c,v = U (X ⟨g,0,W⟩) N c/\N<=c/\(c:Int)<=9223372036854775807 /\
  (w.cell? ⟨g,i*2,W⟩=X (Z .i64 (x.nd:Int))/\w.cell? ⟨g,i*2+1,W⟩=X (Y (str x.nm))/\w.cell? ⟨g,(i+1)*2,W⟩=X (Z .i64 (y.nd:Int))/\w.cell? ⟨g,(i+1)*2+1,W⟩=X (Y (str y.nm))) /\
  (w.frozen? ⟨g,i*2,W⟩=S/\w.frozen? ⟨g,i*2+1,W⟩=S/\w.frozen? ⟨g,(i+1)*2,W⟩=S/\w.frozen? ⟨g,(i+1)*2+1,W⟩=S) /\
  ag ((((w.setCell ⟨g,i*2,W⟩ (Z .i64 (y.nd:Int))).setCell ⟨g,i*2+1,W⟩ (Y (str y.nm))).setCell ⟨g,(i+1)*2,W⟩ (Z .i64 (x.nd:Int))).setCell ⟨g,(i+1)*2+1,W⟩ (Y (str x.nm))) (dJ v (a++y :: x :: b)*F) /\
  ag ((((w.setCell ⟨g,(i+1)*2,W⟩ (Z .i64 (x.nd:Int))).setCell ⟨g,(i+1)*2+1,W⟩ (Y (str x.nm))).setCell ⟨g,i*2,W⟩ (Z .i64 (y.nd:Int))).setCell ⟨g,i*2+1,W⟩ (Y (str y.nm))) (dJ v (a++y :: x :: b)*F):=by
 subst o l;have ex:(a++x :: y :: b)[a.length]?=X x:=by rw [P2 (T2 _),B3];rfl
 have d:(a++x :: y :: b)[a.length+1]?=X y:=by rw [P2 (by omega),show a.length+1-a.length=1 by omega];rfl
 obtain ⟨g,c,rfl,p,q,m,n,f⟩:=sx h (by simp) (by simp) (by omega) ex d;obtain ⟨s,r,e,_,_,_,_,k⟩:=sx h (i:=a.length+1) (j:=a.length) (by simp) (by simp) (by omega) d ex;simp only [Value.slice.injEq,Option.some.injEq,Addr.mk.injEq] at e;obtain ⟨⟨rfl,-⟩,-⟩:=e;refine ⟨g,c,rfl,p,q,m,n,?_,?_⟩
 .have e:=Az a [] b x y
  rw [H4,Nat.add_zero,H3,H3] at e;rw [e] at f;exact f
 .have e:Im (a++x :: y :: b) (a.length+1) a.length y x=a++y :: x :: b:=by
   unfold Im;rw [P3 _ _ (by omega),show a.length+1-a.length=1 by omega,P3 _ _ (T2 _),B3];rfl
  rw [e] at k;exact k
def Vo (v:T) (e d f:List aH) (a b N:Nat) (w0:V) (F:ai) (u8:T) (wr:V):Prop:=
 ∃ (c R:List aH),u8 = Z .i64 ((a+c.length:Nat):Int)/\1<=c.length/\a+c.length+R.length=b/\(c++R).Perm d/\eG jB c/\aj w0 wr/\ag wr (dJ v (e++(c++(R++f)))*F)
def Vm (v:T) (e d f:List aH) (x:aH) (a:Nat) (w0:V) (F:ai) (u9:T) (wr:V):Prop:=
 ∃ (P b:List aH),u9 = Z .i64 ((a+P.length:Nat):Int)/\P++b=d/\(∀ y c,b=y :: c->jB x y=Z')/\aj w0 wr/\ag wr (dJ v (e++(P++x :: (b++f)))*F)
def lZ (v:T) (c b d:List aH) (F:ai) (w:V) (e:Ending) (w':V):Prop:=
 ∃ a:List aH,e = Y' (.tuple #[])/\a.Perm b/\eG jB a/\aj w w'/\ag w' (dJ v (c++(a++d))*F)
theorem uY (v:T) (f t l:List aH) (a b:Nat) (ha:f.length=a) (hb:a+t.length=b) (w:V) (F:ai) (hl:(f++(t++l)).length<=4000) (h:ag w (dJ v (f++(t++l))*F)) :
  Calls Q 211 #[v,Z .i64 (a:Int),Z .i64 (b:Int),yP] w (lZ v f t l F w):=by
 refine aJ fun Q' HQ=>?_;obtain ⟨va,vc,rfl⟩:=aE h;obtain ⟨N,hN⟩:∃ N,(f++(t++l)).length=N:=⟨_,rfl⟩
 rw [hN] at hl h HQ ⊢;have u0:a+t.length+l.length=N:=by rw [<- hN,O2,O2,ha];omega
 have X0:(N:Int)<=4000:=by omega
 have a1:(b:Int)<=(N:Int):=by omega
 have Z0:(a:Int)<=(b:Int):=by omega
 have f0:=ae h;have Ha:=ae ha;have Hb:=ae hb;have S0:=ae u0;have HN:=ae hN;clear h ha hb u0 hN
 cases t with
 | nil=>
  have T0:b=a:=by rw [<- Hb.out];rfl
  subst T0
  go_enter func211,ntmps211
  go_wp2_with fail
  refine wp_loop_rounds 1 ?_;rw [rounds_succ]
  go_wp2_with fail
  go_end0
  exact HQ.out _ _ ⟨[],rfl,J4 _,eG.nil,aj.refl w,f0.out⟩
 | cons x0 R0=>
  go_enter func211,ntmps211
  go_wp2_with fail
  go_loopw [8] (fun u8 wr=>Vo (U va N vc) f (x0 :: R0) l a b N w F u8 wr) (fun u8 _=>b-(intOf u8).toNat)
  case atStart=>exact ⟨[x0],R0,by simp,T2 _,by have:=Hb.out;simp at this ⊢;omega,J4 _,eG.one _,aj.refl w,f0.out⟩
  case round=>
   obtain ⟨D,R,rfl,Y0,k0,hP,hS,K0,d0⟩:=hrel;clear f0;obtain ⟨i,hi⟩:∃ i,a+D.length=i:=⟨_,rfl⟩
   rw [hi] at k0 ⊢;have HP:=ae hP;have HS:=ae hS;clear hP hS
   cases R with
   | nil=>
    have H0:i=b:=by simpa using k0
    subst H0;have H2:=ae d0;clear d0 hi
    go_wp2_with fail
    go_end0
    exact HQ.out _ _ ⟨D,rfl,by have:=HP.out;rwa [X2] at this,HS.out,K0,by simpa using H2.out⟩
   | cons x o=>
    rw [Y2] at k0;have H0:(i:Int)<(b:Int):=by omega
    have L0:Vm (U va N vc) f D (o++l) x a w F (Z .i64 (i:Int)) wr:=⟨D,[],by rw [hi],X2 D,fun y G h=>(by cases h),K0,d0⟩
    have r0:=ae L0;have s:=ae hi;clear d0 L0 hi
    go_wp2_with fail
    go_loopw [9] (fun u9 wr=>Vm (U va N vc) f D (o++l) x a w F u9 wr) (fun u9 _=>(intOf u9).toNat)
    case atStart=>exact r0.out
    case round=>
     clear r0;obtain ⟨i0,m,rfl,b0,hQ,p0,C⟩:=hrel;obtain ⟨j,B⟩:∃ j,a+i0.length=j:=⟨_,rfl⟩
     rw [B]
     have E:(f++(i0++x :: (m++(o++l)))).length=N:=by
      have c:=S0.out;have O:=Hb.out;have h3:=s.out;rw [<- b0,O2] at h3;rw [Y2] at c O;simp only [O2,Y2,Ha.out];omega
     have e1:j<N:=by rw [<- E];simp only [O2,Y2,Ha.out];omega
     have g1:a<=j:=by omega
     rcases D4 i0 with rfl|⟨n,z,rfl⟩
     .obtain rfl:a=j:=by simpa using B
      rw [H3] at b0 C;subst b0;have H2:=ae C;have g0:=ae hQ;clear C B E hQ;have h1:¬ ((a:Int)<(a:Int)):=by omega
      go_wp2_with fail
      go_quiet (fail)
      go_wp2_with fail
      go_roundw
      case rel=>exact ⟨x :: m,o,by simp;have:=s.out;omega,by simp,by rw [Y2];have:=s.out;omega,(List.perm_middle.symm.trans HP.out),eG.insert yU (A:=[]) HS.out (fun A' z h=>absurd h (by simp)) (fun y G h=>yU.P6 _ _ (g0.out y G h)),p0.drewN nq,by have u:=ag.of_heap (w':=wr.drewN nq) H2.out rfl;simpa using u⟩
      case measure=>have:=s.out;simp [intOf];omega
     .rw [W3] at *
      obtain ⟨k,hk⟩:∃ k,(f++n).length=k:=⟨_,rfl⟩
      have n0:k+1=j:=by rw [<- hk,<- B];simp only [O2,Z2,Ha.out];omega
      have e0:f++(n++[z]++x :: (m++(o++l)))=(f++n)++z :: x :: (m++(o++l)):=by simp
      rw [e0] at C E;obtain ⟨g,s0,e,k1,k2,⟨c1,c2,J,K⟩,-,-,-⟩:=jL C hk E;simp only [Value.slice.injEq] at e;obtain ⟨rfl,-,rfl⟩:=e;rw [n0] at J K;have F0:=Bt x z;have l0:=tN x z;have V0:=EA x z;obtain ⟨cz,m0⟩:∃ s0,wX x z=s0:=⟨_,rfl⟩
      have G0:∀ w,Calls Q 93 #[.agg #[Z .i64 (x.nd:Int),Y (str x.nm)],.agg #[Z .i64 (z.nd:Int),Y (str z.nm)]] w (fun e d=>e = Y' (Z .i64 cz)/\ag d (whole w)/\aj w d):=fun w=>by
       refine (F0 w).mono ?_;rintro e d ⟨rfl,c,O⟩;exact ⟨by rw [m0],c,O⟩
      rw [m0] at l0 V0;have HC:=ae G0;have c0:=ae C;have Hk:=ae hk;have g0:=ae hQ;have H:=ae b0;have h0:=ae E;have I:=ae n0;have Hj:=ae B;have t1:(a:Int)<(j:Int):=by have:=B;simp only [O2,Z2] at this;omega
      have t2:(j:Int)<(N:Int):=by omega
      have t3:(k:Int)<(N:Int):=by omega
      have t4:(N:Int)<=(vc:Int):=by omega
      have t5:IntKind.i64.wrap ((j:Int)-1)=(k:Int):=by rw [IntKind.wrap_i64];omega
      have D0:=ae l0;have d1:decide ((a:Int)<(j:Int))=Z':=by simpa using t1
      clear F0 G0 m0 C hk hQ b0 E n0 B k1 e0 l0
      by_cases hz:cz<0
      .have o0:Hid (jB x z=Z'):=by show _=_;rw [<- D0.out];exact decide_eq_true hz
       have W0:decide (cz<0)=Z':=decide_eq_true hz
       go_wp2_with fail
       go_region_held3 (fun d=>d.cell? ⟨g,k*2,W⟩=X (Z .i64 (z.nd:Int))/\d.cell? ⟨g,k*2+1,W⟩=X (Y (str z.nm))/\d.cell? ⟨g,j*2,W⟩=X (Z .i64 (x.nd:Int))/\d.cell? ⟨g,j*2+1,W⟩=X (Y (str x.nm))) (first|exact ⟨c1,c2,J,K⟩|exact kA|go_keep)
        (first|(go_at_call 93;refine (HC.out wr.drew).mono ?_;rintro e p ⟨rfl,P,M⟩;have r:=P.du (ag.drew c0.out);obtain ⟨g',c',q,-,-,q0,-,-,-⟩:=jL r Hk.out h0.out;have kA:p.cell? ⟨g,k*2,W⟩=X (Z .i64 (z.nd:Int))/\p.cell? ⟨g,k*2+1,W⟩=X (Y (str z.nm))/\p.cell? ⟨g,j*2,W⟩=X (Z .i64 (x.nd:Int))/\p.cell? ⟨g,j*2+1,W⟩=X (Y (str x.nm)):=by simp only [Value.slice.injEq,Option.some.injEq,Addr.mk.injEq] at q;obtain ⟨⟨rfl,-⟩,-⟩:=q;rwa [I.out] at q0))
       rename_i j0;have D5:=ae (p0.drew.trans M);obtain ⟨g',c',q,-,-,⟨b1,b2,b3,b4⟩,⟨f1,f2,f3,f4⟩,h7,h8⟩:=jL r Hk.out h0.out;simp only [Value.slice.injEq,Option.some.injEq,Addr.mk.injEq] at q;obtain ⟨⟨rfl,-⟩,-⟩:=q;rw [I.out] at b3 b4 f3 f4 h7 h8;have H7:=ae h7;have H8:=ae h8;have t6:IntKind.i64.wrap (k:Int)=(k:Int):=by rw [IntKind.wrap_i64];omega
       have t7:(j:Int)-1=(k:Int):=by have:=I.out;omega
       clear h7 h8 r P M kA j0 HC c0 c1 c2 J K
       go_wp2_with fail
       go_region_law (fail)
       all_goals
        go_wp2
        go_roundw
        case rel=>exact ⟨n,z :: m,by have:=Hk.out;rw [O2,Ha.out] at this;rw [this],by rw [<- H.out];simp,fun y G h=>by
          simp only [List.cons.injEq] at h;rw [<- h.1];exact o0.out,((((D5.out.setCell _ _).setCell _ _).setCell _ _).setCell _ _).drew,by
          first
           | (have u:=H8.out.drew;simpa using u)
           | (have u:=H7.out.drew;simpa using u)⟩
        case measure=>have:=I.out;simp [intOf];omega
      .have o0:Hid (jB x z=S):=by show _=_;rw [<- D0.out];exact decide_eq_false hz
       have W0:decide (cz<0)=S:=decide_eq_false hz
       go_wp2_with fail
       go_region_held3 (fun d=>d.cell? ⟨g,k*2,W⟩=X (Z .i64 (z.nd:Int))/\d.cell? ⟨g,k*2+1,W⟩=X (Y (str z.nm))/\d.cell? ⟨g,j*2,W⟩=X (Z .i64 (x.nd:Int))/\d.cell? ⟨g,j*2+1,W⟩=X (Y (str x.nm))) (first|exact ⟨c1,c2,J,K⟩|exact kA|go_keep)
        (first|(go_at_call 93;refine (HC.out wr.drew).mono ?_;rintro e p ⟨rfl,P,M⟩;have r:=P.du (ag.drew c0.out);obtain ⟨g',c',q,-,-,q0,-,-,-⟩:=jL r Hk.out h0.out;have kA:p.cell? ⟨g,k*2,W⟩=X (Z .i64 (z.nd:Int))/\p.cell? ⟨g,k*2+1,W⟩=X (Y (str z.nm))/\p.cell? ⟨g,j*2,W⟩=X (Z .i64 (x.nd:Int))/\p.cell? ⟨g,j*2+1,W⟩=X (Y (str x.nm)):=by simp only [Value.slice.injEq,Option.some.injEq,Addr.mk.injEq] at q;obtain ⟨⟨rfl,-⟩,-⟩:=q;rwa [I.out] at q0))
       rename_i j0;have D5:=ae (p0.drew.trans M);have N0:=ae r;clear r P M kA j0 HC c0 c1 c2 J K
       go_wp2_with fail
       go_roundw
       case rel=>exact ⟨(n++[z])++x :: m,o,by
         have O:a+((n++[z])++x :: m).length=i+1:=by
          have c:=s.out;rw [<- H.out] at c;simp only [O2,Y2,H4] at c ⊢;omega
         rw [O];simp,by simp only [O2,Y2];omega,by
         have c:=s.out;rw [<- H.out] at c;simp only [O2,Y2,H4] at c ⊢;omega,by
         have c:=HP.out;rw [<- H.out] at c;refine (List.Perm.trans ?_ c);have e9:((n++[z])++x :: m)++o=(n++[z])++(x :: (m++o)):=by simp
         rw [e9,G3 (n++[z]) m];exact K3 _ List.perm_middle.symm,by
         have c:=HS.out;rw [<- H.out] at c
         exact eG.insert yU c (fun A' y h=>by
          have:=List.append_inj_right' h rfl;simp only [List.cons.injEq] at this;rw [<- this.1];exact o0.out) (fun y G h=>yU.P6 _ _ (g0.out y G h)),D5.out,by have u:=N0.out;simpa using u⟩
       case measure=>have:=s.out;simp [intOf];omega
end Go.Proofs.Fs
namespace Go.SL
open RowKit
theorem lO {α:Type} {a b:List α} {z:α} {k:Nat} (h:a.take k=b++[z]) (f:k<=a.length):1<=k/\a[k-1]?=X z:=by
 have e:=congrArg List.length h;rw [D3,O2,Z2] at e;have d:b.length=k-1:=by omega
 refine ⟨by omega,?_⟩;have c:=congrArg (fun l=>l[k-1]?) h;rw [List.getElem?_take,if_pos (by omega),P2 (by omega),d,B3] at c;exact c
theorem mr {α:Type} {a b:List α} {y:α} {k:Nat} (h:a.drop k=y :: b):a[k]?=X y:=by
 have c:=congrArg (fun l=>l[0]?) h;simpa using c
end Go.SL
namespace Go.Proofs.Fs
open RowKit SL Proofs.Ba
theorem gg {w:V} {v:T} {L:List aH} {F:ai} {x y:aH} {i j N:Nat} (h:ag w (dJ v L*F)) (k:L.length=N) (l:i<N) (m:j<N) (n:L[i]?=X x) (o:L[j]?=X y):∃ g c,v = U (X ⟨g,0,W⟩) N c/\N<=c/\(c:Int)<=9223372036854775807 /\
  (w.cell? ⟨g,i*2,W⟩=X (Z .i64 (x.nd:Int))/\w.cell? ⟨g,i*2+1,W⟩=X (Y (str x.nm))/\w.cell? ⟨g,j*2,W⟩=X (Z .i64 (y.nd:Int))/\w.cell? ⟨g,j*2+1,W⟩=X (Y (str y.nm))):=by
 subst k;obtain ⟨g,c,rfl,a,b,p,q⟩:=pV h l n;obtain ⟨s,r,e,d,f,-,-⟩:=pV h m o;simp only [Value.slice.injEq,Option.some.injEq,Addr.mk.injEq] at e;obtain ⟨⟨rfl,-⟩,-⟩:=e;exact ⟨g,c,rfl,p,q,a,b,d,f⟩
def UY (z:Int) (w:V) (e:Ending) (a:V):Prop:=e = Y' (Z .i64 z)/\ag a (whole w)/\aj w a
theorem uH {x y:aH} {z:Int} (a:wX x y=z) (w:V):Calls Q 93 #[.agg #[Z .i64 (x.nd:Int),Y (str x.nm)],.agg #[Z .i64 (y.nd:Int),Y (str y.nm)]] w (UY z w):=by
 subst a;exact Bt x y w
def VH (v:T) (L a:List aH) (u:aH) (m b:Nat) (w0:V) (F:ai) (u10 u11:T) (wr:V):Prop:=
 ∃ (i j:Nat),u10 = Z .i64 (i:Int)/\u11 = Z .i64 (j:Int)/\m<=i/\i<=j/\j<=b/\(∀ y,m<i->a[i-1-m]?=X y->jB y u=Z')/\(∀ y,a[j-m]?=X y->jB y u=S)/\aj w0 wr/\ag wr (dJ v L*F)
def SZ (v:T) (c b d:List aH) (u:aH) (a:Nat) (w0:V) (F:ai) (u13:T) (wr:V):Prop:=
 ∃ (A B:List aH),u13 = Z .i64 ((a+A.length:Nat):Int)/\A++B=b/\aj w0 wr/\ag wr (dJ v (c++(A++u :: (B++d)))*F)
theorem Km (v:T) (d c f:List aH) (u:aH) (a m b:Nat) (ha:d.length=a) (hm:a+1=m) (hb:m+c.length=b) (hV:eG jB c) (w:V) (F:ai) (hl:(d++([u]++(c++f))).length<=4000) (h:ag w (dJ v (d++([u]++(c++f)))*F)) :
  Calls Q 212 #[v,Z .i64 (a:Int),Z .i64 (m:Int),Z .i64 (b:Int),yP] w (lZ v d ([u]++c) f F w):=by
 refine aJ fun Q' HQ=>?_;obtain ⟨va,vc,rfl⟩:=aE h;obtain ⟨L,H⟩:∃ L,d++([u]++(c++f))=L:=⟨_,rfl⟩
 rw [H] at hl h HQ ⊢;obtain ⟨N,hN⟩:∃ N,L.length=N:=⟨_,rfl⟩
 rw [hN] at hl h HQ ⊢;have N0:b+f.length=N:=by rw [<- hN,<- H];simp only [O2,Z2];omega
 have L0:L[a]?=X u:=by rw [<- H,P2 (by omega),ha,B3];rfl
 have K0:∀ h,m<=h->h<b->L[h]?=c[h-m]?:=fun h P s=>by
  rw [<- H,P2 (by omega),P2 (by rw [Z2];omega),Y3 (by rw [Z2];omega)];congr 1;rw [Z2];omega
 have g1:(m:Int)-(a:Int)=1:=by omega
 have i1:(N:Int)<=4000:=by omega
 have l1:(b:Int)<=(N:Int):=by omega
 have j1:(a:Int)<(m:Int):=by omega
 have w1:(m:Int)<=(b:Int):=by omega
 have x0:=ae h;have Ha:=ae ha;have Hm:=ae hm;have Hb:=ae hb;have h1:=ae N0;have HN:=ae hN;have HL:=ae H;have i0:=ae L0;have W0:=ae K0;have HV:=ae hV;clear h ha hm hb N0 hN H L0 K0 hV
 go_enter func212,ntmps212
 go_wp2_with fail
 go_loopw [10,11] (fun u10 u11 wr=>VH (U va N vc) L c u m b w F u10 u11 wr) (fun u10 u11 _=>(intOf u11).toNat-(intOf u10).toNat)
 case atStart=>exact ⟨m,b,rfl,rfl,T2 _,by omega,T2 _,fun y P=>absurd P (Z3 _),fun y P=>by
   have:=(List.getElem?_eq_some_iff.1 P).1;have:=Hb.out;omega,aj.refl w,x0.out⟩
 case round=>
  obtain ⟨i,j,rfl,rfl,b1,r1,Z0,hI,hJ,s0,b0⟩:=hrel;clear x0;have s1:(j:Int)<=(b:Int):=by omega
  have q1:(i:Int)<=(j:Int):=by omega
  by_cases u1:i<j
  .have v1:(i:Int)<(j:Int):=by omega
   obtain ⟨h,hh⟩:∃ h,(i+j)/2=h:=⟨_,rfl⟩
   have e1:(i:Int)+(j:Int)<=8000:=by omega
   have p1:((i:Int)+(j:Int))/2=(h:Int):=by omega
   have n1:(h:Int)<4000:=by omega
   have m1:(h:Int)<(N:Int):=by omega
   have Y0:h-m<c.length:=by have:=Hb.out;omega
   obtain ⟨y,hy⟩:∃ y,c[h-m]?=X y:=⟨_,V3 Y0⟩
   have l0:L[h]?=X y:=by rw [W0.out h (by omega) (by omega)];exact hy
   obtain ⟨g,j0,e,k1,k2,J,K,D,E⟩:=gg b0 HN.out (by omega:h<N) (by omega:a<N) l0 i0.out;simp only [Value.slice.injEq] at e;obtain ⟨rfl,-,rfl⟩:=e;obtain ⟨cz,o0⟩:∃ j0,wX y u=j0:=⟨_,rfl⟩
   have HC:=ae (fun w=>uH o0 w);have n0:=tN y u;rw [o0] at n0;have G0:=ae n0;have D0:=ae l0;have Hy:=ae hy;have HI:=ae hI;have HJ:=ae hJ;have HS:=ae b0;have z1:(N:Int)<=(vc:Int):=by omega
   have o1:(a:Int)<(N:Int):=by omega
   clear o0 n0 l0 hy hI hJ b0 k1
   by_cases hz:cz<0
   .have r0:Hid (jB y u=Z'):=by show _=_;rw [<- G0.out];exact decide_eq_true hz
    have d1:decide (cz<0)=Z':=decide_eq_true hz
    go_wp2_with fail
    go_region_held3 (fun p=>p.cell? ⟨g,h*2,W⟩=X (Z .i64 (y.nd:Int))/\p.cell? ⟨g,h*2+1,W⟩=X (Y (str y.nm))/\p.cell? ⟨g,a*2,W⟩=X (Z .i64 (u.nd:Int))/\p.cell? ⟨g,a*2+1,W⟩=X (Y (str u.nm))) (first|exact ⟨J,K,D,E⟩|exact kA|go_keep)
     (first|(go_at_call 93;refine (HC.out wr.drew).mono ?_;rintro e r ⟨rfl,h5,M⟩;have t:=h5.du (ag.drew HS.out);obtain ⟨g',c',O,-,-,u0⟩:=gg t HN.out (by omega:h<N) (by omega:a<N) D0.out i0.out;have kA:r.cell? ⟨g,h*2,W⟩=X (Z .i64 (y.nd:Int))/\r.cell? ⟨g,h*2+1,W⟩=X (Y (str y.nm))/\r.cell? ⟨g,a*2,W⟩=X (Z .i64 (u.nd:Int))/\r.cell? ⟨g,a*2+1,W⟩=X (Y (str u.nm)):=by simp only [Value.slice.injEq,Option.some.injEq,Addr.mk.injEq] at O;obtain ⟨⟨rfl,-⟩,-⟩:=O;exact u0))
    rename_i k0;have D5:=ae (s0.drew.trans M);have h0:=ae t;clear t h5 M kA k0 HC HS J K D E
    go_wp2_with fail
    go_roundw
    case rel=>exact ⟨h+1,j,by simp,rfl,by omega,by omega,Z0,fun y2 _ s=>by
      rw [K4,Hy.out] at s;rw [<- Option.some.inj s];exact r0.out,HJ.out,D5.out,h0.out⟩
    case measure=>simp [intOf];omega
   .have r0:Hid (jB y u=S):=by show _=_;rw [<- G0.out];exact decide_eq_false hz
    have d1:decide (cz<0)=S:=decide_eq_false hz
    go_wp2_with fail
    go_region_held3 (fun p=>p.cell? ⟨g,h*2,W⟩=X (Z .i64 (y.nd:Int))/\p.cell? ⟨g,h*2+1,W⟩=X (Y (str y.nm))/\p.cell? ⟨g,a*2,W⟩=X (Z .i64 (u.nd:Int))/\p.cell? ⟨g,a*2+1,W⟩=X (Y (str u.nm))) (first|exact ⟨J,K,D,E⟩|exact kA|go_keep)
     (first|(go_at_call 93;refine (HC.out wr.drew).mono ?_;rintro e r ⟨rfl,h5,M⟩;have t:=h5.du (ag.drew HS.out);obtain ⟨g',c',O,-,-,u0⟩:=gg t HN.out (by omega:h<N) (by omega:a<N) D0.out i0.out;have kA:r.cell? ⟨g,h*2,W⟩=X (Z .i64 (y.nd:Int))/\r.cell? ⟨g,h*2+1,W⟩=X (Y (str y.nm))/\r.cell? ⟨g,a*2,W⟩=X (Z .i64 (u.nd:Int))/\r.cell? ⟨g,a*2+1,W⟩=X (Y (str u.nm)):=by simp only [Value.slice.injEq,Option.some.injEq,Addr.mk.injEq] at O;obtain ⟨⟨rfl,-⟩,-⟩:=O;exact u0))
    rename_i k0;have D5:=ae (s0.drew.trans M);have h0:=ae t;clear t h5 M kA k0 HC HS J K D E
    go_wp2_with fail
    go_roundw
    case rel=>exact ⟨i,h,rfl,rfl,b1,by omega,by omega,HI.out,fun y2 s=>by
      rw [Hy.out] at s;rw [<- Option.some.inj s];exact r0.out,D5.out,h0.out⟩
    case measure=>simp [intOf];omega
  .obtain rfl:i=j:=by omega
   have x1:¬ ((i:Int)<(i:Int)):=by omega
   obtain ⟨n,d0⟩:∃ l,c.take (i-m)=l:=⟨_,rfl⟩
   obtain ⟨o,m0⟩:∃ l,c.drop (i-m)=l:=⟨_,rfl⟩
   have f0:n++o=c:=by rw [<- d0,<- m0];exact J3 _ _
   have a1:n.length=i-m:=by rw [<- d0,D3];have:=Hb.out;omega
   have c1:Hid (eG jB (n++u :: o)):=by
    refine eG.insert yU (by rw [f0];exact HV.out) (fun A' z e=>?_) fun y I e=>?_
    .rw [<- d0] at e
     obtain ⟨P,s⟩:=lO e (by have:=Hb.out;omega);exact yU.P6 _ _ (hI z (by omega) (by rw [show i-1-m=i-m-1 by omega];exact s))
    .rw [<- m0] at e
     exact hJ y (mr e)
   have T0:SZ (U va N vc) d n (o++f) u a w F (Z .i64 (a:Int)) wr:=⟨[],n,by simp,rfl,s0,by
    have e:L=d++([]++u :: (n++(o++f))):=by rw [<- HL.out,<- f0];simp
    rw [<- e];exact b0⟩
   have H0:=ae T0;have F0:=ae f0;have e1:(i:Int)-1=((a+n.length:Nat):Int):=by have:=Hm.out;omega
   obtain ⟨q,hq⟩:∃ q,a+n.length=q:=⟨_,rfl⟩
   rw [hq] at e1;have y1:(q:Int)<(N:Int):=by omega
   have Hq:=ae hq;clear T0 b0 hI hJ d0 m0 f0 a1 hq
   go_wp2_with fail
   go_loopw [13] (fun u13 wr=>SZ (U va N vc) d n (o++f) u a w F u13 wr) (fun u13 _=>q-(intOf u13).toNat)
   case atStart=>exact H0.out
   case round=>
    clear H0;obtain ⟨A,V0,rfl,B,S0,c0⟩:=hrel;obtain ⟨k,C⟩:∃ k,a+A.length=k:=⟨_,rfl⟩
    rw [C]
    cases V0 with
    | nil=>
     have R0:k=q:=by rw [<- C,<- Hq.out,<- B];simp
     subst R0;have H2:=ae c0;have g0:=ae B;clear c0 B C
     go_wp2_with fail
     exact bodyPost_ret (results_none rfl _ _ _) rfl <| HQ.out _ _ ⟨n++u :: o,rfl,by rw [<- F0.out];exact List.perm_middle,c1.out,S0,by have G:=H2.out;have e9:=g0.out;simp at e9;rw [e9] at G;simpa using G⟩
    | cons z I=>
     have R0:k<q:=by rw [<- C,<- Hq.out,<- B];simp
     have q0:(d++(A++u :: (z :: I++(o++f)))).length=N:=by
      rw [<- HN.out,<- HL.out,<- F0.out,<- B];simp;omega
     have e0:d++(A++u :: (z :: I++(o++f)))=(d++A)++u :: z :: (I++(o++f)):=by simp
     rw [e0] at c0 q0;obtain ⟨g,j0,e,k1,k2,⟨J,K,D,E⟩,⟨f1,f2,f3,f4⟩,h7,h8⟩:=jL c0 (show (d++A).length=k by rw [O2,Ha.out,C]) q0;simp only [Value.slice.injEq] at e;obtain ⟨rfl,-,rfl⟩:=e;obtain ⟨k',p0⟩:∃ k',k+1=k':=⟨_,rfl⟩
     rw [p0] at D E f3 f4 h7 h8;have H7:=ae h7;have H8:=ae h8;have g0:=ae B;have Hk:=ae C;have X0:=ae p0;have t1:(k:Int)<(q:Int):=by omega
     have t2:IntKind.i64.wrap ((k:Int)+1)=(k':Int):=by rw [IntKind.wrap_i64];omega
     have t3:(k':Int)<(N:Int):=by omega
     have t4:(N:Int)<=(vc:Int):=by omega
     have t5:(k:Int)<(N:Int):=by omega
     have t6:(k:Int)<4000:=by omega
     have t7:k<k':=by omega
     clear h7 h8 c0 B q0 e0 C k1 p0
     go_wp2_with fail
     go_region_law (fail)
     all_goals
      go_wp2
      go_roundw
      case rel=>exact ⟨A++[z],I,by rw [O2,Z2,<- Nat.add_assoc,Hk.out];first|(rw [X0.out])|simp,by rw [<- g0.out];simp,((((S0.setCell _ _).setCell _ _).setCell _ _).setCell _ _).drew,by
        first
         | (have G:=H7.out.drew;simpa using G)
         | (have G:=H8.out.drew;simpa using G)⟩
      case measure=>simp [intOf];omega
def Vq (x:T) (L b:List aH) (v:aH) (a m:Nat) (w0:V) (F:ai) (u14 u15:T) (wr:V):Prop:=
 ∃ (i j:Nat),u14 = Z .i64 (i:Int)/\u15 = Z .i64 (j:Int)/\a<=i/\i<=j/\j<=m/\(∀ y,a<i->b[i-1-a]?=X y->jB v y=S)/\(∀ y,b[j-a]?=X y->jB v y=Z')/\aj w0 wr/\ag wr (dJ x L*F)
def TD (x:T) (b a c:List aH) (v:aH) (i:Nat) (w0:V) (F:ai) (u17:T) (wr:V):Prop:=
 ∃ (A B:List aH),u17 = Z .i64 ((i+A.length:Nat):Int)/\A++B=a/\aj w0 wr/\ag wr (dJ x (b++(A++v :: (B++c)))*F)
theorem ML (x:T) (s c d:List aH) (v:aH) (a m b:Nat) (ha:s.length=a) (hm:a+c.length=m) (c0:2<=c.length) (hb:m+1=b) (hU:eG jB c) (w:V) (F:ai) (hl:(s++(c++([v]++d))).length<=4000) (h:ag w (dJ x (s++(c++([v]++d)))*F)) :
  Calls Q 212 #[x,Z .i64 (a:Int),Z .i64 (m:Int),Z .i64 (b:Int),yP] w (lZ x s (c++[v]) d F w):=by
 refine aJ fun Q' HQ=>?_;obtain ⟨va,vc,rfl⟩:=aE h;obtain ⟨L,G⟩:∃ L,s++(c++([v]++d))=L:=⟨_,rfl⟩
 rw [G] at hl h HQ ⊢;obtain ⟨N,hN⟩:∃ N,L.length=N:=⟨_,rfl⟩
 rw [hN] at hl h HQ ⊢;have a1:b+d.length=N:=by rw [<- hN,<- G];simp only [O2,Z2];omega
 have Z0:L[m]?=X v:=by rw [<- G,P2 (by omega),P2 (by omega),show m-s.length-c.length=0 by omega];rfl
 have Y0:∀ h,a<=h->h<m->L[h]?=c[h-a]?:=fun h t q=>by
  rw [<- G,P2 (by omega),Y3 (by omega),ha]
 have g1:((m:Int)-(a:Int) == 1)=S:=by rw [beq_eq_false_iff_ne];omega
 have g2:(b:Int)-(m:Int)=1:=by omega
 have r1:(N:Int)<=4000:=by omega
 have u1:(b:Int)<=(N:Int):=by omega
 have s1:(a:Int)+2<=(m:Int):=by omega
 have K1:(m:Int)<(b:Int):=by omega
 have K0:=ae h;have Ha:=ae ha;have H:=ae hm;have Hb:=ae hb;have q1:=ae a1;have HN:=ae hN;have HL:=ae G;have o0:=ae Z0;have i1:=ae Y0;have HU:=ae hU;clear h ha hm hb a1 hN G Z0 Y0 hU c0
 go_enter func212,ntmps212
 go_wp2_with fail
 go_loopw [14,15] (fun u14 u15 wr=>Vq (U va N vc) L c v a m w F u14 u15 wr) (fun u14 u15 _=>(intOf u15).toNat-(intOf u14).toNat)
 case atStart=>exact ⟨a,m,rfl,rfl,T2 _,by omega,T2 _,fun y t=>absurd t (Z3 _),fun y t=>by
   have:=(List.getElem?_eq_some_iff.1 t).1;have:=H.out;omega,aj.refl w,K0.out⟩
 case round=>
  obtain ⟨i,j,rfl,rfl,n1,A1,l1,hI,hJ,G0,g0⟩:=hrel;clear K0;have B1:(j:Int)<=(m:Int):=by omega
  have z1:(i:Int)<=(j:Int):=by omega
  by_cases E1:i<j
  .have H1:(i:Int)<(j:Int):=by omega
   obtain ⟨h,hh⟩:∃ h,(i+j)/2=h:=⟨_,rfl⟩
   have e1:(i:Int)+(j:Int)<=8000:=by omega
   have y1:((i:Int)+(j:Int))/2=(h:Int):=by omega
   have w1:(h:Int)<4000:=by omega
   have v1:(h:Int)<(N:Int):=by omega
   have j1:h-a<c.length:=by have:=H.out;omega
   obtain ⟨y,hy⟩:∃ y,c[h-a]?=X y:=⟨_,V3 j1⟩
   have r0:L[h]?=X y:=by rw [i1.out h (by omega) (by omega)];exact hy
   obtain ⟨g,p0,e,k1,k2,J,K,C,D⟩:=gg g0 HN.out (by omega:m<N) (by omega:h<N) o0.out r0;simp only [Value.slice.injEq] at e;obtain ⟨rfl,-,rfl⟩:=e;obtain ⟨cz,u0⟩:∃ p0,wX v y=p0:=⟨_,rfl⟩
   have HC:=ae (fun w=>uH u0 w);have s0:=tN v y;rw [u0] at s0;have T0:=ae s0;have L0:=ae r0;have Hy:=ae hy;have HI:=ae hI;have HJ:=ae hJ;have HS:=ae g0;have N1:(N:Int)<=(vc:Int):=by omega
   have x1:(m:Int)<(N:Int):=by omega
   clear u0 s0 r0 hy hI hJ g0 k1
   by_cases hz:cz<0
   .have F0:Hid (jB v y=Z'):=by show _=_;rw [<- T0.out];exact decide_eq_true hz
    have p1:decide (cz<0)=Z':=decide_eq_true hz
    go_wp2_with fail
    go_region_held3 (fun o=>o.cell? ⟨g,m*2,W⟩=X (Z .i64 (v.nd:Int))/\o.cell? ⟨g,m*2+1,W⟩=X (Y (str v.nm))/\o.cell? ⟨g,h*2,W⟩=X (Z .i64 (y.nd:Int))/\o.cell? ⟨g,h*2+1,W⟩=X (Y (str y.nm))) (first|exact ⟨J,K,C,D⟩|exact kA|go_keep)
     (first|(go_at_call 93;refine (HC.out wr.drew).mono ?_;rintro e p ⟨rfl,P,M⟩;have r:=P.du (ag.drew HS.out);obtain ⟨g',c',O,-,-,H0⟩:=gg r HN.out (by omega:m<N) (by omega:h<N) o0.out L0.out;have kA:p.cell? ⟨g,m*2,W⟩=X (Z .i64 (v.nd:Int))/\p.cell? ⟨g,m*2+1,W⟩=X (Y (str v.nm))/\p.cell? ⟨g,h*2,W⟩=X (Z .i64 (y.nd:Int))/\p.cell? ⟨g,h*2+1,W⟩=X (Y (str y.nm)):=by simp only [Value.slice.injEq,Option.some.injEq,Addr.mk.injEq] at O;obtain ⟨⟨rfl,-⟩,-⟩:=O;exact H0))
    rename_i q0;have D5:=ae (G0.drew.trans M);have n0:=ae r;clear r P M kA q0 HC HS J K C D
    go_wp2_with fail
    go_roundw
    case rel=>exact ⟨i,h,rfl,rfl,n1,by omega,by omega,HI.out,fun y2 q=>by
      rw [Hy.out] at q;rw [<- Option.some.inj q];exact F0.out,D5.out,n0.out⟩
    case measure=>simp [intOf];omega
   .have F0:Hid (jB v y=S):=by show _=_;rw [<- T0.out];exact decide_eq_false hz
    have p1:decide (cz<0)=S:=decide_eq_false hz
    go_wp2_with fail
    go_region_held3 (fun o=>o.cell? ⟨g,m*2,W⟩=X (Z .i64 (v.nd:Int))/\o.cell? ⟨g,m*2+1,W⟩=X (Y (str v.nm))/\o.cell? ⟨g,h*2,W⟩=X (Z .i64 (y.nd:Int))/\o.cell? ⟨g,h*2+1,W⟩=X (Y (str y.nm))) (first|exact ⟨J,K,C,D⟩|exact kA|go_keep)
     (first|(go_at_call 93;refine (HC.out wr.drew).mono ?_;rintro e p ⟨rfl,P,M⟩;have r:=P.du (ag.drew HS.out);obtain ⟨g',c',O,-,-,H0⟩:=gg r HN.out (by omega:m<N) (by omega:h<N) o0.out L0.out;have kA:p.cell? ⟨g,m*2,W⟩=X (Z .i64 (v.nd:Int))/\p.cell? ⟨g,m*2+1,W⟩=X (Y (str v.nm))/\p.cell? ⟨g,h*2,W⟩=X (Z .i64 (y.nd:Int))/\p.cell? ⟨g,h*2+1,W⟩=X (Y (str y.nm)):=by simp only [Value.slice.injEq,Option.some.injEq,Addr.mk.injEq] at O;obtain ⟨⟨rfl,-⟩,-⟩:=O;exact H0))
    rename_i q0;have D5:=ae (G0.drew.trans M);have n0:=ae r;clear r P M kA q0 HC HS J K C D
    go_wp2_with fail
    go_roundw
    case rel=>exact ⟨h+1,j,by simp,rfl,by omega,by omega,l1,fun y2 _ q=>by
      rw [K4,Hy.out] at q;rw [<- Option.some.inj q];exact F0.out,HJ.out,D5.out,n0.out⟩
    case measure=>simp [intOf];omega
  .obtain rfl:i=j:=by omega
   have M1:¬ ((i:Int)<(i:Int)):=by omega
   obtain ⟨I,j0⟩:∃ l,c.take (i-a)=l:=⟨_,rfl⟩
   obtain ⟨n,c0⟩:∃ l,c.drop (i-a)=l:=⟨_,rfl⟩
   have d0:I++n=c:=by rw [<- j0,<- c0];exact J3 _ _
   have D0:I.length=i-a:=by rw [<- j0,D3];have:=H.out;omega
   have o1:Hid (eG jB (I++v :: n)):=by
    refine eG.insert yU (by rw [d0];exact HU.out) (fun B z e=>?_) fun y B' e=>?_
    .rw [<- j0] at e
     obtain ⟨t,q⟩:=lO e (by have:=H.out;omega);exact hI z (by omega) (by rw [show i-1-a=i-a-1 by omega];exact q)
    .rw [<- c0] at e
     exact yU.P6 _ _ (hJ y (mr e))
   obtain ⟨f,k0⟩:∃ f,s++I=f:=⟨_,rfl⟩
   have b1:f.length=i:=by rw [<- k0,O2,Ha.out,D0];omega
   have c1:i+n.length=m:=by
    have t:=H.out;rw [<- d0,O2,D0] at t;omega
   have h1:TD (U va N vc) f n d v i w F (Z .i64 (m:Int)) wr:=⟨n,[],by rw [c1],X2 _,G0,by
    have e:L=f++(n++v :: ([]++d)):=by rw [<- HL.out,<- d0,<- k0];simp
    rw [<- e];exact g0⟩
   have X0:=ae h1;have N0:=ae d0;have R0:=ae k0;have S0:=ae b1;have L1:(m:Int)<(N:Int):=by omega
   clear h1 g0 hI hJ j0 c0 d0 D0 k0 b1 c1
   go_wp2_with fail
   go_loopw [17] (fun u17 wr=>TD (U va N vc) f n d v i w F u17 wr) (fun u17 _=>(intOf u17).toNat)
   case atStart=>exact X0.out
   case round=>
    clear X0;obtain ⟨A,i0,rfl,b0,d1,h0⟩:=hrel;obtain ⟨k,hk⟩:∃ k,i+A.length=k:=⟨_,rfl⟩
    rw [hk]
    have f0:(f++(A++v :: (i0++d))).length=N:=by
     rw [<- HN.out,<- HL.out,<- N0.out,<- R0.out,<- b0];simp;omega
    have D1:k<N:=by rw [<- f0];simp [S0.out];omega
    rcases D4 A with rfl|⟨B,z,rfl⟩
    .have m1:i=k:=by simpa using hk
     subst m1;have H2:=ae h0;have m0:=ae b0;clear h0 b0 hk f0
     go_wp2_with fail
     exact bodyPost_ret (results_none rfl _ _ _) rfl <| HQ.out _ _ ⟨I++v :: n,rfl,by
      rw [<- N0.out,G3];exact K3 _ (List.perm_append_singleton v n).symm,o1.out,d1,by have E:=H2.out;have e9:=m0.out;simp at e9;rw [e9,<- R0.out] at E;simpa using E⟩
    .rw [W3] at *
     obtain ⟨u,l0⟩:∃ u,i+B.length=u:=⟨_,rfl⟩
     have x0:u+1=k:=by rw [<- hk,<- l0,O2,Z2];omega
     have e0:f++(B++[z]++v :: (i0++d))=(f++B)++z :: v :: (i0++d):=by simp
     rw [e0] at h0 f0;obtain ⟨g,p0,e,k1,k2,⟨J,K,C,D⟩,⟨f1,f2,f3,f4⟩,h7,h8⟩:=jL h0 (show (f++B).length=u by rw [O2,S0.out,l0]) f0;simp only [Value.slice.injEq] at e;obtain ⟨rfl,-,rfl⟩:=e;rw [x0] at C D f3 f4 h7 h8;have H7:=ae h7;have H8:=ae h8;have m0:=ae b0;have V0:=ae l0;have W0:=ae x0;have t1:(i:Int)<(k:Int):=by omega
     have t2:IntKind.i64.wrap ((k:Int)-1)=(u:Int):=by rw [IntKind.wrap_i64];omega
     have t3:(u:Int)<(N:Int):=by omega
     have t4:(N:Int)<=(vc:Int):=by omega
     have t5:(k:Int)<(N:Int):=by omega
     have t6:(k:Int)<4000:=by omega
     have t7:u<k:=by omega
     clear h7 h8 h0 b0 f0 e0 hk k1 l0 x0
     go_wp2_with fail
     go_region_law (fail)
     all_goals
      go_wp2
      go_roundw
      case rel=>exact ⟨B,z :: i0,by first|(rw [V0.out])|(rw [V0.out];have:=W0.out;congr 1;omega),by rw [<- m0.out];simp,((((d1.setCell _ _).setCell _ _).setCell _ _).setCell _ _).drew,by
        first
         | (have E:=H8.out.drew;simpa using E)
         | (have E:=H7.out.drew;simpa using E)⟩
      case measure=>have:=W0.out;simp [intOf];omega
def PM (n:Nat):Prop:=∀ (v:T) (e c d f:List aH) (a m b:Nat),e.length=a->a+c.length=m->m+d.length=b->1<=c.length->1<=d.length->c.length+d.length<n->eG jB c->eG jB d->∀ (w:V) (F:ai),(e++(c++(d++f))).length<=4000->ag w (dJ v (e++(c++(d++f)))*F) ->
  Calls Q 212 #[v,Z .i64 (a:Int),Z .i64 (m:Int),Z .i64 (b:Int),yP] w (lZ v e (c++d) f F w)
def Vy (a m b n:Nat) (w0:V) (u20 u21:T) (e:V):Prop:=
 ∃ d c:Nat,u20 = Z .i64 (d:Int)/\u21 = Z .i64 (c:Int)/\a<=d/\d<=c/\c<=m/\n<=b+d/\m+c<=n/\(d=a\/b+d=n)/\(c=m\/m+c=n)/\w0=e
def Vw (v:T) (L b c:List aH) (a m n e d:Nat) (w0:V) (F:ai) (u20 u21:T) (wr:V):Prop:=
 ∃ (s r:Nat),u20 = Z .i64 (s:Int)/\u21 = Z .i64 (r:Int)/\e<=s/\s<=r/\r<=d/\(∀ x y,e<s->b[s-1-a]?=X x->c[n-s-m]?=X y->jB y x=S)/\(∀ x y,r<d->b[r-a]?=X x->c[n-1-r-m]?=X y->jB y x=Z')/\aj w0 wr/\ag wr (dJ v L*F)
def US (v:T) (L:List aH) (w0:V) (F:ai) (wr:V):Prop:=ag wr (dJ v L*F)/\aj w0 wr
def Vh (v:T) (b A c:List aH) (w0:V) (F:ai) (wr:V):Prop:=∃ a:List aH,a.Perm A/\eG jB a/\ag wr (dJ v (b++(a++c))*F)/\aj w0 wr
theorem Mj (n0:Nat) (IH:PM n0) (v:T) (u C D B:List aH) (a m b:Nat) (ha:u.length=a) (hm:a+C.length=m) (hb:m+D.length=b) (g0:2<=C.length) (h0:2<=D.length) (x1:C.length+D.length<=n0) (hU:eG jB C) (hV:eG jB D) (w:V) (F:ai) (hl:(u++(C++(D++B))).length<=4000) (h:ag w (dJ v (u++(C++(D++B)))*F)) :
  Calls Q 212 #[v,Z .i64 (a:Int),Z .i64 (m:Int),Z .i64 (b:Int),yP] w (lZ v u (C++D) B F w):=by
 refine aJ fun Q' HQ=>?_;obtain ⟨O,I,rfl⟩:=aE h;obtain ⟨L,hL⟩:∃ L,u++(C++(D++B))=L:=⟨_,rfl⟩
 rw [hL] at hl h HQ ⊢;obtain ⟨N,hN⟩:∃ N,L.length=N:=⟨_,rfl⟩
 rw [hN] at hl h HQ ⊢;have u1:b+B.length=N:=by rw [<- hN,<- hL];simp only [O2];omega
 have r1:∀ h,a<=h->h<m->L[h]?=C[h-a]?:=fun h h1 K=>by
  rw [<- hL,P2 (by omega),Y3 (by omega),ha]
 have s1:∀ h,m<=h->h<b->L[h]?=D[h-m]?:=fun h h1 K=>by
  rw [<- hL,P2 (by omega),P2 (by omega),Y3 (by omega)];congr 1;omega
 have g1:((m:Int)-(a:Int) == 1)=S:=by rw [beq_eq_false_iff_ne];omega
 have g2:((b:Int)-(m:Int) == 1)=S:=by rw [beq_eq_false_iff_ne];omega
 have f2:(N:Int)<=4000:=by omega
 have i2:(b:Int)<=(N:Int):=by omega
 have h2:(a:Int)+2<=(m:Int):=by omega
 have r2:(m:Int)+2<=(b:Int):=by omega
 obtain ⟨f,t2⟩:∃ f,(a+b)/2=f:=⟨_,rfl⟩
 obtain ⟨n,hn⟩:∃ n,f+m=n:=⟨_,rfl⟩
 have q1:((a:Int)+(b:Int))/2=(f:Int):=by omega
 have q2:(f:Int)+(m:Int)=(n:Int):=by omega
 have q3:(a:Int)+(b:Int)<=8000:=by omega
 have q4:(n:Int)<=8000:=by omega
 have d1:=ae h;have Ha:=ae ha;have Hm:=ae hm;have Hb:=ae hb;have d2:=ae u1;have HN:=ae hN;have HL:=ae hL;have T1:=ae r1;have U1:=ae s1;have HU:=ae hU;have HV:=ae hV;have f1:=ae IH;have m1:=ae x1;clear h ha hm hb u1 hN hL r1 s1 hU hV IH x1 g0 h0
 go_enter func212,ntmps212
 go_upto_if 140 with (fail)
 generalize v1:decide (f<m)=cb
 go_cut [20,21] from 141 to 146 (fun u20 u21 wx=>Vy a m b n w u20 u21 wx)
 case first=>
  cases cb with
  | true=>
   have Y1:f<m:=of_decide_eq_true v1;have hc:(f:Int)<(m:Int):=by omega
   obtain ⟨s0,Z0⟩:∃ s0,n-b=s0:=⟨_,rfl⟩
   have e1:(n:Int)-(b:Int)=(s0:Int):=by omega
   go_wp2_with fail
   go_meet
   exact ⟨s0,f,rfl,rfl,by omega,by omega,by omega,by omega,by omega,.inr (by omega),.inr (by omega),rfl⟩
  | false=>
   have Y1:¬ f<m:=of_decide_eq_false v1;have hc:¬ (f:Int)<(m:Int):=by omega
   go_wp2_with fail
   go_meet
   exact ⟨a,m,rfl,rfl,by omega,by omega,by omega,by omega,by omega,.inl rfl,.inl rfl,rfl⟩
 case rest=>
  obtain ⟨s0,r0,rfl,rfl,z1,z2,z3,z4,z5,z6,z7,rfl⟩:=hcut;have K2:(a:Int)<=(s0:Int):=by omega
  have N2:(r0:Int)<=(m:Int):=by omega
  have M2:(s0:Int)<=(r0:Int):=by omega
  obtain ⟨m0,hp⟩:∃ m0,n-1=m0:=⟨_,rfl⟩
  have q5:(n:Int)-1=(m0:Int):=by omega
  go_wp2_with fail
  go_loopw [20,21] (fun u20 u21 wr=>Vw (U O N I) L C D a m n s0 r0 w F u20 u21 wr) (fun u20 u21 _=>(intOf u21).toNat-(intOf u20).toNat)
  case atStart=>exact ⟨s0,r0,rfl,rfl,T2 _,z2,T2 _,fun x y h=>absurd h (Z3 _),fun x y h=>absurd h (Z3 _),aj.refl w,d1.out⟩
  case round=>
   obtain ⟨s,r,rfl,rfl,Z0,H2,y1,hI,hJ,k0,l0⟩:=hrel;clear d1;have D2:(s:Int)<=(r:Int):=by omega
   have B2:(r:Int)<=(m:Int):=by omega
   by_cases n2:s<r
   .have o2:(s:Int)<(r:Int):=by omega
    obtain ⟨c,hc⟩:∃ c,(s+r)/2=c:=⟨_,rfl⟩
    have e1:(s:Int)+(r:Int)<=8000:=by omega
    have e2:((s:Int)+(r:Int))/2=(c:Int):=by omega
    have e3:(c:Int)<(N:Int):=by omega
    obtain ⟨p,A2⟩:∃ p,m0-c=p:=⟨_,rfl⟩
    have e4:IntKind.i64.wrap ((m0:Int)-(c:Int))=(p:Int):=by rw [IntKind.wrap_i64];omega
    have e5:(p:Int)<(N:Int):=by omega
    have Z1:c-a<C.length:=by have:=Hm.out;omega
    have a2:p-m<D.length:=by have:=Hb.out;omega
    obtain ⟨x,hx⟩:∃ x,C[c-a]?=X x:=⟨_,V3 Z1⟩
    obtain ⟨y,hy⟩:∃ y,D[p-m]?=X y:=⟨_,V3 a2⟩
    have N0:L[c]?=X x:=by rw [T1.out c (by omega) (by omega)];exact hx
    have R0:L[p]?=X y:=by rw [U1.out p (by omega) (by omega)];exact hy
    obtain ⟨g,cc,e,k1,k2,c1,c2,c3,c4⟩:=gg l0 HN.out (by omega:p<N) (by omega:c<N) R0 N0;simp only [Value.slice.injEq] at e;obtain ⟨rfl,-,rfl⟩:=e;obtain ⟨cz,W0⟩:∃ c,wX y x=c:=⟨_,rfl⟩
    have HC:=ae (fun w=>uH W0 w);have V0:=tN y x;rw [W0] at V0;have l1:=ae V0;have i1:=ae N0;have j1:=ae R0;have Hx:=ae hx;have Hy:=ae hy;have HI:=ae hI;have HJ:=ae hJ;have P:=ae l0;have J2:(N:Int)<=(I:Int):=by omega
    have e6:(c:Int)<4000:=by omega
    clear W0 V0 N0 R0 hx hy hI hJ l0 k1
    by_cases hz:cz<0
    .have Y0:Hid (jB y x=Z'):=by show _=_;rw [<- l1.out];exact decide_eq_true hz
     have b2:decide (cz<0)=Z':=decide_eq_true hz
     go_wp2_with fail
     go_region_held3 (fun w'=>w'.cell? ⟨g,p*2,W⟩=X (Z .i64 (y.nd:Int))/\w'.cell? ⟨g,p*2+1,W⟩=X (Y (str y.nm))/\w'.cell? ⟨g,c*2,W⟩=X (Z .i64 (x.nd:Int))/\w'.cell? ⟨g,c*2+1,W⟩=X (Y (str x.nm))) (first|exact ⟨c1,c2,c3,c4⟩|exact kA|go_keep)
      (first|(go_at_call 93;refine (HC.out wr.drew).mono ?_;rintro e w5 ⟨rfl,h5,d5⟩;have H5:=h5.du (ag.drew P.out);obtain ⟨g',c',e',-,-,a1⟩:=gg H5 HN.out (by omega:p<N) (by omega:c<N) j1.out i1.out;have kA:w5.cell? ⟨g,p*2,W⟩=X (Z .i64 (y.nd:Int))/\w5.cell? ⟨g,p*2+1,W⟩=X (Y (str y.nm))/\w5.cell? ⟨g,c*2,W⟩=X (Z .i64 (x.nd:Int))/\w5.cell? ⟨g,c*2+1,W⟩=X (Y (str x.nm)):=by simp only [Value.slice.injEq,Option.some.injEq,Addr.mk.injEq] at e';obtain ⟨⟨rfl,-⟩,-⟩:=e';exact a1))
     rename_i K0;have D5:=ae (k0.drew.trans d5);have D0:=ae H5;clear H5 h5 d5 kA K0 HC P c1 c2 c3 c4
     go_wp2_with fail
     go_roundw
     case rel=>exact ⟨s,c,rfl,rfl,Z0,by omega,by omega,HI.out,fun E y2 _ K M=>by
       rw [Hx.out] at K;rw [show n-1-c-m=p-m by omega,Hy.out] at M;rw [<- Option.some.inj K,<- Option.some.inj M];exact Y0.out,D5.out,D0.out⟩
     case measure=>simp [intOf];omega
    .have Y0:Hid (jB y x=S):=by show _=_;rw [<- l1.out];exact decide_eq_false hz
     have b2:decide (cz<0)=S:=decide_eq_false hz
     go_wp2_with fail
     go_region_held3 (fun w'=>w'.cell? ⟨g,p*2,W⟩=X (Z .i64 (y.nd:Int))/\w'.cell? ⟨g,p*2+1,W⟩=X (Y (str y.nm))/\w'.cell? ⟨g,c*2,W⟩=X (Z .i64 (x.nd:Int))/\w'.cell? ⟨g,c*2+1,W⟩=X (Y (str x.nm))) (first|exact ⟨c1,c2,c3,c4⟩|exact kA|go_keep)
      (first|(go_at_call 93;refine (HC.out wr.drew).mono ?_;rintro e w5 ⟨rfl,h5,d5⟩;have H5:=h5.du (ag.drew P.out);obtain ⟨g',c',e',-,-,a1⟩:=gg H5 HN.out (by omega:p<N) (by omega:c<N) j1.out i1.out;have kA:w5.cell? ⟨g,p*2,W⟩=X (Z .i64 (y.nd:Int))/\w5.cell? ⟨g,p*2+1,W⟩=X (Y (str y.nm))/\w5.cell? ⟨g,c*2,W⟩=X (Z .i64 (x.nd:Int))/\w5.cell? ⟨g,c*2+1,W⟩=X (Y (str x.nm)):=by simp only [Value.slice.injEq,Option.some.injEq,Addr.mk.injEq] at e';obtain ⟨⟨rfl,-⟩,-⟩:=e';exact a1))
     rename_i K0;have D5:=ae (k0.drew.trans d5);have D0:=ae H5;clear H5 h5 d5 kA K0 HC P c1 c2 c3 c4
     go_wp2_with fail
     go_roundw
     case rel=>exact ⟨c+1,r,by simp,rfl,by omega,by omega,y1,fun E y2 _ K M=>by
       rw [K4,Hx.out] at K;rw [show n-(c+1)-m=p-m by omega,Hy.out] at M;rw [<- Option.some.inj K,<- Option.some.inj M];exact Y0.out,HJ.out,D5.out,D0.out⟩
     case measure=>simp [intOf];omega
   .obtain rfl:s=r:=by omega
    have x2:¬ ((s:Int)<(s:Int)):=by omega
    obtain ⟨e,he⟩:∃ e,n-s=e:=⟨_,rfl⟩
    have e1:(n:Int)-(s:Int)=(e:Int):=by omega
    obtain ⟨q,q0⟩:∃ l,C.take (s-a)=l:=⟨_,rfl⟩
    obtain ⟨k,g0⟩:∃ l,C.drop (s-a)=l:=⟨_,rfl⟩
    obtain ⟨t,u0⟩:∃ l,D.take (e-m)=l:=⟨_,rfl⟩
    obtain ⟨o,h0⟩:∃ l,D.drop (e-m)=l:=⟨_,rfl⟩
    have S0:q++k=C:=by rw [<- q0,<- g0];exact J3 _ _
    have T0:t++o=D:=by rw [<- u0,<- h0];exact J3 _ _
    have E1:a+q.length=s:=by rw [<- q0,D3];have:=Hm.out;omega
    have K1:s+k.length=m:=by rw [<- g0,X3];have:=Hm.out;omega
    have M1:m+t.length=e:=by rw [<- u0,D3];have:=Hb.out;omega
    have N1:e+o.length=b:=by rw [<- h0,X3];have:=Hb.out;omega
    have o1:∀ A' z y B',q=A'++[z]->o=y :: B'->jB y z=S:=fun A' z y B' e3 e4=>by
     rw [<- q0] at e3;rw [<- h0] at e4;obtain ⟨h1,K⟩:=lO e3 (by have:=Hm.out;omega);have M:=mr e4;have h4:=(List.getElem?_eq_some_iff.1 M).1;exact hI z y (by have:=Hb.out;omega) (by rw [show s-1-a=s-a-1 by omega];exact K) (by rw [he];exact M)
    have p1:∀ A' z y B',t=A'++[z]->k=y :: B'->jB z y=Z':=fun A' z y B' e3 e4=>by
     rw [<- u0] at e3;rw [<- g0] at e4;obtain ⟨h1,K⟩:=lO e3 (by have:=Hb.out;omega);have M:=mr e4;have h4:=(List.getElem?_eq_some_iff.1 M).1;exact hJ y z (by have:=Hm.out;omega) M (by rw [show n-1-s-m=e-m-1 by omega];exact K)
    have L0:L=u++(q++(k++(t++(o++B)))):=by rw [<- HL.out,<- S0,<- T0];simp
    have t1:u.length+(q.length+(t.length+(k.length+(o.length+B.length))))=N:=by rw [<- HN.out,L0];simp only [O2];omega
    have m2:(s:Int)+(e:Int)=(f:Int)+(m:Int):=by omega
    have l2:(m:Int)<=(e:Int):=by omega
    have j2:(e:Int)<=(b:Int):=by omega
    have E2:(a:Int)<=(s:Int):=by omega
    have w2:f+m=s+e:=by omega
    have P:=ae l0;have F0:=ae L0;have R1:=ae o1;have S1:=ae p1;have e0:=ae S0;have f0:=ae T0;have L1:=ae E1;have L2:=ae K1;have L3:=ae M1;have L4:=ae N1;have G0:=ae t1;have u2:(a:Int)<(f:Int):=by omega
    have v2:(f:Int)<(b:Int):=by omega
    clear l0 L0 o1 p1 S0 T0 E1 K1 M1 N1 q0 g0 u0 h0 hI hJ Z0 y1 z6 z7 t1;obtain ⟨cr,j0⟩:∃ c,c=(decide (s<m) && decide (m<e)):=⟨_,rfl⟩
    go_upto_region 39 with (fail)
    go_cut [185] from 178 to 185 (fun b1 wx=>b1 = .bool cr/\wr=wx)
    case first=>
     by_cases G:s<m
     .have o0:((s:Int)<(m:Int)):=by omega
      by_cases E:m<e
      .have p0:((m:Int)<(e:Int)):=by omega
       go_wp2_with fail
       go_meet
       exact ⟨by rw [j0,decide_eq_true G,decide_eq_true E];first|rfl|simp,rfl⟩
      .have p0:¬ ((m:Int)<(e:Int)):=by omega
       go_wp2_with fail
       go_meet
       exact ⟨by rw [j0,decide_eq_false E,Bool.and_false],rfl⟩
     .have o0:¬ ((s:Int)<(m:Int)):=by omega
      go_wp2_with fail
      go_meet
      exact ⟨by rw [j0,decide_eq_false G,Bool.false_and],rfl⟩
    case rest=>
     obtain ⟨rfl,rfl⟩:=hcut
     have A1:US (U O N I) (u++(q++(t++(k++(o++B))))) w F wr\/cr=Z':=by
      by_cases G:s<m
      .by_cases E:m<e
       .exact .inr (by rw [j0,decide_eq_true G,decide_eq_true E];rfl)
       .have H:t=[]:=A3 (by have:=L3.out;omega)
        refine .inl ⟨?_,k0⟩;have d:=P.out;rw [F0.out,H] at d;rw [H];exact d
      .have hu:k=[]:=A3 (by have:=L2.out;omega)
       refine .inl ⟨?_,k0⟩;have d:=P.out;rw [F0.out,hu] at d;rw [hu];exact d
     have n1:=ae A1;have W1:=ae j0;clear A1 j0
     go_upto_if 185 with (fail)
     go_cut [] from 186 to 191 (fun wx=>US (U O N I) (u++(q++(t++(k++(o++B))))) w F wx)
     case first=>
      cases cr with
      | true=>
       have hx:=W1.out.symm;rw [Bool.and_eq_true,decide_eq_true_eq,decide_eq_true_eq] at hx;obtain ⟨G,E⟩:=hx
       have d0:=El (U O N I) (u++q) k t (o++B) s m e (by rw [O2,Ha.out];exact L1.out) L2.out L3.out (by have:=L2.out;omega) (by have:=L3.out;omega) wr F (by
        simp only [O2];have:=G0.out;omega) (by
        have d:=P.out;rw [F0.out] at d;simpa using d)
       have c0:=ae d0;clear d0 G E
       go_wp2_with fail
       refine c0.out.mono ?_;rintro r w6 ⟨rfl,d6,h6⟩;have H6:=ae h6;clear h6 c0
       go_wp2_with fail
       go_meet
       exact ⟨by have d:=H6.out;simpa using d,k0.trans d6⟩
      | false=>
       have hR:US (U O N I) (u++(q++(t++(k++(o++B))))) w F wr:=n1.out.resolve_right (by decide);have HR:=ae hR;clear hR
       go_wp2_with fail
       go_meet
       exact HR.out
     case rest=>
      obtain ⟨B1,x0⟩:=hcut;have H6:=ae B1;clear B1 P n1 k0;obtain ⟨c1,i0⟩:∃ c,c=(decide (a<s) && decide (s<f)):=⟨_,rfl⟩
      go_upto_region 41 with (fail)
      go_cut [199] from 192 to 199 (fun b1 wx=>b1 = .bool c1/\wc=wx)
      case first=>
       by_cases G:a<s
       .have o0:((a:Int)<(s:Int)):=by omega
        by_cases E:s<f
        .have p0:((s:Int)<(f:Int)):=by omega
         go_wp2_with fail
         go_meet
         exact ⟨by rw [i0,decide_eq_true G,decide_eq_true E];first|rfl|simp,rfl⟩
        .have p0:¬ ((s:Int)<(f:Int)):=by omega
         go_wp2_with fail
         go_meet
         exact ⟨by rw [i0,decide_eq_false E,Bool.and_false],rfl⟩
       .have o0:¬ ((a:Int)<(s:Int)):=by omega
        go_wp2_with fail
        go_meet
        exact ⟨by rw [i0,decide_eq_false G,Bool.false_and],rfl⟩
      case rest=>
       obtain ⟨rfl,rfl⟩:=hcut
       have h1:Vh (U O N I) u (q++t) (k++(o++B)) w F wc\/c1=Z':=by
        by_cases G:a<s
        .by_cases E:s<f
         .exact .inr (by rw [i0,decide_eq_true G,decide_eq_true E];rfl)
         .have H:t=[]:=A3 (by have:=L3.out;omega)
          refine .inl ⟨q,by rw [H,X2],by have d:=HU.out;rw [<- e0.out] at d;exact (eG.app.1 d).1,?_,x0⟩;have d:=H6.out;rw [H,H3] at d;exact d
        .have hu:q=[]:=A3 (by have:=L1.out;omega)
         refine .inl ⟨t,by rw [hu,H3],by have d:=HV.out;rw [<- f0.out] at d;exact (eG.app.1 d).1,?_,x0⟩;have d:=H6.out;rw [hu,H3] at d;exact d
       have H1:=ae h1;have V1:=ae i0;clear h1 i0
       go_upto_if 199 with (fail)
       go_cut [] from 200 to 205 (fun wx=>Vh (U O N I) u (q++t) (k++(o++B)) w F wx)
       case first=>
        cases c1 with
        | true=>
         have hx:=V1.out.symm;rw [Bool.and_eq_true,decide_eq_true_eq,decide_eq_true_eq] at hx;obtain ⟨G,E⟩:=hx
         have d0:=f1.out (U O N I) u q t (k++(o++B)) a s f Ha.out L1.out (by have:=L3.out;omega) (by have:=L1.out;omega) (by have:=L3.out;omega) (by have:=L1.out;have:=L3.out;have:=m1.out;have:=Hm.out;have:=Hb.out;omega) (by have d:=HU.out;rw [<- e0.out] at d;exact (eG.app.1 d).1) (by have d:=HV.out;rw [<- f0.out] at d;exact (eG.app.1 d).1) wc F (by
          simp only [O2];have:=G0.out;omega) H6.out
         have c0:=ae d0;clear d0 G E
         go_wp2_with fail
         refine c0.out.mono ?_;rintro r w7 ⟨J,rfl,p7,s7,d7,h7⟩;have H7:=ae h7;have P7:=ae p7;have S7:=ae s7;clear h7 c0 p7 s7
         go_wp2_with fail
         go_meet
         exact ⟨J,P7.out,S7.out,H7.out,x0.trans d7⟩
        | false=>
         have hR:=H1.out.resolve_right (by decide);have HR:=ae hR;clear hR
         go_wp2_with fail
         go_meet
         exact HR.out
       case rest=>
        obtain ⟨J,p7,s7,D1,X0⟩:=hcut;have H7:=ae D1;have P7:=ae p7;have S7:=ae s7;have O1:u.length+J.length=f:=by have:=p7.length_eq;rw [O2] at this;have:=Ha.out;have:=L1.out;have:=L3.out;omega
        have X1:=ae O1
        have w1:∀ W2:List aH,W2.Perm (k++o)->eG jB W2->(J++W2).Perm (C++D)/\eG jB (J++W2):=fun W2 p2 s2=>by
         refine ⟨?_,eG.Qo yU (U1:=q) (U2:=k) (V1:=t) (V2:=o) (by rw [e0.out];exact HU.out) (by rw [f0.out];exact HV.out) R1.out S1.out S7.out s2 P7.out p2⟩;have e1:=P7.out.append p2;refine e1.trans ?_;rw [<- e0.out,<- f0.out];have e2:(q++t)++(k++o)=q++((t++k)++o):=by simp
         have e3:(q++k)++(t++o)=q++((k++t)++o):=by simp
         rw [e2,e3];exact (List.perm_append_comm.append_right o).append_left q
        have H0:=ae w1;clear D1 p7 s7 O1 w1 H6 H1 x0
        by_cases G:f<e
        .have o0:(f:Int)<(e:Int):=by omega
         by_cases E:e<b
         .have p0:(e:Int)<(b:Int):=by omega
          have d0:=f1.out (U O N I) (u++J) k o B f e b (by rw [O2];exact X1.out) (by have:=L2.out;omega) L4.out (by have:=L2.out;omega) (by have:=L4.out;omega) (by have:=L2.out;have:=L4.out;have:=m1.out;have:=Hm.out;have:=Hb.out;omega) (by have d:=HU.out;rw [<- e0.out] at d;exact (eG.app.1 d).2.1) (by have d:=HV.out;rw [<- f0.out] at d;exact (eG.app.1 d).2.1) wc F (by
           simp only [O2];have:=G0.out;have:=P7.out.length_eq;rw [O2] at this;omega) (by have d:=H7.out;simpa using d)
          have c0:=ae d0;clear d0
          go_wp2_with fail
          refine c0.out.mono ?_;rintro r w8 ⟨W2,rfl,p8,s8,d8,h8⟩;have H8:=ae h8;have b0:=ae (H0.out W2 p8 s8);clear h8 c0 p8 s8
          go_wp2_with fail
          go_end0
          exact HQ.out _ _ ⟨J++W2,rfl,b0.out.1,b0.out.2,X0.trans d8,by have d:=H8.out;simpa using d⟩
         .have p0:¬ (e:Int)<(b:Int):=by omega
          have H:o=[]:=A3 (by have:=L4.out;omega);have b0:=ae (H0.out k (by rw [H,X2]) (by have d:=HU.out;rw [<- e0.out] at d;exact (eG.app.1 d).2.1));have H8:Hid (ag wc (dJ (U O N I) (u++((J++k)++B))*F)):=ae (by have d:=H7.out;rw [H] at d;simpa using d);clear H
          go_wp2_with fail
          go_end0
          exact HQ.out _ _ ⟨J++k,rfl,b0.out.1,b0.out.2,X0,H8.out⟩
        .have o0:¬ (f:Int)<(e:Int):=by omega
         have H:k=[]:=A3 (by have:=L2.out;omega);have b0:=ae (H0.out o (by rw [H,H3]) (by have d:=HV.out;rw [<- f0.out] at d;exact (eG.app.1 d).2.1));have H8:Hid (ag wc (dJ (U O N I) (u++((J++o)++B))*F)):=ae (by have d:=H7.out;rw [H] at d;simpa using d);clear H
         go_wp2_with fail
         go_end0
         exact HQ.out _ _ ⟨J++o,rfl,b0.out.1,b0.out.2,X0,H8.out⟩
end Go.Proofs.Fs
namespace Go.SL
open RowKit
inductive Ev {α:Type} (lt:α->α->Bool) (bs:Nat):List α->Prop where
 | last (A:List α):A.length<=bs->eG lt A->Ev lt bs A
 | more (A R:List α):A.length=bs->eG lt A->Ev lt bs R->Ev lt bs (A++R)
section
variable {α:Type} {lt:α->α->Bool} {bs:Nat} {R:List α}
theorem Ev.short (h:Ev lt bs R) (b:R.length<=bs):eG lt R:=by
 cases h with
 | last _ _ s=>exact s
 | more A a c s _=>
  rw [O2] at b;have:a=[]:=A3 (by omega);rw [this,X2];exact s
theorem Ev.split (h:Ev lt bs R) (d:bs<R.length):∃ A a,R=A++a/\A.length=bs/\eG lt A/\Ev lt bs a:=by
 cases h with
 | last _ b _=>omega
 | more A a c s b=>exact ⟨A,a,rfl,c,s,b⟩
theorem Ev.two (h:Ev lt bs R) (n:1<=bs) (l:2*bs<=R.length):∃ A B a,R=A++(B++a)/\A.length=bs/\B.length=bs/\eG lt A/\eG lt B/\Ev lt bs a:=by
 obtain ⟨A,a,rfl,c,d,b⟩:=h.split (by omega);rw [O2] at l
 by_cases f:a.length=bs
 .exact ⟨A,a,[],by simp,c,f,d,b.short (by omega),.last [] (by simp) eG.nil⟩
 .obtain ⟨B,e,rfl,k,m,g⟩:=b.split (by omega)
  exact ⟨A,B,e,rfl,c,k,d,m,g⟩
def zv {α:Type} (lt:α->α->Bool) (bs:Nat) (a:List α):Prop:=∀ R,Ev lt bs R->Ev lt bs (a++R)
theorem zv.nil:zv lt bs ([]:List α):=fun R h=>h
theorem zv.snoc {b a:List α} (h:zv lt bs b) (d:a.length=bs) (s:eG lt a):zv lt bs (b++a):=fun R c=>by
 rw [G3];exact h _ (.more a R d s c)
end
end Go.SL
namespace Go.Proofs.Fs
open RowKit SL Proofs.Ba
theorem rR:∀ n,PM n
 | 0=>fun _ _ _ _ _ _ _ _ _ _ _ _ _ h=>absurd h (Nat.not_lt_zero _)
 | n+1=>fun v e c d f a m b g o k t B C p q w F l h=>by
  by_cases r:c.length=1
  .obtain ⟨u,rfl⟩:=List.length_eq_one_iff.1 r
   exact Km v e d f u a m b g (by simpa using o) k q w F l h
  .by_cases s:d.length=1
   .obtain ⟨u,rfl⟩:=List.length_eq_one_iff.1 s
    exact ML v e c f u a m b g o (by omega) (by simpa using k) p w F l h
   .exact Mj n (rR n) v e c d f a m b g o k (by omega) (by omega) (by omega) p q w F l h
def Vr (v:T) (b:List aH) (N:Nat) (w0:V) (F:ai) (u7 u8:T) (wr:V):Prop:=
 ∃ (a R:List aH),u7 = Z .i64 (a.length:Int)/\u8 = Z .i64 ((a.length+20:Nat):Int)/\zv jB 20 a/\(a++R).Perm b/\aj w0 wr/\ag wr (dJ v (a++R)*F)
def Vc (v:T) (a:List aH) (w0:V) (F:ai) (u6:T) (wr:V):Prop:=
 ∃ (bs:Nat) (L:List aH),u6 = Z .i64 (bs:Int)/\1<=bs/\bs<=8000/\Ev jB bs L/\L.Perm a/\aj w0 wr/\ag wr (dJ v L*F)
def U9 (v:T) (b:List aH) (bs:Nat) (w0:V) (F:ai) (u7 u8:T) (wr:V):Prop:=
 ∃ (a R:List aH),u7 = Z .i64 (a.length:Int)/\u8 = Z .i64 ((a.length+2*bs:Nat):Int)/\zv jB (2*bs) a/\Ev jB bs R/\(a++R).Perm b/\aj w0 wr/\ag wr (dJ v (a++R)*F)
def BA:Nat:=3840
def Uf (v:T) (c:List aH) (F:ai) (w:V) (e:Ending) (b:V):Prop:=
 ∃ a:List aH,e = Y' (.tuple #[])/\a.Perm c/\eG jB a/\aj w b/\ag b (dJ v a*F)
theorem EL (v:T) (o:List aH) (w:V) (F:ai) (hl:o.length<=3990) (k0:ag w (dJ v o*F)) (N:Nat) (hN:o.length=N) :
  Calls Q 156 #[v,Z .i64 (N:Int),yP] w (Uf v o F w):=by
 refine aJ fun Q' HQ=>?_;obtain ⟨t,u,rfl⟩:=aE k0;have i0:=ae k0;have G:=ae hN;rw [hN] at hl i0 HQ ⊢;have Z0:(N:Int)<=3990:=by omega
 clear k0 hN
 go_enter func156,ntmps156
 go_wp2_with fail
 go_loopw [7,8] (fun u7 u8 wr=>Vr (U t N u) o N w F u7 u8 wr) (fun u7 _ _=>N-(intOf u7).toNat)
 case atStart=>exact ⟨[],o,rfl,rfl,zv.nil,J4 _,aj.refl w,i0.out⟩
 case round=>
  obtain ⟨D,R,rfl,rfl,m,b,m0,e0⟩:=hrel;clear i0;obtain ⟨a,c⟩:∃ a,D.length=a:=⟨_,rfl⟩
  have q:a+R.length=N:=by have:=b.length_eq;rw [O2,G.out] at this;omega
  rw [c];have ea:((a+20:Nat):Int)=(a:Int)+20:=by omega
  rw [ea]
  by_cases H0:a+20<=N
  .have g0:(a:Int)+20<=(N:Int):=by omega
   obtain ⟨B,hB⟩:∃ l,R.take 20=l:=⟨_,rfl⟩
   obtain ⟨R2,x0⟩:∃ l,R.drop 20=l:=⟨_,rfl⟩
   have hR:B++R2=R:=by rw [<- hB,<- x0];exact J3 _ _
   have f0:B.length=20:=by rw [<- hB,D3];omega
   rw [<- hR] at e0 b q;have g:=uY (U t N u) D B R2 a (a+20) c (by omega) wr F (by have:=b.length_eq;rw [G.out] at this;omega) e0;rw [ea] at g;have h:=ae g;have f:=ae b;have C:=ae m;have q0:=ae f0;have P:=ae c;have F0:(a:Int)<=4000:=by omega
   clear g b m f0 e0 hB x0 hR c q ea
   go_wp2_with fail
   refine h.out.mono ?_;rintro p0 w2 ⟨k,rfl,e,n,H,d⟩;have M:=ae d;have r:=ae e;have S2:=ae n;clear d e n h;have c0:(D++k).length=a+20:=by rw [O2,r.out.length_eq,q0.out,P.out]
   have O:=ae c0;clear c0
   go_wp2_with fail
   go_roundw
   case rel=>exact ⟨D++k,R2,by rw [O.out];simp,by rw [O.out];congr 1,C.out.snoc (by rw [r.out.length_eq,q0.out]) S2.out,(by
     rw [G3];exact (K3 D (r.out.append_right R2)).trans f.out),m0.trans H,by have h9:=M.out;simpa using h9⟩
   case measure=>simp [intOf];omega
  .have g0:¬ (a:Int)+20<=(N:Int):=by omega
   have g:=uY (U t N u) D R [] a N c q wr F (by have:=b.length_eq;rw [G.out] at this;simp at this ⊢;omega) (by rw [X2];exact e0);have h:=ae g;have f:=ae b;have C:=ae m;have P:=ae c;have D0:Hid (R.length<=20):=by show R.length<=20;omega
   have F0:(a:Int)<=4000:=by omega
   clear g b m e0 c q ea
   go_wp2_with fail
   refine h.out.mono ?_;rintro p0 w2 ⟨k,rfl,e,n,H,d⟩;rw [X2] at d;have K0:Vc (U t N u) o w F (Z .i64 20) w2:=⟨20,D++k,rfl,by decide,by decide,C.out _ (.last k (by rw [e.length_eq];exact D0.out) n),(K3 D e).trans f.out,m0.trans H,d⟩
   have r0:=ae K0;clear d e n h K0 f C P D0 m0 F0 g0 H0
   go_wp2_with fail
   go_loopw [6] (fun u6 wr=>Vc (U t N u) o w F u6 wr) (fun u6 _=>N-(intOf u6).toNat)
   case atStart=>exact r0.out
   case round=>
    clear r0;obtain ⟨bs,L,rfl,V0,c1,p,b,n0,h0⟩:=hrel;have u0:L.length=N:=by rw [b.length_eq,G.out]
    by_cases H0:bs<N
    .have g0:(bs:Int)<(N:Int):=by omega
     have L0:U9 (U t N u) o bs w F (Z .i64 0) (Z .i64 (2*(bs:Int))) wr:=⟨[],L,rfl,by simp,zv.nil,p,b,n0,h0⟩
     have s0:=ae L0;have b1:(1:Int)<=(bs:Int):=by omega
     clear L0 p b h0 n0 u0
     go_wp2_with fail
     go_loopw [7,8] (fun u7 u8 wr=>U9 (U t N u) o bs w F u7 u8 wr) (fun _ u8 _=>N+1-(intOf u8).toNat)
     case atStart=>exact s0.out
     case round=>
      clear s0;obtain ⟨s,R3,rfl,rfl,m,p,b,o0,J⟩:=hrel;obtain ⟨a3,c⟩:∃ a,s.length=a:=⟨_,rfl⟩
      have q:a3+R3.length=N:=by have:=b.length_eq;rw [O2,G.out] at this;omega
      obtain ⟨I,d0⟩:∃ j0,a3+2*bs=j0:=⟨_,rfl⟩
      obtain ⟨K,l0⟩:∃ j0,a3+bs=j0:=⟨_,rfl⟩
      rw [c,d0];have em:(a3:Int)+(bs:Int)=(K:Int):=by omega
      have a1:(a3:Int)<=(N:Int):=by omega
      by_cases d1:I<=N
      .have W0:(I:Int)<=(N:Int):=by omega
       obtain ⟨A,B,R4,rfl,lA,lB,sA,E,b0⟩:=p.two V0 (by omega);have g:=rR (A.length+B.length+1) (U t N u) s A B R4 a3 K I c (by omega) (by omega) (by omega) (by omega) (by omega) sA E wr F (by have:=b.length_eq;rw [G.out] at this;omega) J;have h:=ae g;have f:=ae b;have C:=ae m;have LA:=ae lA;have LB:=ae lB;have P:=ae c;have N0:=ae b0;have T0:=ae d0;clear g b m J c q lA lB sA E b0 d0 l0;have e2:(I:Int)+2*(bs:Int)<=16000:=by omega
       have e3:2*(bs:Int)<=8000:=by omega
       go_wp2_with fail
       refine h.out.mono ?_;rintro p0 w4 ⟨k,rfl,e,n,H,d⟩;have c0:(s++k).length=I:=by rw [O2,e.length_eq,O2,LA.out,LB.out,P.out];have:=T0.out;omega
       have M:=ae d;have r:=ae e;have S2:=ae n;have O:=ae c0;clear d e n h c0
       go_wp2_with fail
       go_roundw
       case rel=>exact ⟨s++k,R4,by rw [O.out],by rw [O.out];first|rfl|simp,C.out.snoc (by rw [r.out.length_eq,O2,LA.out,LB.out];omega) S2.out,N0.out,(by
         have h8:=f.out;rw [G3];refine (K3 s (r.out.append_right R4)).trans ?_;rw [G3];exact h8),o0.trans H,by have h9:=M.out;simpa using h9⟩
       case measure=>simp [intOf];omega
      .have W0:¬ (I:Int)<=(N:Int):=by omega
       by_cases e1:K<N
       .have X0:(K:Int)<(N:Int):=by omega
        obtain ⟨A,B,rfl,lA,sA,b0⟩:=p.split (by omega);rw [O2] at q;have E:=b0.short (by omega);have g:=rR (A.length+B.length+1) (U t N u) s A B [] a3 K N c (by omega) (by omega) (by omega) (by omega) (by omega) sA E wr F (by have:=b.length_eq;rw [G.out] at this;simp at this ⊢;omega) (by rw [X2];exact J);have h:=ae g;have f:=ae b;have C:=ae m;have LA:=ae lA;have Y0:=ae q;have f0:Hid (A.length+B.length<=2*bs):=by show A.length+B.length<=2*bs;omega
        clear g b m J c q lA sA E p b0 d0 l0
        go_wp2_with fail
        refine h.out.mono ?_;rintro p0 w4 ⟨k,rfl,e,n,H,d⟩;rw [X2] at d;have M:=ae d;have r:=ae e;have S2:=ae n;clear d e n h
        go_wp2_with fail
        go_roundw
        case rel=>exact ⟨2*bs,s++k,by simp;omega,by omega,by omega,C.out _ (.last k (by rw [r.out.length_eq,O2];exact f0.out) S2.out),(K3 s r.out).trans f.out,o0.trans H,M.out⟩
        case measure=>simp [intOf];omega
       .have X0:¬ (K:Int)<(N:Int):=by omega
        have E:=p.short (by omega);have G0:=m R3 (.last R3 (by omega) E);have HF:=ae G0;have f:=ae b;have S0:=ae J;clear G0 b J c q E p d0 l0 m
        go_wp2_with fail
        go_roundw
        case rel=>exact ⟨2*bs,s++R3,by simp;omega,by omega,by omega,HF.out,f.out,o0,S0.out⟩
        case measure=>simp [intOf];omega
    .have g0:¬ (bs:Int)<(N:Int):=by omega
     have hS:=p.short (by omega);have HS:=ae hS;have f:=ae b;have R0:=ae h0;clear hS b h0 p u0
     go_wp2_with fail
     go_end0
     exact HQ.out _ _ ⟨L,rfl,f.out,HS.out,n0,R0.out⟩
theorem uM (v:T) (a:List aH) (w:V) (F:ai) (o:a.length<=BA) (h:ag w (dJ v a*F)) :
  Calls Q 92 #[v,yP] w (Uf v a F w):=by
 refine aJ fun p g=>?_;have c:=ae (EL v a w F (Nat.le_trans o (by decide)) h _ rfl);obtain ⟨q,s,rfl⟩:=aE h;clear h;generalize a.length=N at *
 go_enter func92,ntmps92
 go_wp2_with fail
 refine c.out.mono ?_;rintro r t ⟨m,rfl,d,e,n,b⟩;have f:=ae b;have k:=ae d;have l:=ae e;clear b d e c
 go_wp2_with fail
 go_end0
 exact g.out _ _ ⟨m,rfl,k.out,l.out,n,f.out⟩
end Go.Proofs.Fs

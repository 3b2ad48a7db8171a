/- Steps. -/
import Derived.Test.YtebfaobobccikaaGreatDoorSP26
import Derived.Lib.Bytealg
set_option linter.all false
set_option maxRecDepth 99999
set_option maxHeartbeats 0
open Go.SL
open Go.Value renaming int->X,string->Z
open Go renaming World->U,Value->Z'
open Option renaming some->W,none->Y
open Bool renaming false->V
open Go.Proofs.Tryz
open List renaming length_append->A1,length_cons->D1,set_append_right->E1,set_cons_succ->K1,concat_eq_append->M1,length_nil->N1,nil_append->O1,append_nil->R1,eq_nil_or_concat->S1,getElem?_append_right->V1,length_singleton->X1
open Nat renaming le_refl->H1,sub_self->L1
open Array renaming size_setIfInBounds->T1
open List.Perm renaming refl->W1
namespace Go.SL
open RowKit
structure Ord {α:Type} (lt:α->α->Bool):Prop where
 U1:∀ x y,lt x y=true->lt y x=false
 tr:∀ x y z,lt y x=false->lt z y=false->lt z x=false
def kU {α:Type} (lt:α->α->Bool) (L:List α):Prop:=L.Pairwise fun x y=>lt y x=V
section
variable {α:Type} {lt:α->α->Bool}
theorem kU.nil:kU lt []:=List.Pairwise.nil
theorem kU.one (x:α):kU lt [x]:=List.pairwise_singleton _ _
theorem kU.app {A B:List α}:kU lt (A++B)↔kU lt A/\kU lt B/\∀ x ∈ A,∀ y ∈ B,lt y x=V:=List.pairwise_append
theorem kU.cons {x:α} {B:List α}:kU lt (x :: B)↔(∀ y ∈ B,lt y x=V)/\kU lt B:=List.pairwise_cons
theorem kU.last (O:Ord lt) {A:List α} {z x:α} (h:kU lt (A++[z])) (d:x ∈ A++[z]):lt z x=V:=by
 rcases List.mem_append.1 d with a|a
 .exact (kU.app.1 h).2.2 x a z (List.mem_singleton_self z)
 .rw [List.mem_singleton.1 a]
  cases c:lt z z with
  | false=>rfl
  | true=>have b:=O.U1 z z c;rw [c] at b;cases b
theorem kU.head (O:Ord lt) {B:List α} {z x:α} (h:kU lt (z :: B)) (d:x ∈ z :: B):lt x z=V:=by
 rcases List.mem_cons.1 d with a|a
 .rw [a]
  cases c:lt z z with
  | false=>rfl
  | true=>have b:=O.U1 z z c;rw [c] at b;cases b
 .exact (kU.cons.1 h).1 x a
theorem kU.UD (O:Ord lt) {A B:List α} (e:kU lt A) (m:kU lt B) (h:∀ a z y c,A=a++[z]->B=y :: c->lt y z=V):∀ x ∈ A,∀ y ∈ B,lt y x=V:=by
 intro x d y f;rcases S1 A with rfl|⟨a,z,rfl⟩
 .cases d
 .cases B with
  | nil=>cases f
  | cons b c=>
   rw [M1] at d e;have g:=e.last O d;have k:=m.head O f;have l:=h a z b c (M1 ..) rfl;exact O.tr x b y (O.tr x z b g l) k
theorem kU.join (O:Ord lt) {A B:List α} (a:kU lt A) (b:kU lt B) (h:∀ c z y d,A=c++[z]->B=y :: d->lt y z=V):kU lt (A++B):=
 kU.app.2 ⟨a,b,kU.UD O a b h⟩
theorem kU.insert (O:Ord lt) {A B:List α} {u:α} (h:kU lt (A++B)) (k:∀ c z,A=c++[z]->lt u z=V) (l:∀ y a,B=y :: a->lt y u=V):kU lt (A++u :: B):=by
 obtain ⟨m,e,n⟩:=kU.app.1 h;refine kU.join O m (kU.cons.2 ⟨fun y f=>?_,e⟩) fun c z y a g d=>?_
 .cases B with
  | nil=>cases f
  | cons b a=>exact O.tr u b y (l b a rfl) (e.head O f)
 .simp only [List.cons.injEq] at d
  rw [<- d.1];exact k c z g
end
def Cu (x y:aN):Bool:=decide (Lib.compareBytes x.nm y.nm<0)
theorem zd:∀ a b:List UInt8,Lib.compareBytes a b=- Lib.compareBytes b a
 | [],[]=>rfl
 | [],_ :: _=>rfl
 | _ :: _,[]=>rfl
 | a :: d,b :: bs=>by
  unfold Lib.compareBytes
  by_cases h:a<b
  .have c:¬ b<a:=fun e=>absurd (UInt8.lt_trans h e) (UInt8.lt_irrefl a)
   rw [if_pos h,if_neg c,if_pos h]
  .rw [if_neg h]
   by_cases c:b<a
   .rw [if_pos c,if_pos c];rfl
   .rw [if_neg c,if_neg c,if_neg h];exact zd d bs
theorem vx:∀ a b:List UInt8,Lib.compareBytes a b=-1\/Lib.compareBytes a b=0\/Lib.compareBytes a b=1
 | [],[]=>.inr (.inl rfl)
 | [],_ :: _=>.inl rfl
 | _ :: _,[]=>.inr (.inr rfl)
 | a :: c,b :: bs=>by
  unfold Lib.compareBytes
  split
  .exact .inl rfl
  .split
   .exact .inr (.inr rfl)
   .exact vx c bs
theorem vp:∀ a b c:List UInt8,0<=Lib.compareBytes b a->0<=Lib.compareBytes c b->0<=Lib.compareBytes c a
 | [],_,[],_,_=>by simp [Lib.compareBytes]
 | [],_,_ :: _,_,_=>by simp [Lib.compareBytes]
 | a :: g,[],_,h,_=>by simp [Lib.compareBytes] at h
 | a :: g,b :: bs,[],_,h=>by simp [Lib.compareBytes] at h
 | a :: g,b :: bs,c :: o,d,e=>by
  unfold Lib.compareBytes at d e ⊢
  by_cases f:b<a
  .rw [if_pos f] at d;omega
  .by_cases l:c<b
   .rw [if_pos l] at e;omega
   .rw [if_neg f] at d
    rw [if_neg l] at e;have n:a<=b:=UInt8.not_lt.1 f;have k:b<=c:=UInt8.not_lt.1 l;have q:¬ c<a:=UInt8.not_lt.2 (UInt8.le_trans n k);rw [if_neg q]
    by_cases m:a<c
    .rw [if_pos m];decide
    .rw [if_neg m]
     have p:a=c:=UInt8.le_antisymm (UInt8.le_trans n k) (UInt8.not_lt.1 m);subst p;have r:¬ a<b:=UInt8.not_lt.2 k;have s:¬ b<a:=f;rw [if_neg r] at d;rw [if_neg s] at e;exact vp g bs o d e
theorem QB:Ord Cu where
 U1:=fun x y h=>by
  unfold Cu at h ⊢;have:=of_decide_eq_true h;have e:=zd x.nm y.nm;exact decide_eq_false (by omega)
 tr:=fun x y z a b=>by
  unfold Cu at a b ⊢;have c:=of_decide_eq_false a;have d:=of_decide_eq_false b;have:=vp x.nm y.nm z.nm (by omega) (by omega);exact decide_eq_false (by omega)
def KE {α:Type} (L:List α) (i j:Nat) (x y:α):List α:=(L.set i y).set j x
theorem MD {α:Type} (S T R:List α) (x y:α):KE (S++x :: (T++y :: R)) S.length (S.length+1+T.length) x y=S++y :: (T++x :: R):=by
 unfold KE;rw [E1 _ _ (H1 _),L1,List.set_cons_zero,E1 _ _ (by omega),show S.length+1+T.length-S.length=T.length+1 by omega,K1,E1 _ _ (H1 _),L1,List.set_cons_zero]
end Go.SL
namespace Go.Proofs.Fs
open RowKit SL Proofs.Ba
abbrev Sw:Z':=.func (.func 93) #[] #[]
def I7 (x y:aN):Int:=Lib.compareBytes x.nm y.nm
theorem QV (x y:aN):decide (I7 x y<0)=Cu x y:=rfl
theorem EB (x y:aN):-1<=I7 x y/\I7 x y<=1:=by
 unfold I7;rcases vx x.nm y.nm with h|h|h <;> omega
def Wq (x y:aN) (w:U) (e:Ending) (a:U):Prop:=e = .returned (X .i64 (I7 x y))/\ag a (whole w)/\aj w a
theorem Nf (x y:aN) (w:U):Calls prog 93 #[.agg #[X .i64 (x.nd:Int),Z (str x.nm)],.agg #[X .i64 (y.nd:Int),Z (str y.nm)]] w (Wq x y w):=by
 refine aH fun Q c=>?_;have f:=ae (((ag.whole w).alloc (.cells #[X .i64 (x.nd:Int),Z (str x.nm)] 80 (0,0))).alloc (.cells #[X .i64 (y.nd:Int),Z (str y.nm)] 80 (0,0))).right.right;have d:=ae (((aj.refl w).alloc (.cells #[X .i64 (x.nd:Int),Z (str x.nm)] 80 (0,0))).alloc (.cells #[X .i64 (y.nd:Int),Z (str y.nm)] 80 (0,0)));have a:=fun w=>Tryz.strings_Compare (str x.nm) (str y.nm) w;have b:=ae a;clear a
 go_enter func93,ntmps93
 go_wp2_with fail
 refine (b.out _).mono ?_;rintro e g ⟨rfl,rfl⟩
 go_wp2_with fail
 exact c.out _ _ ⟨rfl,f.out,d.out⟩
def il (v:Z') (L:List aN):ai:=sl 80 2 v L.length (bC L)
theorem Kf {L:List aN} {i:Nat} (c:i<L.length) (e:aN):((bC L).set (i*2) (X .i64 (e.nd:Int))).set (i*2+1) (Z (str e.nm))=bC (L.set i e):=by
 induction L generalizing i with
 | nil=>simp at c
 | cons a L f=>
  have b:bC (a :: L) = X .i64 (a.nd:Int) :: Z (str a.nm) :: bC L:=rfl
  cases i with
  | zero=>rw [b];rfl
  | succ i=>
   have d:(i+1)*2=i*2+1+1:=by omega
   rw [b,d,K1,K1,K1,K1];show _ = X .i64 (a.nd:Int) :: Z (str a.nm) :: bC (L.set i e)
   rw [<- f (by simpa using c)]
section
variable {w:U} {v:Z'} {L:List aN} {F:ai} {i j:Nat}
theorem uZ (h:ag w (il v L*F)) (o:i<L.length) (e:aN):∃ g c,v = .slice (W ⟨g,0,Y⟩) L.length c/\w.frozen? ⟨g,i*2,Y⟩=V/\w.frozen? ⟨g,i*2+1,Y⟩=V /\
  ag ((w.setCell ⟨g,i*2,Y⟩ (X .i64 (e.nd:Int))).setCell ⟨g,i*2+1,Y⟩ (Z (str e.nm))) (il v (L.set i e)*F):=by
 rcases h.dm with ⟨_,q,_⟩|⟨g,b,p,rfl,d,f,k,l,a⟩
 .omega
 .refine ⟨g,b,rfl,a.frozen _,a.frozen _,?_⟩
  have m:=(a.setCell (i*2) (X .i64 (e.nd:Int))).setCell (i*2+1) (Z (str e.nm));have n:=ag.oa (sz:=2) (n:=L.length) (cap:=b) m d f (by rw [T1,T1];exact k);unfold il;rw [List.length_set];refine n.to ?_;congr 2;rw [<- Kf o,<- l];simp only [Array.toList_setIfInBounds];rw [List.take_set,List.take_set]
theorem rJ (h:ag w (il v L*F)) (d:i<L.length) {x:aN} (f:L[i]?=W x):∃ g c,v = .slice (W ⟨g,0,Y⟩) L.length c/\w.cell? ⟨g,i*2,Y⟩=W (X .i64 (x.nd:Int))/\w.cell? ⟨g,i*2+1,Y⟩=W (Z (str x.nm))/\L.length<=c/\(c:Int)<=9223372036854775807:=by
 obtain ⟨g,c,e,a,b,k,l⟩:=oX h d;have:L[i]=x:=by rw [List.getElem?_eq_getElem d] at f;exact Option.some.inj f
 rw [this] at a b;exact ⟨g,c,e,a,b,k,by omega⟩
theorem yo (h:ag w (il v L*F)) (f:i<L.length) (d:j<L.length) (D:i≠j) {x y:aN} (u:L[i]?=W x) (A:L[j]?=W y):∃ g c,v = .slice (W ⟨g,0,Y⟩) L.length c/\L.length<=c/\(c:Int)<=9223372036854775807 /\
  (w.cell? ⟨g,i*2,Y⟩=W (X .i64 (x.nd:Int))/\w.cell? ⟨g,i*2+1,Y⟩=W (Z (str x.nm))/\w.cell? ⟨g,j*2,Y⟩=W (X .i64 (y.nd:Int))/\w.cell? ⟨g,j*2+1,Y⟩=W (Z (str y.nm))) /\
  (w.frozen? ⟨g,i*2,Y⟩=V/\w.frozen? ⟨g,i*2+1,Y⟩=V/\w.frozen? ⟨g,j*2,Y⟩=V/\w.frozen? ⟨g,j*2+1,Y⟩=V) /\
  ag ((((w.setCell ⟨g,i*2,Y⟩ (X .i64 (y.nd:Int))).setCell ⟨g,i*2+1,Y⟩ (Z (str y.nm))).setCell ⟨g,j*2,Y⟩ (X .i64 (x.nd:Int))).setCell ⟨g,j*2+1,Y⟩ (Z (str x.nm))) (il v (KE L i j x y)*F):=by
 obtain ⟨g,c,rfl,k,l,B,C⟩:=rJ h f u;obtain ⟨b,a,e,m,n,-,-⟩:=rJ h d A;simp only [Value.slice.injEq,Option.some.injEq,Addr.mk.injEq] at e;obtain ⟨⟨rfl,-⟩,-⟩:=e;obtain ⟨b,a,e,o,p,s⟩:=uZ h f y;simp only [Value.slice.injEq,Option.some.injEq,Addr.mk.injEq] at e;obtain ⟨⟨rfl,-⟩,-⟩:=e;obtain ⟨b,a,e,q,r,-⟩:=uZ h d y;simp only [Value.slice.injEq,Option.some.injEq,Addr.mk.injEq] at e;obtain ⟨⟨rfl,-⟩,-⟩:=e;obtain ⟨b,a,e,_,_,t⟩:=uZ s (by rw [List.length_set];exact d:j<_) x;simp only [Value.slice.injEq,Option.some.injEq,Addr.mk.injEq] at e;obtain ⟨⟨rfl,-⟩,-⟩:=e;exact ⟨g,c,rfl,B,C,⟨k,l,m,n⟩,⟨o,p,q,r⟩,t⟩
end
theorem oR {w:U} {v:Z'} {S T:List aN} {x y:aN} {F:ai} (h:ag w (il v (S++x :: y :: T)*F)) {N i:Nat} (m:S.length=i) (f:(S++x :: y :: T).length=N):∃ g c,v = .slice (W ⟨g,0,Y⟩) N c/\N<=c/\(c:Int)<=9223372036854775807 /\
  (w.cell? ⟨g,i*2,Y⟩=W (X .i64 (x.nd:Int))/\w.cell? ⟨g,i*2+1,Y⟩=W (Z (str x.nm))/\w.cell? ⟨g,(i+1)*2,Y⟩=W (X .i64 (y.nd:Int))/\w.cell? ⟨g,(i+1)*2+1,Y⟩=W (Z (str y.nm))) /\
  (w.frozen? ⟨g,i*2,Y⟩=V/\w.frozen? ⟨g,i*2+1,Y⟩=V/\w.frozen? ⟨g,(i+1)*2,Y⟩=V/\w.frozen? ⟨g,(i+1)*2+1,Y⟩=V) /\
  ag ((((w.setCell ⟨g,i*2,Y⟩ (X .i64 (y.nd:Int))).setCell ⟨g,i*2+1,Y⟩ (Z (str y.nm))).setCell ⟨g,(i+1)*2,Y⟩ (X .i64 (x.nd:Int))).setCell ⟨g,(i+1)*2+1,Y⟩ (Z (str x.nm))) (il v (S++y :: x :: T)*F) /\
  ag ((((w.setCell ⟨g,(i+1)*2,Y⟩ (X .i64 (x.nd:Int))).setCell ⟨g,(i+1)*2+1,Y⟩ (Z (str x.nm))).setCell ⟨g,i*2,Y⟩ (X .i64 (y.nd:Int))).setCell ⟨g,i*2+1,Y⟩ (Z (str y.nm))) (il v (S++y :: x :: T)*F):=by
 subst m f;have ex:(S++x :: y :: T)[S.length]?=W x:=by rw [V1 (H1 _),L1];rfl
 have a:(S++x :: y :: T)[S.length+1]?=W y:=by rw [V1 (by omega),show S.length+1-S.length=1 by omega];rfl
 obtain ⟨g,c,rfl,n,o,k,l,b⟩:=yo h (by simp) (by simp) (by omega) ex a;obtain ⟨q,p,e,_,_,_,_,d⟩:=yo h (i:=S.length+1) (j:=S.length) (by simp) (by simp) (by omega) a ex;simp only [Value.slice.injEq,Option.some.injEq,Addr.mk.injEq] at e;obtain ⟨⟨rfl,-⟩,-⟩:=e;refine ⟨g,c,rfl,n,o,k,l,?_,?_⟩
 .have e:=MD S [] T x y
  rw [N1,Nat.add_zero,O1,O1] at e;rw [e] at b;exact b
 .have e:KE (S++x :: y :: T) (S.length+1) S.length y x=S++y :: x :: T:=by
   unfold KE;rw [E1 _ _ (by omega),show S.length+1-S.length=1 by omega,E1 _ _ (H1 _),L1];rfl
  rw [e] at d;exact d
def W9 (v:Z') (d c e:List aN) (a b N:Nat) (w0:U) (F:ai) (u8:Z') (wr:U):Prop:=
 ∃ (S R:List aN),u8 = X .i64 ((a+S.length:Nat):Int)/\1<=S.length/\a+S.length+R.length=b/\(S++R).Perm c/\kU Cu S/\aj w0 wr/\ag wr (il v (d++(S++(R++e)))*F)
def WH (v:Z') (c S d:List aN) (x:aN) (a:Nat) (w0:U) (F:ai) (u9:Z') (wr:U):Prop:=
 ∃ (P Q:List aN),u9 = X .i64 ((a+P.length:Nat):Int)/\P++Q=S/\(∀ y b,Q=y :: b->Cu x y=true)/\aj w0 wr/\ag wr (il v (c++(P++x :: (Q++d)))*F)
def zB (v:Z') (c b d:List aN) (F:ai) (w:U) (e:Ending) (w':U):Prop:=
 ∃ a:List aN,e = .returned (.tuple #[])/\a.Perm b/\kU Cu a/\aj w w'/\ag w' (il v (c++(a++d))*F)
theorem Fl (v:Z') (f s l:List aN) (a b:Nat) (ha:f.length=a) (hb:a+s.length=b) (w:U) (F:ai) (hl:(f++(s++l)).length<=4000) (h:ag w (il v (f++(s++l))*F)) :
  Calls prog 211 #[v,X .i64 (a:Int),X .i64 (b:Int),Sw] w (zB v f s l F w):=by
 refine aH fun Q' HQ=>?_;obtain ⟨va,vc,rfl⟩:=aF h;obtain ⟨N,hN⟩:∃ N,(f++(s++l)).length=N:=⟨_,rfl⟩
 rw [hN] at hl h HQ ⊢;have s0:a+s.length+l.length=N:=by rw [<- hN,A1,A1,ha];omega
 have X0:(N:Int)<=4000:=by omega
 have a1:(b:Int)<=(N:Int):=by omega
 have Z0:(a:Int)<=(b:Int):=by omega
 have c0:=ae h;have Ha:=ae ha;have Hb:=ae hb;have N0:=ae s0;have HN:=ae hN;clear h ha hb s0 hN
 cases s with
 | nil=>
  have T0:b=a:=by rw [<- Hb.out];rfl
  subst T0
  go_enter func211,ntmps211
  go_wp2_with fail
  refine wp_loop_rounds 1 ?_;rw [rounds_succ]
  go_wp2_with fail
  go_end0
  exact HQ.out _ _ ⟨[],rfl,W1 _,kU.nil,aj.refl w,c0.out⟩
 | cons x0 R0=>
  go_enter func211,ntmps211
  go_wp2_with fail
  go_loopw [8] (fun u8 wr=>W9 (.slice va N vc) f (x0 :: R0) l a b N w F u8 wr) (fun u8 _=>b-(intOf u8).toNat)
  case atStart=>exact ⟨[x0],R0,by simp,H1 _,by have:=Hb.out;simp at this ⊢;omega,W1 _,kU.one _,aj.refl w,c0.out⟩
  case round=>
   obtain ⟨S,S0,rfl,Y0,i0,hP,hS,H0,b0⟩:=hrel;clear c0;obtain ⟨i,O⟩:∃ i,a+S.length=i:=⟨_,rfl⟩
   rw [O] at i0 ⊢;have HP:=ae hP;have HS:=ae hS;clear hP hS
   cases S0 with
   | nil=>
    have G0:i=b:=by simpa using i0
    subst G0;have H2:=ae b0;clear b0 O
    go_wp2_with fail
    go_end0
    exact HQ.out _ _ ⟨S,rfl,by have:=HP.out;rwa [R1] at this,HS.out,H0,by simpa using H2.out⟩
   | cons x n=>
    rw [D1] at i0;have G0:(i:Int)<(b:Int):=by omega
    have K0:WH (.slice va N vc) f S (n++l) x a w F (X .i64 (i:Int)) wr:=⟨S,[],by rw [O],R1 S,fun y C h=>(by cases h),H0,b0⟩
    have q0:=ae K0;have r:=ae O;clear b0 K0 O
    go_wp2_with fail
    go_loopw [9] (fun u9 wr=>WH (.slice va N vc) f S (n++l) x a w F u9 wr) (fun u9 _=>(intOf u9).toNat)
    case atStart=>exact q0.out
    case round=>
     clear q0;obtain ⟨g0,Q,rfl,M,hQ,o0,A⟩:=hrel;obtain ⟨j,u⟩:∃ j,a+g0.length=j:=⟨_,rfl⟩
     rw [u]
     have B:(f++(g0++x :: (Q++(n++l)))).length=N:=by
      have c:=N0.out;have J:=Hb.out;have h3:=r.out;rw [<- M,A1] at h3;rw [D1] at c J;simp only [A1,D1,Ha.out];omega
     have e1:j<N:=by rw [<- B];simp only [A1,D1,Ha.out];omega
     have g1:a<=j:=by omega
     rcases S1 g0 with rfl|⟨m,z,rfl⟩
     .obtain rfl:a=j:=by simpa using u
      rw [O1] at M A;subst M;have H2:=ae A;have d0:=ae hQ;clear A u B hQ;have h1:¬ ((a:Int)<(a:Int)):=by omega
      go_wp2_with fail
      go_quiet (fail)
      go_wp2_with fail
      go_roundw
      case rel=>exact ⟨x :: Q,n,by simp;have:=r.out;omega,by simp,by rw [D1];have:=r.out;omega,(List.perm_middle.symm.trans HP.out),kU.insert QB (A:=[]) HS.out (fun A' z h=>absurd h (by simp)) (fun y C h=>QB.U1 _ _ (d0.out y C h)),o0.drewN nq,by have t:=ag.of_heap (w':=wr.drewN nq) H2.out rfl;simpa using t⟩
      case measure=>have:=r.out;simp [intOf];omega
     .rw [M1] at *
      obtain ⟨k,hk⟩:∃ k,(f++m).length=k:=⟨_,rfl⟩
      have m0:k+1=j:=by rw [<- hk,<- u];simp only [A1,X1,Ha.out];omega
      have e0:f++(m++[z]++x :: (Q++(n++l)))=(f++m)++z :: x :: (Q++(n++l)):=by simp
      rw [e0] at A B;obtain ⟨g,r0,e,k1,k2,⟨c1,c2,G,H⟩,-,-,-⟩:=oR A hk B;simp only [Value.slice.injEq] at e;obtain ⟨rfl,-,rfl⟩:=e;rw [m0] at G H;have D0:=Nf x z;have k0:=QV x z;have V0:=EB x z;obtain ⟨cz,l0⟩:∃ r0,I7 x z=r0:=⟨_,rfl⟩
      have F0:∀ w,Calls prog 93 #[.agg #[X .i64 (x.nd:Int),Z (str x.nm)],.agg #[X .i64 (z.nd:Int),Z (str z.nm)]] w (fun e d=>e = .returned (X .i64 cz)/\ag d (whole w)/\aj w d):=fun w=>by
       refine (D0 w).mono ?_;rintro e d ⟨rfl,c,J⟩;exact ⟨by rw [l0],c,J⟩
      rw [l0] at k0 V0;have R:=ae F0;have T:=ae A;have Hk:=ae hk;have d0:=ae hQ;have D:=ae M;have f0:=ae B;have E:=ae m0;have Hj:=ae u;have t1:(a:Int)<(j:Int):=by have:=u;simp only [A1,X1] at this;omega
      have t2:(j:Int)<(N:Int):=by omega
      have t3:(k:Int)<(N:Int):=by omega
      have t4:(N:Int)<=(vc:Int):=by omega
      have t5:IntKind.i64.wrap ((j:Int)-1)=(k:Int):=by rw [IntKind.wrap_i64];omega
      have u0:=ae k0;have d1:decide ((a:Int)<(j:Int))=true:=by simpa using t1
      clear D0 F0 l0 A hk hQ M B m0 u k1 e0 k0
      by_cases hz:cz<0
      .have n0:Hid (Cu x z=true):=by show _=_;rw [<- u0.out];exact decide_eq_true hz
       have W0:decide (cz<0)=true:=decide_eq_true hz
       go_wp2_with fail
       go_region_held3 (fun d=>d.cell? ⟨g,k*2,Y⟩=W (X .i64 (z.nd:Int))/\d.cell? ⟨g,k*2+1,Y⟩=W (Z (str z.nm))/\d.cell? ⟨g,j*2,Y⟩=W (X .i64 (x.nd:Int))/\d.cell? ⟨g,j*2+1,Y⟩=W (Z (str x.nm))) (first|exact ⟨c1,c2,G,H⟩|exact P|go_keep)
        (first|(go_at_call 93;refine (R.out wr.drew).mono ?_;rintro e o ⟨rfl,K,I⟩;have q:=K.ei (ag.drew T.out);obtain ⟨g',c',p,-,-,p0,-,-,-⟩:=oR q Hk.out f0.out;have P:o.cell? ⟨g,k*2,Y⟩=W (X .i64 (z.nd:Int))/\o.cell? ⟨g,k*2+1,Y⟩=W (Z (str z.nm))/\o.cell? ⟨g,j*2,Y⟩=W (X .i64 (x.nd:Int))/\o.cell? ⟨g,j*2+1,Y⟩=W (Z (str x.nm)):=by simp only [Value.slice.injEq,Option.some.injEq,Addr.mk.injEq] at p;obtain ⟨⟨rfl,-⟩,-⟩:=p;rwa [E.out] at p0))
       rename_i h0;have D5:=ae (o0.drew.trans I);obtain ⟨g',c',p,-,-,⟨b1,b2,b3,b4⟩,⟨f1,f2,f3,f4⟩,h7,h8⟩:=oR q Hk.out f0.out;simp only [Value.slice.injEq,Option.some.injEq,Addr.mk.injEq] at p;obtain ⟨⟨rfl,-⟩,-⟩:=p;rw [E.out] at b3 b4 f3 f4 h7 h8;have H7:=ae h7;have H8:=ae h8;have t6:IntKind.i64.wrap (k:Int)=(k:Int):=by rw [IntKind.wrap_i64];omega
       have t7:(j:Int)-1=(k:Int):=by have:=E.out;omega
       clear h7 h8 q K I P h0 R T c1 c2 G H
       go_wp2_with fail
       go_region_law (fail)
       all_goals
        go_wp2
        go_roundw
        case rel=>exact ⟨m,z :: Q,by have:=Hk.out;rw [A1,Ha.out] at this;rw [this],by rw [<- D.out];simp,fun y C h=>by
          simp only [List.cons.injEq] at h;rw [<- h.1];exact n0.out,((((D5.out.setCell _ _).setCell _ _).setCell _ _).setCell _ _).drew,by
          first
           | (have t:=H8.out.drew;simpa using t)
           | (have t:=H7.out.drew;simpa using t)⟩
        case measure=>have:=E.out;simp [intOf];omega
      .have n0:Hid (Cu x z=V):=by show _=_;rw [<- u0.out];exact decide_eq_false hz
       have W0:decide (cz<0)=V:=decide_eq_false hz
       go_wp2_with fail
       go_region_held3 (fun d=>d.cell? ⟨g,k*2,Y⟩=W (X .i64 (z.nd:Int))/\d.cell? ⟨g,k*2+1,Y⟩=W (Z (str z.nm))/\d.cell? ⟨g,j*2,Y⟩=W (X .i64 (x.nd:Int))/\d.cell? ⟨g,j*2+1,Y⟩=W (Z (str x.nm))) (first|exact ⟨c1,c2,G,H⟩|exact P|go_keep)
        (first|(go_at_call 93;refine (R.out wr.drew).mono ?_;rintro e o ⟨rfl,K,I⟩;have q:=K.ei (ag.drew T.out);obtain ⟨g',c',p,-,-,p0,-,-,-⟩:=oR q Hk.out f0.out;have P:o.cell? ⟨g,k*2,Y⟩=W (X .i64 (z.nd:Int))/\o.cell? ⟨g,k*2+1,Y⟩=W (Z (str z.nm))/\o.cell? ⟨g,j*2,Y⟩=W (X .i64 (x.nd:Int))/\o.cell? ⟨g,j*2+1,Y⟩=W (Z (str x.nm)):=by simp only [Value.slice.injEq,Option.some.injEq,Addr.mk.injEq] at p;obtain ⟨⟨rfl,-⟩,-⟩:=p;rwa [E.out] at p0))
       rename_i h0;have D5:=ae (o0.drew.trans I);have L0:=ae q;clear q K I P h0 R T c1 c2 G H
       go_wp2_with fail
       go_roundw
       case rel=>exact ⟨(m++[z])++x :: Q,n,by
         have J:a+((m++[z])++x :: Q).length=i+1:=by
          have c:=r.out;rw [<- D.out] at c;simp only [A1,D1,N1] at c ⊢;omega
         rw [J];simp,by simp only [A1,D1];omega,by
         have c:=r.out;rw [<- D.out] at c;simp only [A1,D1,N1] at c ⊢;omega,by
         have c:=HP.out;rw [<- D.out] at c;refine (List.Perm.trans ?_ c);have e9:((m++[z])++x :: Q)++n=(m++[z])++(x :: (Q++n)):=by simp
         rw [e9,List.append_assoc (m++[z]) Q];exact List.Perm.append_left _ List.perm_middle.symm,by
         have c:=HS.out;rw [<- D.out] at c
         exact kU.insert QB c (fun A' y h=>by
          have:=List.append_inj_right' h rfl;simp only [List.cons.injEq] at this;rw [<- this.1];exact n0.out) (fun y C h=>QB.U1 _ _ (d0.out y C h)),D5.out,by have t:=L0.out;simpa using t⟩
       case measure=>have:=r.out;simp [intOf];omega
theorem Cz {w:U} {v:Z'} {L:List aN} {F:ai} {x y:aN} {i j N:Nat} (h:ag w (il v L*F)) (k:L.length=N) (l:i<N) (m:j<N) (n:L[i]?=W x) (o:L[j]?=W y):∃ g c,v = .slice (W ⟨g,0,Y⟩) N c/\N<=c/\(c:Int)<=9223372036854775807 /\
  (w.cell? ⟨g,i*2,Y⟩=W (X .i64 (x.nd:Int))/\w.cell? ⟨g,i*2+1,Y⟩=W (Z (str x.nm))/\w.cell? ⟨g,j*2,Y⟩=W (X .i64 (y.nd:Int))/\w.cell? ⟨g,j*2+1,Y⟩=W (Z (str y.nm))):=by
 subst k;obtain ⟨g,c,rfl,a,b,p,q⟩:=rJ h l n;obtain ⟨s,r,e,d,f,-,-⟩:=rJ h m o;simp only [Value.slice.injEq,Option.some.injEq,Addr.mk.injEq] at e;obtain ⟨⟨rfl,-⟩,-⟩:=e;exact ⟨g,c,rfl,p,q,a,b,d,f⟩
def Dv:Nat:=19
def UY (v:Z') (c:List aN) (F:ai) (w:U) (e:Ending) (b:U):Prop:=
 ∃ a:List aN,e = .returned (.tuple #[])/\a.Perm c/\kU Cu a/\aj w b/\ag b (il v a*F)
theorem E3 (v:Z') (a:List aN) (w:U) (F:ai) (s:a.length<=19) (h:ag w (il v a*F)) (N:Nat) (f:a.length=N) :
  Calls prog 156 #[v,X .i64 (N:Int),Sw] w (UY v a F w):=by
 refine aH fun t c=>?_;obtain ⟨B,C,rfl⟩:=aF h;have b:=Fl _ [] a [] 0 N rfl (by omega) w F (by simp;omega) (by rw [R1];exact h);rw [f] at s c b ⊢;have u:¬ (20:Int)<=(N:Int):=by omega
 have A:¬ (20:Int)<(N:Int):=by omega
 have d:=ae b;clear h f b
 go_enter func156,ntmps156
 go_wp2_with fail
 refine wp_loop_rounds 1 ?_;rw [rounds_succ]
 go_wp2_with fail
 refine d.out.mono ?_;rintro r D ⟨o,rfl,g,k,p,e⟩;have l:=ae e;have m:=ae g;have n:=ae k;clear e g k d
 go_wp2_with fail
 refine wp_loop_rounds 1 ?_;rw [rounds_succ]
 go_wp2_with fail
 go_end0
 exact c.out _ _ ⟨o,rfl,m.out,n.out,p,by have q:=l.out;simpa using q⟩
theorem xh (v:Z') (a:List aN) (w:U) (F:ai) (o:a.length<=Dv) (h:ag w (il v a*F)) :
  Calls prog 92 #[v,Sw] w (UY v a F w):=by
 refine aH fun p g=>?_;have c:=ae (E3 v a w F (Nat.le_trans o (by decide)) h _ rfl);obtain ⟨q,s,rfl⟩:=aF h;clear h;generalize a.length=N at *
 go_enter func92,ntmps92
 go_wp2_with fail
 refine c.out.mono ?_;rintro r t ⟨m,rfl,d,e,n,b⟩;have f:=ae b;have k:=ae d;have l:=ae e;clear b d e c
 go_wp2_with fail
 go_end0
 exact g.out _ _ ⟨m,rfl,k.out,l.out,n,f.out⟩
end Go.Proofs.Fs

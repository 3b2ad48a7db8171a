/- Steps. -/
import Derived.Test.YtiomanbgcfjblaaGreatDoorLP35
import Derived.Lib.Bytealg
set_option linter.all false
set_option maxRecDepth 99999
set_option maxHeartbeats 0
open Go.SL
open Go.Value renaming int->X,string->Z
open Go.IntKind renaming i64->W
open Go renaming World->T,Value->Z'
open Option renaming some->V,none->Y
open Bool renaming false->U
open Go.Proofs.Tryz
open List renaming length_append->A1,length_cons->B3,set_append_right->D9,set_cons_succ->D7,concat_eq_append->D4,length_nil->D3,nil_append->D2,append_nil->D1,eq_nil_or_concat->E5,getElem?_append_right->E3,length_singleton->E1
open Nat renaming le_refl->D8,sub_self->D6
open Array renaming size_setIfInBounds->E4
open List.Perm renaming refl->E2
namespace Go.SL
open RowKit
structure Ord {α:Type} (lt:α->α->Bool):Prop where
 We:∀ x y,lt x y=true->lt y x=false
 tr:∀ x y z,lt y x=false->lt z y=false->lt z x=false
def kP {α:Type} (lt:α->α->Bool) (L:List α):Prop:=L.Pairwise fun x y=>lt y x=U
section
variable {α:Type} {lt:α->α->Bool}
def kP.nil:kP lt []:=List.Pairwise.nil
def kP.one (x:α):kP lt [x]:=List.pairwise_singleton _ _
def kP.app {A B:List α}:kP lt (A++B)↔kP lt A/\kP lt B/\∀ x ∈ A,∀ y ∈ B,lt y x=U:=List.pairwise_append
def kP.cons {x:α} {B:List α}:kP lt (x :: B)↔(∀ y ∈ B,lt y x=U)/\kP lt B:=List.pairwise_cons
def kP.last (O:Ord lt) {A:List α} {z x:α} (h:kP lt (A++[z])) (d:x ∈ A++[z]):lt z x=U:=by
 rcases List.mem_append.1 d with a|a
 .exact (kP.app.1 h).2.2 x a z (List.mem_singleton_self z)
 .rw [List.mem_singleton.1 a]
  cases c:lt z z with
  | false=>rfl
  | true=>have b:=O.We z z c;rw [c] at b;cases b
def kP.head (O:Ord lt) {B:List α} {z x:α} (h:kP lt (z :: B)) (d:x ∈ z :: B):lt x z=U:=by
 rcases List.mem_cons.1 d with a|a
 .rw [a]
  cases c:lt z z with
  | false=>rfl
  | true=>have b:=O.We z z c;rw [c] at b;cases b
 .exact (kP.cons.1 h).1 x a
def kP.WJ (O:Ord lt) {A B:List α} (e:kP lt A) (l:kP lt B) (h:∀ a z y c,A=a++[z]->B=y :: c->lt y z=U):∀ x ∈ A,∀ y ∈ B,lt y x=U:=by
 intro x d y hy;rcases E5 A with rfl|⟨a,z,rfl⟩
 .cases d
 .cases B with
  | nil=>cases hy
  | cons b c=>
   rw [D4] at d e;have f:=e.last O d;have g:=l.head O hy;have k:=h a z b c (D4 ..) rfl;exact O.tr x b y (O.tr x z b f k) g
def kP.join (O:Ord lt) {A B:List α} (a:kP lt A) (b:kP lt B) (h:∀ c z y d,A=c++[z]->B=y :: d->lt y z=U):kP lt (A++B):=
 kP.app.2 ⟨a,b,kP.WJ O a b h⟩
def kP.insert (O:Ord lt) {A B:List α} {u:α} (h:kP lt (A++B)) (g:∀ c z,A=c++[z]->lt u z=U) (k:∀ y a,B=y :: a->lt y u=U):kP lt (A++u :: B):=by
 obtain ⟨l,e,m⟩:=kP.app.1 h;refine kP.join O l (kP.cons.2 ⟨fun y hy=>?_,e⟩) fun c z y a f d=>?_
 .cases B with
  | nil=>cases hy
  | cons b a=>exact O.tr u b y (k b a rfl) (e.head O hy)
 .simp only [List.cons.injEq] at d
  rw [<- d.1];exact g c z f
end
def Cr (x y:aM):Bool:=decide (Lib.compareBytes x.nm y.nm<0)
def yF:∀ a b:List UInt8,Lib.compareBytes a b=- Lib.compareBytes b a
 | [],[]=>rfl
 | [],_ :: _=>rfl
 | _ :: _,[]=>rfl
 | a :: d,b :: bs=>by
  unfold Lib.compareBytes
  by_cases h:a<b
  .have c:¬ b<a:=fun e=>absurd (UInt8.lt_trans h e) (UInt8.lt_irrefl a)
   rw [if_pos h,if_neg c,if_pos h]
  .rw [if_neg h]
   by_cases c:b<a
   .rw [if_pos c,if_pos c];rfl
   .rw [if_neg c,if_neg c,if_neg h];exact yF d bs
def xe:∀ a b:List UInt8,Lib.compareBytes a b=-1\/Lib.compareBytes a b=0\/Lib.compareBytes a b=1
 | [],[]=>.inr (.inl rfl)
 | [],_ :: _=>.inl rfl
 | _ :: _,[]=>.inr (.inr rfl)
 | a :: c,b :: bs=>by
  unfold Lib.compareBytes
  split
  .exact .inl rfl
  .split
   .exact .inr (.inr rfl)
   .exact xe c bs
def xz:∀ a b c:List UInt8,0<=Lib.compareBytes b a->0<=Lib.compareBytes c b->0<=Lib.compareBytes c a
 | [],_,[],_,_=>by simp [Lib.compareBytes]
 | [],_,_ :: _,_,_=>by simp [Lib.compareBytes]
 | a :: g,[],_,h,_=>by simp [Lib.compareBytes] at h
 | a :: g,b :: bs,[],_,h=>by simp [Lib.compareBytes] at h
 | a :: g,b :: bs,c :: o,d,e=>by
  unfold Lib.compareBytes at d e ⊢
  by_cases f:b<a
  .rw [if_pos f] at d;omega
  .by_cases l:c<b
   .rw [if_pos l] at e;omega
   .rw [if_neg f] at d
    rw [if_neg l] at e;have n:a<=b:=UInt8.not_lt.1 f;have k:b<=c:=UInt8.not_lt.1 l;have q:¬ c<a:=UInt8.not_lt.2 (UInt8.le_trans n k);rw [if_neg q]
    by_cases m:a<c
    .rw [if_pos m];decide
    .rw [if_neg m]
     have p:a=c:=UInt8.le_antisymm (UInt8.le_trans n k) (UInt8.not_lt.1 m);subst p;have r:¬ a<b:=UInt8.not_lt.2 k;have s:¬ b<a:=f;rw [if_neg r] at d;rw [if_neg s] at e;exact xz g bs o d e
def R7:Ord Cr where
 We:=fun x y h=>by
  unfold Cr at h ⊢;have:=of_decide_eq_true h;have e:=yF x.nm y.nm;exact decide_eq_false Om0
 tr:=fun x y z a b=>by
  unfold Cr at a b ⊢;have c:=of_decide_eq_false a;have d:=of_decide_eq_false b;have:=xz x.nm y.nm z.nm Om0 Om0;exact decide_eq_false Om0
def Od {α:Type} (L:List α) (i j:Nat) (x y:α):List α:=(L.set i y).set j x
def Pz {α:Type} (S a R:List α) (x y:α):Od (S++x :: (a++y :: R)) S.length (S.length+1+a.length) x y=S++y :: (a++x :: R):=by
 unfold Od;rw [D9 _ _ (D8 _),D6,List.set_cons_zero,D9 _ _ Om0,show S.length+1+a.length-S.length=a.length+1 by omega,D7,D9 _ _ (D8 _),D6,List.set_cons_zero]
end Go.SL
namespace Go.Proofs.Fs
open RowKit SL Proofs.Ba
abbrev Vg:Z':=.func (.func 100) #[] #[]
def Jj (x y:aM):Int:=Lib.compareBytes x.nm y.nm
def RJ (x y:aM):decide (Jj x y<0)=Cr x y:=rfl
def Eg (x y:aM):-1<=Jj x y/\Jj x y<=1:=by
 unfold Jj;rcases xe x.nm y.nm with h|h|h <;> omega
def XE (x y:aM) (w:T) (e:Ending) (a:T):Prop:=e = .returned (X W (Jj x y))/\ah a (whole w)/\ak w a
def OE (x y:aM) (w:T):Calls prog 100 #[.agg #[X W (x.nd:Int),Z (str x.nm)],.agg #[X W (y.nd:Int),Z (str y.nm)]] w (XE x y w):=by
 refine aK fun Q c=>?_;have f:=ae (((ah.whole w).alloc (.cells #[X W (x.nd:Int),Z (str x.nm)] 90 (0,0))).alloc (.cells #[X W (y.nd:Int),Z (str y.nm)] 90 (0,0))).right.right;have d:=ae (((ak.refl w).alloc (.cells #[X W (x.nd:Int),Z (str x.nm)] 90 (0,0))).alloc (.cells #[X W (y.nd:Int),Z (str y.nm)] 90 (0,0)));have a:=fun w=>Tryz.strings_Compare (str x.nm) (str y.nm) w;have b:=ae a;clear a
 go_in
 go_wp2_with fail
 apply (b.o _).mono;rintro e g ⟨rfl,rfl⟩
 exact Zz (c.o _ _ ⟨rfl,f.o,d.o⟩)
def hU (v:Z') (L:List aM):ai:=sl 90 2 v L.length (bE L)
def Jg {L:List aM} {i:Nat} (c:i<L.length) (e:aM):((bE L).set (i*2) (X W (e.nd:Int))).set (i*2+1) (Z (str e.nm))=bE (L.set i e):=by
 induction L generalizing i with
 | nil=>simp at c
 | cons a L f=>
  have b:bE (a :: L) = X W (a.nd:Int) :: Z (str a.nm) :: bE L:=rfl
  cases i with
  | zero=>rw [b];rfl
  | succ i=>
   have d:(i+1)*2=i*2+1+1:=Om0
   rw [b,d,D7,D7,D7,D7];show _ = X W (a.nd:Int) :: Z (str a.nm) :: bE (L.set i e)
   rw [<- f (by simpa using c)]
section
variable {w:T} {v:Z'} {L:List aM} {F:ai} {i j:Nat}
def xq (h:ah w (hU v L*F)) (m:i<L.length) (e:aM):∃ g c,v = .slice (V ⟨g,0,Y⟩) L.length c/\w.frozen? ⟨g,i*2,Y⟩=U/\w.frozen? ⟨g,i*2+1,Y⟩=U /\
  ah ((w.setCell ⟨g,i*2,Y⟩ (X W (e.nd:Int))).setCell ⟨g,i*2+1,Y⟩ (Z (str e.nm))) (hU v (L.set i e)*F):=by
 rcases h.cH with ⟨_,o,_⟩|⟨g,b,n,rfl,d,h4,h5,f,a⟩
 .omega
 .refine ⟨g,b,rfl,a.frozen _,a.frozen _,?_⟩
  have k:=(a.setCell (i*2) (X W (e.nd:Int))).setCell (i*2+1) (Z (str e.nm));have l:=ah.nz (sz:=2) (n:=L.length) (cap:=b) k d h4 (by rw [E4,E4];exact h5);unfold hU;rw [List.length_set];refine l.to ?_;congr 2;rw [<- Jg m,<- f];simp only [Array.toList_setIfInBounds];rw [List.take_set,List.take_set]
def rD (h:ah w (hU v L*F)) (d:i<L.length) {x:aM} (f:L[i]?=V x):∃ g c,v = .slice (V ⟨g,0,Y⟩) L.length c/\w.cell? ⟨g,i*2,Y⟩=V (X W (x.nd:Int))/\w.cell? ⟨g,i*2+1,Y⟩=V (Z (str x.nm))/\L.length<=c/\(c:Int)<=9223372036854775807:=by
 obtain ⟨g,c,e,a,b,k,l⟩:=uW h d;have:L[i]=x:=by rw [List.getElem?_eq_getElem d] at f;exact Option.some.inj f
 rw [this] at a b;exact ⟨g,c,e,a,b,k,Om0⟩
def za (h:ah w (hU v L*F)) (f:i<L.length) (d:j<L.length) (C:i≠j) {x y:aM} (u:L[i]?=V x) (hy:L[j]?=V y):∃ g c,v = .slice (V ⟨g,0,Y⟩) L.length c/\L.length<=c/\(c:Int)<=9223372036854775807 /\
  (w.cell? ⟨g,i*2,Y⟩=V (X W (x.nd:Int))/\w.cell? ⟨g,i*2+1,Y⟩=V (Z (str x.nm))/\w.cell? ⟨g,j*2,Y⟩=V (X W (y.nd:Int))/\w.cell? ⟨g,j*2+1,Y⟩=V (Z (str y.nm))) /\
  (w.frozen? ⟨g,i*2,Y⟩=U/\w.frozen? ⟨g,i*2+1,Y⟩=U/\w.frozen? ⟨g,j*2,Y⟩=U/\w.frozen? ⟨g,j*2+1,Y⟩=U) /\
  ah ((((w.setCell ⟨g,i*2,Y⟩ (X W (y.nd:Int))).setCell ⟨g,i*2+1,Y⟩ (Z (str y.nm))).setCell ⟨g,j*2,Y⟩ (X W (x.nd:Int))).setCell ⟨g,j*2+1,Y⟩ (Z (str x.nm))) (hU v (Od L i j x y)*F):=by
 obtain ⟨g,c,rfl,k,l,A,B⟩:=rD h f u;obtain ⟨b,a,e,m,n,-,-⟩:=rD h d hy;simp only [Value.slice.injEq,Option.some.injEq,Addr.mk.injEq] at e;obtain ⟨⟨rfl,-⟩,-⟩:=e;obtain ⟨b,a,e,o,p,s⟩:=xq h f y;simp only [Value.slice.injEq,Option.some.injEq,Addr.mk.injEq] at e;obtain ⟨⟨rfl,-⟩,-⟩:=e;obtain ⟨b,a,e,q,r,-⟩:=xq h d y;simp only [Value.slice.injEq,Option.some.injEq,Addr.mk.injEq] at e;obtain ⟨⟨rfl,-⟩,-⟩:=e;obtain ⟨b,a,e,_,_,t⟩:=xq s (by rw [List.length_set];exact d:j<_) x;simp only [Value.slice.injEq,Option.some.injEq,Addr.mk.injEq] at e;obtain ⟨⟨rfl,-⟩,-⟩:=e;exact ⟨g,c,rfl,A,B,⟨k,l,m,n⟩,⟨o,p,q,r⟩,t⟩
end
def oF {w:T} {v:Z'} {S a:List aM} {x y:aM} {F:ai} (h:ah w (hU v (S++x :: y :: a)*F)) {N i:Nat} (n:S.length=i) (k:(S++x :: y :: a).length=N):∃ g c,v = .slice (V ⟨g,0,Y⟩) N c/\N<=c/\(c:Int)<=9223372036854775807 /\
  (w.cell? ⟨g,i*2,Y⟩=V (X W (x.nd:Int))/\w.cell? ⟨g,i*2+1,Y⟩=V (Z (str x.nm))/\w.cell? ⟨g,(i+1)*2,Y⟩=V (X W (y.nd:Int))/\w.cell? ⟨g,(i+1)*2+1,Y⟩=V (Z (str y.nm))) /\
  (w.frozen? ⟨g,i*2,Y⟩=U/\w.frozen? ⟨g,i*2+1,Y⟩=U/\w.frozen? ⟨g,(i+1)*2,Y⟩=U/\w.frozen? ⟨g,(i+1)*2+1,Y⟩=U) /\
  ah ((((w.setCell ⟨g,i*2,Y⟩ (X W (y.nd:Int))).setCell ⟨g,i*2+1,Y⟩ (Z (str y.nm))).setCell ⟨g,(i+1)*2,Y⟩ (X W (x.nd:Int))).setCell ⟨g,(i+1)*2+1,Y⟩ (Z (str x.nm))) (hU v (S++y :: x :: a)*F) /\
  ah ((((w.setCell ⟨g,(i+1)*2,Y⟩ (X W (x.nd:Int))).setCell ⟨g,(i+1)*2+1,Y⟩ (Z (str x.nm))).setCell ⟨g,i*2,Y⟩ (X W (y.nd:Int))).setCell ⟨g,i*2+1,Y⟩ (Z (str y.nm))) (hU v (S++y :: x :: a)*F):=by
 subst n k;have ex:(S++x :: y :: a)[S.length]?=V x:=by rw [E3 (D8 _),D6];rfl
 have b:(S++x :: y :: a)[S.length+1]?=V y:=by rw [E3 Om0,show S.length+1-S.length=1 by omega];rfl
 obtain ⟨g,c,rfl,o,p,l,m,d⟩:=za h Si0 Si0 Om0 ex b;obtain ⟨r,q,e,_,_,_,_,f⟩:=za h (i:=S.length+1) (j:=S.length) Si0 Si0 Om0 b ex;simp only [Value.slice.injEq,Option.some.injEq,Addr.mk.injEq] at e;obtain ⟨⟨rfl,-⟩,-⟩:=e;refine ⟨g,c,rfl,o,p,l,m,?_,?_⟩
 .have e:=Pz S [] a x y
  rw [D3,Nat.add_zero,D2,D2] at e;rw [e] at d;exact d
 .have e:Od (S++x :: y :: a) (S.length+1) S.length y x=S++y :: x :: a:=by
   unfold Od;rw [D9 _ _ Om0,show S.length+1-S.length=1 by omega,D9 _ _ (D8 _),D6];rfl
  rw [e] at f;exact f
def YH (v:Z') (d c e:List aM) (a b N:Nat) (w0:T) (F:ai) (u8:Z') (wr:T):Prop:=
 ∃ (S R:List aM),u8 = X W ((a+S.length:Nat):Int)/\1<=S.length/\a+S.length+R.length=b/\(S++R).Perm c/\kP Cr S/\ak w0 wr/\ah wr (hU v (d++(S++(R++e)))*F)
def Yo (v:Z') (c S d:List aM) (x:aM) (a:Nat) (w0:T) (F:ai) (u9:Z') (wr:T):Prop:=
 ∃ (P Q:List aM),u9 = X W ((a+P.length:Nat):Int)/\P++Q=S/\(∀ y b,Q=y :: b->Cr x y=true)/\ak w0 wr/\ah wr (hU v (c++(P++x :: (Q++d)))*F)
def zX (v:Z') (c b d:List aM) (F:ai) (w:T) (e:Ending) (w':T):Prop:=
 ∃ a:List aM,e = .returned (.tuple #[])/\a.Perm b/\kP Cr a/\ak w w'/\ah w' (hU v (c++(a++d))*F)
def Eo (v:Z') (l t m:List aM) (a b:Nat) (ha:l.length=a) (hb:a+t.length=b) (w:T) (F:ai) (hl:(l++(t++m)).length<=4000) (h:ah w (hU v (l++(t++m))*F)) :
  Calls prog 250 #[v,X W (a:Int),X W (b:Int),Vg] w (zX v l t m F w):=by
 refine aK fun Q' HQ=>?_;obtain ⟨va,vc,rfl⟩:=az h;obtain ⟨N,hN⟩:=Nm ((l++(t++m)).length)
 rw [hN] at hl h HQ ⊢;have s0:a+t.length+m.length=N:=by rw [<- hN,A1,A1,ha];omega
 have Y0:(N:Int)<=4000:=Om0
 have d1:(b:Int)<=(N:Int):=Om0
 have a1:(a:Int)<=(b:Int):=Om0
 have d0:=ae h;have Ha:=ae ha;have Hb:=ae hb;have N0:=ae s0;have HN:=ae hN;clear h ha hb s0 hN
 cases t with
 | nil=>
  have T0:b=a:=by rw [<- Hb.o];rfl
  subst T0
  go_in
  go_wp2_with fail
  refine wp_loop_rounds 1 ?_;rw [rounds_succ]
  exact Zy (HQ.o _ _ ⟨[],rfl,E2 _,kP.nil,ak.refl w,d0.o⟩)
 | cons x0 R0=>
  go_in
  go_wp2_with fail
  go_loopw [8] (fun u8 wr=>YH (.slice va N vc) l (x0 :: R0) m a b N w F u8 wr) (fun u8 _=>b-(intOf u8).toNat)
  case atStart=>exact ⟨[x0],R0,Si0,D8 _,by have:=Hb.o;simp at this ⊢;omega,E2 _,kP.one _,ak.refl w,d0.o⟩
  case round=>
   obtain ⟨S,S0,rfl,Z0,k0,hP,hS,H0,c0⟩:=hrel;clear d0;obtain ⟨i,O⟩:=Nm (a+S.length)
   rw [O] at k0 ⊢;have HP:=ae hP;have HS:=ae hS;clear hP hS
   cases S0 with
   | nil=>
    have G0:i=b:=by simpa using k0
    subst G0;have H2:=ae c0;clear c0 O
    go_wp2_with fail
    go_end0
    exact HQ.o _ _ ⟨S,rfl,by have:=HP.o;rwa [D1] at this,HS.o,H0,by simpa using H2.o⟩
   | cons x o=>
    rw [B3] at k0;have G0:(i:Int)<(b:Int):=Om0
    have K0:Yo (.slice va N vc) l S (o++m) x a w F (X W (i:Int)) wr:=⟨S,[],by rw [O],D1 S,fun y D h=>(by cases h),H0,c0⟩
    have r0:=ae K0;have s:=ae O;clear c0 K0 O
    go_wp2_with fail
    go_loopw [9] (fun u9 wr=>Yo (.slice va N vc) l S (o++m) x a w F u9 wr) (fun u9 _=>(intOf u9).toNat)
    case atStart=>exact r0.o
    case round=>
     clear r0;obtain ⟨h0,Q,rfl,M,hQ,p0,B⟩:=hrel;obtain ⟨j,A⟩:=Nm (a+h0.length)
     rw [A]
     have C:(l++(h0++x :: (Q++(o++m)))).length=N:=by
      have d:=N0.o;have K:=Hb.o;have h3:=s.o;rw [<- M,A1] at h3;rw [B3] at d K;simp only [A1,B3,Ha.o];omega
     have g1:j<N:=by rw [<- C];simp only [A1,B3,Ha.o];omega
     have h1:a<=j:=Om0
     rcases E5 h0 with rfl|⟨n,z,rfl⟩
     .obtain rfl:a=j:=by simpa using A
      rw [D2] at M B;subst M;have H2:=ae B;have f0:=ae hQ;clear B A C hQ;have i1:¬ ((a:Int)<(a:Int)):=Om0
      go_wp2_with fail
      go_quiet (fail)
      go_wp2_with fail
      go_roundw
      case rel=>exact ⟨x :: Q,o,by simp;have:=s.o;omega,Si0,by rw [B3];have:=s.o;omega,(List.perm_middle.symm.trans HP.o),kP.insert R7 (A:=[]) HS.o (fun A' z h=>absurd h Si0) (fun y D h=>R7.We _ _ (f0.o y D h)),p0.drewN nq,by have u:=ah.of_heap (w':=wr.drewN nq) H2.o rfl;simpa using u⟩
      case measure=>have:=s.o;simp [intOf];omega
     .rw [D4] at *
      obtain ⟨k,hk⟩:=Nm ((l++n).length)
      have n0:k+1=j:=by rw [<- hk,<- A];simp only [A1,E1,Ha.o];omega
      have e0:l++(n++[z]++x :: (Q++(o++m)))=(l++n)++z :: x :: (Q++(o++m)):=Si0
      rw [e0] at B C;obtain ⟨g,c,e,k1,k2,⟨c1,c2,H,I⟩,-,-,-⟩:=oF B hk C;simp only [Value.slice.injEq] at e;obtain ⟨rfl,-,rfl⟩:=e;rw [n0] at H I;have D0:=OE x z;have l0:=RJ x z;have V0:=Eg x z;obtain ⟨cz,m0⟩:=Nm (Jj x z)
      have F0:∀ w,Calls prog 100 #[.agg #[X W (x.nd:Int),Z (str x.nm)],.agg #[X W (z.nd:Int),Z (str z.nm)]] w (fun e f=>e = .returned (X W cz)/\ah f (whole w)/\ak w f):=fun w=>by
       apply (D0 w).mono;rintro e f ⟨rfl,d,K⟩;exact ⟨by rw [m0],d,K⟩
      rw [m0] at l0 V0;have R:=ae F0;have b0:=ae B;have Hk:=ae hk;have f0:=ae hQ;have E:=ae M;have g0:=ae C;have G:=ae n0;have Hj:=ae A;have t1:(a:Int)<(j:Int):=by have:=A;simp only [A1,E1] at this;omega
      have t2:(j:Int)<(N:Int):=Om0
      have t3:(k:Int)<(N:Int):=Om0
      have t4:(N:Int)<=(vc:Int):=Om0
      have t5:IntKind.i64.wrap ((j:Int)-1)=(k:Int):=by rw [IntKind.wrap_i64];omega
      have u0:=ae l0;have e1:decide ((a:Int)<(j:Int))=true:=by simpa using t1
      clear D0 F0 m0 B hk hQ M C n0 A k1 e0 l0
      by_cases hz:cz<0
      .have o0:Hid (Cr x z=true):=by show _=_;rw [<- u0.o];exact decide_eq_true hz
       have W0:decide (cz<0)=true:=decide_eq_true hz
       go_wp2_with fail
       go_region_held3 (fun f=>f.cell? ⟨g,k*2,Y⟩=V (X W (z.nd:Int))/\f.cell? ⟨g,k*2+1,Y⟩=V (Z (str z.nm))/\f.cell? ⟨g,j*2,Y⟩=V (X W (x.nd:Int))/\f.cell? ⟨g,j*2+1,Y⟩=V (Z (str x.nm))) (first|exact ⟨c1,c2,H,I⟩|exact P|go_keep)
        (first|(go_at_call 100;apply (R.o wr.drew).mono;rintro e p ⟨rfl,h5,J⟩;have r:=h5.cU (ah.drew b0.o);obtain ⟨g',c',q,-,-,q0,-,-,-⟩:=oF r Hk.o g0.o;have P:p.cell? ⟨g,k*2,Y⟩=V (X W (z.nd:Int))/\p.cell? ⟨g,k*2+1,Y⟩=V (Z (str z.nm))/\p.cell? ⟨g,j*2,Y⟩=V (X W (x.nd:Int))/\p.cell? ⟨g,j*2+1,Y⟩=V (Z (str x.nm)):=by simp only [Value.slice.injEq,Option.some.injEq,Addr.mk.injEq] at q;obtain ⟨⟨rfl,-⟩,-⟩:=q;rwa [G.o] at q0))
       rename_i i0;have D5:=ae (p0.drew.trans J);obtain ⟨g',c',q,-,-,⟨b1,b2,b3,b4⟩,⟨f1,f2,f3,f4⟩,h7,h8⟩:=oF r Hk.o g0.o;simp only [Value.slice.injEq,Option.some.injEq,Addr.mk.injEq] at q;obtain ⟨⟨rfl,-⟩,-⟩:=q;rw [G.o] at b3 b4 f3 f4 h7 h8;have H7:=ae h7;have H8:=ae h8;have t6:IntKind.i64.wrap (k:Int)=(k:Int):=by rw [IntKind.wrap_i64];omega
       have t7:(j:Int)-1=(k:Int):=by have:=G.o;omega
       clear h7 h8 r h5 J P i0 R b0 c1 c2 H I
       go_wp2_with fail
       go_region_law (fail)
       all_goals
        go_wp2
        go_roundw
        case rel=>exact ⟨n,z :: Q,by have:=Hk.o;rw [A1,Ha.o] at this;rw [this],by rw [<- E.o];simp,fun y D h=>by
          simp only [List.cons.injEq] at h;rw [<- h.1];exact o0.o,((((D5.o.setCell _ _).setCell _ _).setCell _ _).setCell _ _).drew,by
          first
           | (have u:=H8.o.drew;simpa using u)
           | (have u:=H7.o.drew;simpa using u)⟩
        case measure=>have:=G.o;simp [intOf];omega
      .have o0:Hid (Cr x z=U):=by show _=_;rw [<- u0.o];exact decide_eq_false hz
       have W0:decide (cz<0)=U:=decide_eq_false hz
       go_wp2_with fail
       go_region_held3 (fun f=>f.cell? ⟨g,k*2,Y⟩=V (X W (z.nd:Int))/\f.cell? ⟨g,k*2+1,Y⟩=V (Z (str z.nm))/\f.cell? ⟨g,j*2,Y⟩=V (X W (x.nd:Int))/\f.cell? ⟨g,j*2+1,Y⟩=V (Z (str x.nm))) (first|exact ⟨c1,c2,H,I⟩|exact P|go_keep)
        (first|(go_at_call 100;apply (R.o wr.drew).mono;rintro e p ⟨rfl,h5,J⟩;have r:=h5.cU (ah.drew b0.o);obtain ⟨g',c',q,-,-,q0,-,-,-⟩:=oF r Hk.o g0.o;have P:p.cell? ⟨g,k*2,Y⟩=V (X W (z.nd:Int))/\p.cell? ⟨g,k*2+1,Y⟩=V (Z (str z.nm))/\p.cell? ⟨g,j*2,Y⟩=V (X W (x.nd:Int))/\p.cell? ⟨g,j*2+1,Y⟩=V (Z (str x.nm)):=by simp only [Value.slice.injEq,Option.some.injEq,Addr.mk.injEq] at q;obtain ⟨⟨rfl,-⟩,-⟩:=q;rwa [G.o] at q0))
       rename_i i0;have D5:=ae (p0.drew.trans J);have L0:=ae r;clear r h5 J P i0 R b0 c1 c2 H I
       go_wp2_with fail
       go_roundw
       case rel=>exact ⟨(n++[z])++x :: Q,o,by
         have K:a+((n++[z])++x :: Q).length=i+1:=by
          have d:=s.o;rw [<- E.o] at d;simp only [A1,B3,D3] at d ⊢;omega
         rw [K];simp,by simp only [A1,B3];omega,by
         have d:=s.o;rw [<- E.o] at d;simp only [A1,B3,D3] at d ⊢;omega,by
         have d:=HP.o;rw [<- E.o] at d;refine (List.Perm.trans ?_ d);have e9:((n++[z])++x :: Q)++o=(n++[z])++(x :: (Q++o)):=Si0
         rw [e9,List.append_assoc (n++[z]) Q];exact List.Perm.append_left _ List.perm_middle.symm,by
         have d:=HS.o;rw [<- E.o] at d
         exact kP.insert R7 d (fun A' y h=>by
          have:=List.append_inj_right' h rfl;simp only [List.cons.injEq] at this;rw [<- this.1];exact o0.o) (fun y D h=>R7.We _ _ (f0.o y D h)),D5.o,by have u:=L0.o;simpa using u⟩
       case measure=>have:=s.o;simp [intOf];omega
def CZ {w:T} {v:Z'} {L:List aM} {F:ai} {x y:aM} {i j N:Nat} (h:ah w (hU v L*F)) (k:L.length=N) (l:i<N) (m:j<N) (n:L[i]?=V x) (hy:L[j]?=V y):∃ g c,v = .slice (V ⟨g,0,Y⟩) N c/\N<=c/\(c:Int)<=9223372036854775807 /\
  (w.cell? ⟨g,i*2,Y⟩=V (X W (x.nd:Int))/\w.cell? ⟨g,i*2+1,Y⟩=V (Z (str x.nm))/\w.cell? ⟨g,j*2,Y⟩=V (X W (y.nd:Int))/\w.cell? ⟨g,j*2+1,Y⟩=V (Z (str y.nm))):=by
 subst k;obtain ⟨g,c,rfl,a,b,o,p⟩:=rD h l n;obtain ⟨r,q,e,d,f,-,-⟩:=rD h m hy;simp only [Value.slice.injEq,Option.some.injEq,Addr.mk.injEq] at e;obtain ⟨⟨rfl,-⟩,-⟩:=e;exact ⟨g,c,rfl,o,p,a,b,d,f⟩
def DJ:Nat:=19
def Wd (v:Z') (c:List aM) (F:ai) (w:T) (e:Ending) (b:T):Prop:=
 ∃ a:List aM,e = .returned (.tuple #[])/\a.Perm c/\kP Cr a/\ak w b/\ah b (hU v a*F)
def EI (v:Z') (a:List aM) (w:T) (F:ai) (s:a.length<=19) (h:ah w (hU v a*F)) (N:Nat) (f:a.length=N) :
  Calls prog 178 #[v,X W (N:Int),Vg] w (Wd v a F w):=by
 refine aK fun t c=>?_;obtain ⟨B,C,rfl⟩:=az h;have b:=Eo _ [] a [] 0 N rfl Om0 w F (by simp;omega) (by rw [D1];exact h);rw [f] at s c b ⊢;have u:¬ (20:Int)<=(N:Int):=Om0
 have A:¬ (20:Int)<(N:Int):=Om0
 have d:=ae b;clear h f b
 go_in
 go_wp2_with fail
 refine wp_loop_rounds 1 ?_;rw [rounds_succ]
 go_wp2_with fail
 apply d.o.mono;rintro r D ⟨o,rfl,g,k,p,e⟩;have l:=ae e;have m:=ae g;have n:=ae k;clear e g k d
 go_wp2_with fail
 refine wp_loop_rounds 1 ?_;rw [rounds_succ]
 go_wp2_with fail
 go_end0
 exact c.o _ _ ⟨o,rfl,m.o,n.o,p,by have q:=l.o;simpa using q⟩
def vO (v:Z') (a:List aM) (w:T) (F:ai) (o:a.length<=DJ) (h:ah w (hU v a*F)) :
  Calls prog 99 #[v,Vg] w (Wd v a F w):=by
 refine aK fun p g=>?_;have c:=ae (EI v a w F (Nat.le_trans o De0) h _ rfl);obtain ⟨q,s,rfl⟩:=az h;clear h;generalize a.length=N at *
 go_in
 go_wp2_with fail
 apply c.o.mono;rintro r t ⟨m,rfl,d,e,n,b⟩;have f:=ae b;have k:=ae d;have l:=ae e;clear b d e c
 exact Zy (g.o _ _ ⟨m,rfl,k.o,l.o,n,f.o⟩)
end Go.Proofs.Fs

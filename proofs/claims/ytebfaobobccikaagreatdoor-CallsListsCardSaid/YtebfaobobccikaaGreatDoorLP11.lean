/- Steps. -/
import Derived.Test.YtebfaobobccikaaGreatDoorLP10
import Derived.BigQuiet
set_option linter.all false
set_option maxRecDepth 99999
set_option maxHeartbeats 0
open Go.SL
open Go.Value renaming int->Y,slice->U,pointer->O
open Go.Obj renaming cells->X
open Go renaming World->R,Value->Z'
open Go.Proofs.Tryz renaming prog->Q
open Option renaming some->V,none->W
open Go.Proofs.Tryz
open Prod renaming fst->W1
open List renaming filterMap_nil->X1,filterMap_cons->Y1,getElem?_eq_getElem->Z1,map_append->A2,length_cons->B2,foldl_cons->H2,filterMap_append->K2
open Nat renaming le_trans->D2
open Int renaming toNat_natCast->J2
namespace Go.SL
open RowKit
abbrev Wr:=Int × Z' × List UInt8
def Wr.nil:Wr:=(0,U W 0 0,[])
def Ur (w:R) (v:Z') (Z:List Wr):Prop:=
 (v = U W 0 0/\Z=[])\/∃ g o c,v = U (V ⟨g,o,W⟩) Z.length c/\Z.length<=c/\c<=maxLen /\
  ∀ k,k<Z.length->w.cell? ⟨g,o+k*2,W⟩=V (Y .i64 (Z.getD k Wr.nil).1)/\w.cell? ⟨g,o+k*2+1,W⟩=V (Z.getD k Wr.nil).2.1
def fu (Z:List Wr):Nat->KV
 | 0=>[]
 | k+1=>fu Z k++[((Z.getD k Wr.nil).1,Y .i64 (k:Int))]
def okW (n:Int) (Z:List Wr) (k:Nat):Prop:=
 0<=(Z.getD k Wr.nil).1/\(Z.getD k Wr.nil).1<n/\(Z.getD k Wr.nil).2.2.length=480/\(Z.getD k Wr.nil).1 ∉ (Z.take k).map W1
structure GA (n:Int) (Z:List Wr):Prop where
 n0:1<=Z.length
 n1:Z.length<=24
 ok:∀ k,k<Z.length->okW n Z k
theorem Gp (Z:List Wr) (k:Nat) (c:k<=Z.length):(fu Z k).map W1=(Z.take k).map W1:=by
 induction k with
 | zero=>simp [fu]
 | succ k b=>
  have a:Z.take (k+1)=Z.take k++[Z.getD k Wr.nil]:=by
   rw [List.take_add_one,List.getD,Z1 (by omega)];rfl
  rw [a,fu,A2,A2,b (by omega)];rfl
theorem yx {Z:List Wr} {k:Nat} (a:k<=Z.length) (v:Int):(aP (fu Z k) v).isSome=decide (v ∈ (Z.take k).map W1):=by
 rw [Bool.eq_iff_iff,decide_eq_true_iff,<- Gp Z k a]
 cases h:aP (fu Z k) v with
 | none=>
  have:=gn.1 h;simp only [Option.isSome_none,Bool.false_eq_true,this]
 | some x=>
  have b:v ∈ (fu Z k).map W1:=Classical.byContradiction fun q=>by rw [gn.2 q] at h;cases h
  simp only [Option.isSome_some,b]
end Go.SL
namespace Go.Proofs.Nn
open RowKit SL
theorem mn {a b:R} (h:aj a b) (n:Nat):aj a (b.drewN n):=h.trans ⟨rfl,rfl,rfl,Nat.le_refl _⟩
def Ov (w:R) (e:Ending) (a:R):Prop:=e = .returned (.tuple #[.map W,.bool false])/\ag a (whole w)/\aj w a
def LM (Z:List Wr) (w:R) (e:Ending) (a:R):Prop:=∃ m,e = .returned (.tuple #[.map (V m),.bool true])/\ag a (mp m (fu Z Z.length)*whole w)/\aj w a
def RS (B:Bool) (Z:List Wr) (w:R) (e:Ending) (a:R):Prop:=if B then LM Z w e a else Ov w e a
def Me (n:Int) (Z:List Wr) (a m:Nat) (w:R) (u:Z') (wr:R):Prop:=
 ∃ k:Nat,k<=a/\u = Y .i64 (k:Int)/\(∀ i,i<k->okW n Z i)/\ag wr (mp m (fu Z k)*whole w)/\aj w wr
theorem C9 (w:R) (j u0:Nat) (J:Jr) (F:ai) (h:ag w (pH j u0 J*F)) (v:Z') (Z:List Wr) (hv:Ur w v Z) (hs:∀ z ∈ Z,∃ s0 c,z.2.1 = U s0 z.2.2.length c) (hl:Z.length<=1000000) (B:Bool) (P:B=true↔GA J.n Z) :
  Calls Q 130 #[az j,v] w (RS B Z w):=by
 obtain ⟨X0,Y0,hx⟩:=h.sr;have c3:w.cell? ⟨j,3,W⟩=V (Y .i64 J.n):=hx.cell 3;clear h hx;have HB:=ae P;have no:Hid (¬ GA J.n Z->B=false):=fun h=>Bool.eq_false_iff.2 fun hb=>h (P.1 hb);clear P;obtain ⟨n,u⟩:∃ n,n=Z.length:=⟨_,rfl⟩
 obtain ⟨L,ac,x0⟩:∃ L ac,v = U L n ac:=by
  rcases hv with ⟨rfl,h⟩|⟨g,o,c,rfl,_⟩
  .rw [u,h];exact ⟨_,_,rfl⟩
  .rw [u];exact ⟨_,_,rfl⟩
 subst x0;rw [<- u] at hl;have l:=ae u;have Hv:=ae hv;have Hs:=ae hs;clear u hv hs;have S0:(n:Int)<=1000000:=by omega
 by_cases h9:n<1
 .have e:=no.out fun h=>by have:=h.n0;have:=l.out;omega
  subst e;obtain rfl:n=0:=by omega
  go_enter func130,ntmps130
  go_wp2
  go_ret2
  exact ⟨rfl,ag.whole w,aj.refl w⟩
 have K0:¬ (n:Int)<1:=by omega
 by_cases H0:24<(n:Int)
 .have e:=no.out fun h=>by have:=h.n1;have:=l.out;omega
  subst e
  go_enter func130,ntmps130
  go_wp2
  go_ret2
  exact ⟨rfl,ag.whole w,aj.refl w⟩
 have G0:=@iO Q _ _ _ underlying177;have H:=((ag.whole w).alloc (.map #[] 0)).tD isMap_empty;have g0:=(aj.refl w).alloc (.map #[] 0)
 go_enter func130,ntmps130
 go_wp2
 generalize w.alloc (.map #[] 0)=w2 at H g0 ⊢;generalize w.heap.size=i0 at H ⊢;clear G0
 go_loopw [24] (fun j0 wr=>Me J.n Z n i0 w j0 wr) (fun j0 _=>n-(intOf j0).toNat)
 case atStart=>exact ⟨0,Nat.zero_le _,rfl,fun i hi=>absurd hi (Nat.not_lt_zero i),H,g0⟩
 case round=>
  clear H g0;obtain ⟨k,hk,rfl,f0,y,o0⟩:=hrel
  by_cases F0:k<n
  .have V0:(k:Int)<(n:Int):=by omega
   obtain ⟨g,o,rfl,T⟩:∃ g o,L=V ⟨g,o,W⟩/\(wr.cell? ⟨g,o+k*2,W⟩=V (Y .i64 (Z.getD k Wr.nil).1)/\wr.cell? ⟨g,o+k*2+1,W⟩=V (Z.getD k Wr.nil).2.1):=by
    have u:=l.out;rcases Hv.out with ⟨h,h0⟩|⟨g,o,c,h,_,_,hc⟩
    .rw [h0] at u;simp at u;omega
    .injection h with e1 e2 e3
     exact ⟨g,o,e1,y.cF (hc k (by omega)).1,y.cF (hc k (by omega)).2⟩
   obtain ⟨p,r,c0⟩:=Hs.out (Z.getD k Wr.nil) (by rw [List.getD,Z1 (by have:=l.out;omega)];exact List.getElem_mem _);have k3:wr.cell? ⟨j,3,W⟩=V (Y .i64 J.n):=y.cF c3;have d:=yx (Z:=Z) (k:=k) (by have:=l.out;omega) (Z.getD k Wr.nil).1;have K:fu Z (k+1)=fu Z k++[((Z.getD k Wr.nil).1,Y .i64 (k:Int))]:=rfl;have I:okW J.n Z k↔(0<=(Z.getD k Wr.nil).1/\(Z.getD k Wr.nil).1<J.n/\(Z.getD k Wr.nil).2.2.length=480/\(Z.getD k Wr.nil).1 ∉ (Z.take k).map W1):=Iff.rfl;have k0:¬ okW J.n Z k->¬ GA J.n Z:=fun q h=>q (h.ok k (by have:=l.out;omega))
   have m0:okW J.n Z k->∀ i,i<k+1->okW J.n Z i:=fun q i hi=>by
    rcases Nat.lt_or_eq_of_le (Nat.lt_succ_iff.1 hi) with h|h
    .exact f0 i h
    .rw [h];exact q
   generalize Z.getD k Wr.nil=z at T K I c0 d;obtain ⟨a,dv,f⟩:=z;simp only at T K I c0 d;subst c0;obtain ⟨L0,D0⟩:=T;have b:=y.alloc (X #[Y .i64 a,U p f.length r] 188 (0,0));have m:=o0.alloc (X #[Y .i64 a,U p f.length r] 188 (0,0));have a0:(wr.alloc (X #[Y .i64 a,U p f.length r] 188 (0,0))).cell? ⟨wr.heap.size,0,W⟩=V (Y .i64 a):=b.cell 0;have A:(wr.alloc (X #[Y .i64 a,U p f.length r] 188 (0,0))).cell? ⟨wr.heap.size,1,W⟩=V (U p f.length r):=b.cell 1;have a3:(wr.alloc (X #[Y .i64 a,U p f.length r] 188 (0,0))).cell? ⟨j,3,W⟩=V (Y .i64 J.n):=bN _ _ _ _ k3;have r0:=ae K;have E:=ae I;have G:=ae k0;have p0:=ae m0;have t:=0;clear K I k0 m0 y
   by_cases N0:a<0
   .have e:=no.out (G.out fun q=>by have:=E.out.1 q;omega)
    subst e;clear t d
    go_wp2_with fail
    generalize wr.alloc (X #[Y .i64 a,U p f.length r] 188 (0,0))=C at b m a0 A a3 ⊢
    go_quiet (fail)
    go_wp2
    go_ret2
    exact ⟨rfl,b.right.right.drew,mn m _⟩
   by_cases R0:J.n<=a
   .have e:=no.out (G.out fun q=>by have:=E.out.1 q;omega)
    subst e;clear t d
    go_wp2_with fail
    generalize wr.alloc (X #[Y .i64 a,U p f.length r] 188 (0,0))=C at b m a0 A a3 ⊢
    go_quiet (fail)
    go_wp2
    go_ret2
    exact ⟨rfl,b.right.right.drew,mn m _⟩
   by_cases e0:f.length=480
   .rw [e0] at D0 b m a0 A a3
    have q0:Hid (a ∉ (Z.take k).map W1->okW J.n Z k):=fun s=>E.out.2 ⟨by omega,by omega,e0,s⟩;clear e0;have l0:=fun w' h'=>ag.lookup (P:=Q) underlying177 underlying3 (z:=Y .i64 0) (by kernel_rfl) (w:=w') (F:=whole w) (b:=i0) (M:=fu Z k) h' a true;clear t
    go_wp2_with fail
    generalize wr.alloc (X #[Y .i64 a,U p 480 r] 188 (0,0))=C at b m a0 A a3 ⊢
    go_quiet (fail)
    have hX:ag (C.drewN nq) _:=b;have M:=mn m nq;have b0:(C.drewN nq).cell? ⟨wr.heap.size,0,W⟩=V (Y .i64 a):=a0;generalize C.drewN nq=wB at hX M b0 ⊢;have S:=hX.right;have t:=l0 wB S;clear l0 b m a0 A a3
    by_cases s:a ∈ (Z.take k).map W1
    .have e:=no.out (G.out fun q=>(E.out.1 q).2.2.2 s)
     subst e;rw [d,decide_eq_true s,if_pos True.intro] at t;generalize (aP (fu Z k) a).getD (Y .i64 0)=vv at t;clear d s
     go_wp2
     go_ret2
     exact ⟨rfl,S.right,M⟩
    .have d0:aP (fu Z k) a=W:=by
      rw [decide_eq_false s] at d
      cases h:aP (fu Z k) a with
      | none=>rfl
      | some x=>rw [h] at d;cases d
     rw [d,decide_eq_false s,if_pos True.intro,d0,Option.getD_none] at t;obtain ⟨w6,W0,N,d6,ce⟩:=ag.mapUpdate (P:=Q) underlying177 underlying3 S a (Y .i64 (k:Int));have e6:SL.fw (fu Z k) a (Y .i64 (k:Int))=fu Z k++[(a,Y .i64 (k:Int))]:=by unfold SL.fw;rw [d0];rfl
     rw [e6,<- r0.out] at N;have D6:=M.trans d6;have H6:=ae N;have Hx:=ae (p0.out (q0.out s));clear d d0 ce e6 N s
     go_wp2
     go_roundw
     case rel=>exact ⟨k+1,by omega,by go_num,Hx.out,H6.out,D6⟩
     case measure=>simp [intOf];omega
   .have T0:((f.length:Int) != 480)=true:=by simp;omega
    have e:=no.out (G.out fun q=>by have:=E.out.1 q;omega);subst e;clear t d
    go_wp2_with fail
    generalize wr.alloc (X #[Y .i64 a,U p f.length r] 188 (0,0))=C at b m a0 A a3 ⊢
    go_quiet (fail)
    go_wp2
    go_ret2
    exact ⟨rfl,b.right.right.drew,mn m _⟩
  .obtain rfl:k=n:=by omega
   have e:=HB.out.2 ⟨by have:=l.out;omega,by have:=l.out;omega,by rw [<- l.out];exact f0⟩;subst e;rw [l.out] at y;have H4:=ae y;clear f0 y F0
   go_wp2
   go_ret2
   exact ⟨i0,rfl,H4.out,o0⟩
end Go.Proofs.Nn
namespace Go.SL
open RowKit
structure aC.jy (D D':aC) (n:Nat):Prop where
 sec:D'.sec.length=D.sec.length
 wait:∀ x ∈ D'.wait,D.has x.1
 many:D'.wait.length<=D.wait.length+n
 bB:D'.bB.length<=4611686018427387904
theorem aC.Ok.keeps {D:aC} (h:D.Ok):D.jy D 0:=⟨rfl,h.wait,by omega,h.bB⟩
theorem aC.jy.ok {D D':aC} {n:Nat} (k:D.jy D' n) (h:D.Ok) (b:D.wait.length+n<=1000000):D'.Ok:=
 ⟨by rw [k.sec];exact h.n,fun x a=>by unfold aC.has;rw [k.sec];exact k.wait x a,by have:=k.many;omega,k.bB⟩
theorem aC.jy.trans {D a b:aC} {n m:Nat} (h:D.jy a n) (g:a.jy b m):D.jy b (n+m):=
 ⟨g.sec.trans h.sec,fun x c=>by have:=g.wait x c;unfold aC.has at this ⊢;rw [<- h.sec];exact this,by have:=h.many;have:=g.many;omega,g.bB⟩
theorem aC.lo (D:aC) (x:Int × List UInt8):(D.done x).sec.length=D.sec.length/\(D.done x).wait=D.wait/\(D.done x).bB=D.bB:=by simp [aC.done]
theorem aC.LO (D:aC) (f:Int) (x:Int × List UInt8):(D.rY f x).sec.length=D.sec.length:=by
 unfold aC.rY
 split
 .exact (D.lo x).1
 .split <;> rfl
theorem aC.I3 (D:aC) (bB:List Int) (k:Nat):(D.ez bB k).sec.length=D.sec.length:=by
 induction k with
 | zero=>rfl
 | succ k a=>
  rw [aC.ez]
  split
  .rw [aC.LO];exact a
  .exact a
theorem aC.y9 {D:aC} (h:D.Ok):D.jy D.de 0:=by
 unfold aC.de
 split
 .exact ⟨by simp only [aC.fP];exact aC.I3 _ _ _,by simp [aC.fP],by simp [aC.fP],by simp [aC.fP]⟩
 .exact h.keeps
theorem aC.nk {D:aC} (h:D.Ok):D.jy D.begun 0:=by
 have a:=aC.y9 h;unfold aC.begun
 split
 .exact a
 .split
  .exact ⟨a.sec,a.wait,a.many,a.bB⟩
  .exact a
theorem aC.BQ {D:aC} (h:D.Ok) (a:Int) (l:List UInt8):D.jy (D.write a l).2 1:=by
 have b:=aC.nk h;unfold aC.write
 split
 .rename_i d
  split
  .refine ⟨b.sec,fun x c=>?_,by simp only [List.length_append,B2,List.length_nil];have:=b.many;omega,b.bB⟩
   rcases List.mem_append.1 c with c|c
   .exact b.wait x c
   .rw [List.mem_singleton.1 c];exact d.1
  .exact ⟨b.sec,b.wait,D2 b.many (Nat.le_succ _),b.bB⟩
 .exact ⟨rfl,h.wait,Nat.le_succ _,h.bB⟩
theorem aC.CU {D:aC} (h:D.Ok) (a:Int):D.jy (D.read a).2 0:=by
 have b:=aC.nk h;unfold aC.read
 split
 .split
  .exact ⟨b.sec,b.wait,b.many,b.bB⟩
  .exact b
 .exact h.keeps
theorem aC.tl (D:aC) (l:List (Int × List UInt8)):(D.bU l).sec.length=D.sec.length/\(D.bU l).bB=D.bB:=by
 unfold aC.bU
 induction l generalizing D with
 | nil=>exact ⟨rfl,rfl⟩
 | cons x l a=>rw [H2,(a _).1,(a _).2];exact ⟨(D.lo x).1,(D.lo x).2.2⟩
theorem aC.ig {D:aC} (h:D.Ok):D.jy D.flush.2 0:=by
 have a:=aC.nk h;unfold aC.flush
 split
 .unfold aC.aI
  have b:=aC.tl ({ D.begun with cf:=cD (D.begun.cf+1) }:aC) D.begun.wait;exact ⟨b.1.trans a.sec,by simp,by simp,by simp only [b.2];exact a.bB⟩
 .exact a
def Jr.tag (J:Jr) (i n:Nat) (id:Int):Tg:=⟨J.ep,J.st,J.sq+1,J.sq,i,n,id⟩
def Jr.bM (J:Jr) (D:aC) (Z:List Wr):Nat->Int × aC
  | 0=>(0,D)
  | k+1=>if (Jr.bM J D Z k).1=0 then
      (let a:=(Jr.bM J D Z k).2.write ((J.hd+(k:Int))%(J.P:Int)+1) (enc (J.tag k Z.length (Z.getD k Wr.nil).1)++(Z.getD k Wr.nil).2.2)
       (if a.1=0 then 0 else 2,a.2))
    else Jr.bM J D Z k
theorem Jr.qI (J:Jr) {D:aC} (h:D.Ok) (Z:List Wr) (k:Nat) (b:D.wait.length+k<=1000000):D.jy (J.bM D Z k).2 k:=by
 induction k with
 | zero=>exact h.keeps
 | succ k a=>
  have a:=a (by omega);rw [Jr.bM]
  split
  .exact a.trans (aC.BQ (a.ok h (by omega)) _ _)
  .exact ⟨a.sec,a.wait,by have:=a.many;omega,a.bB⟩
theorem Jr.Bj (J:Jr) (D:aC) (Z:List Wr) (k n:Nat) (a:k<=n) (h:(J.bM D Z k).1≠0):J.bM D Z n=J.bM D Z k:=by
 obtain ⟨m,rfl⟩:=Nat.le.dest a;clear a
 induction m with
 | zero=>rfl
 | succ m b=>
  rw [show k+(m+1)=(k+m)+1 by omega,Jr.bM,if_neg (by rw [b];exact h),b]
structure Jr.tW (J:Jr):Prop where
 Us:1<=J.ep
 Ut:J.ep<4294967296
 Sg:1<=J.st
 aR:J.st<=J.sq+1
 Sl:0<=J.sq
 UH:J.sq<281474976710655
theorem Jr.JR {J:Jr} (h:J.tW) {i n:Nat} {id:Int} (l:i<n) (m:n<=72) (g:0<=id) (j:id<3840):(J.tag i n id).ok=true:=by
 obtain ⟨a,b,c,d,e,f⟩:=h;unfold Tg.ok;simp only [Bool.and_eq_true,decide_eq_true_eq,and_assoc];exact ⟨a,c,d,(show J.sq+1<=281474976710655 by omega),(show J.sq<J.sq+1 by omega),(show (1:Int)<=(n:Int) by omega),(show (n:Int)<=72 by omega),(show (0:Int)<=(i:Int) by omega),(show (i:Int)<(n:Int) by omega),g,j⟩
theorem Jr.FP {J:Jr} (h:J.tW) (i n:Nat) (id:Int):(J.tag i n id).Fit:=by
 obtain ⟨a,b,c,d,e,f⟩:=h;exact ⟨(show 0<=J.ep by omega),b,(show 0<=J.st by omega),(show J.st<18446744073709551616 by omega),(show 0<=J.sq+1 by omega),(show J.sq+1<18446744073709551616 by omega),e,(show J.sq<18446744073709551616 by omega)⟩
end Go.SL
namespace Go.Proofs.Nn
open RowKit SL
variable {P:Program} {tmps:Array Z'} {assign body:Code} {w:R}
def Reads (S:Hp) (v:Z') (Z:List Wr) (F:ai):Prop:=
 ∀ b c a,Ext S b->ag a (c*(aq b*F))->Ur a v Z/\∀ z ∈ Z,Rd a z.2.1 z.2.2
def Ow (S:Hp) (j d:Nat) (J:Jr) (a:Int × aC) (F:ai) (w:R) (e:Ending) (c:R):Prop:=
 ∃ b,Ext S b/\e = .returned (Y .i64 a.1)/\ag c (pH j d (if a.1=0 then J else { J with br:=true })*(aS b d a.2*(aq b*F)))/\aj w c
def Gi (S:Hp) (j d r t:Nat) (J:Jr) (D:aC) (Z:List Wr) (n:Nat) (F:ai) (w:R) (u:Z') (wr:R):Prop:=
 ∃ (k:Nat) (a:Hp),k<=n/\u = Y .i64 (k:Int)/\Ext S a/\(J.bM D Z k).1=0 /\
  ag wr (pt j (X (J.cells d r t) 183 (0,0))*(bX r (cE J.P)*(bO t J.T*(aS a d (J.bM D Z k).2*(aq a*F)))))/\aj w wr
theorem Da (w:R) (S:Hp) (j d:Nat) (J:Jr) (D:aC) (F:ai) (v:Z') (Z:List Wr) (h:ag w (pH j d J*(aS S d D*(aq S*F)))) (M:J.Ok) (hN:J.tW) (hD:D.Ok)
    (hm:D.wait.length+Z.length<=1000000) (hZ:Z.length<=72) (j1:∀ g0 ∈ Z,0<=g0.1/\g0.1<3840/\g0.2.2.length=480) (hr:Reads S v Z F) :
    Calls Q 135 #[az j,v] w (Ow S j d J (J.bM D Z Z.length) F w):=by
  obtain ⟨r,t,hx⟩:=h.sr;have hv:=(hr S (pH j d J*aS S d D) w (Ext.refl S) (h.to (by ac_rfl))).1;clear h;obtain ⟨n,A⟩:∃ n,n=Z.length:=⟨_,rfl⟩
  obtain ⟨aa,ac,H1⟩:∃ aa ac,v = U aa n ac:=by
    rcases hv with ⟨rfl,h⟩|⟨g,o,B1,rfl,_⟩
    · rw [A,h];exact ⟨_,_,rfl⟩
    · rw [A];exact ⟨_,_,rfl⟩
  subst H1;rw [<- A] at hm hZ ⊢;have Hn:=ae A;have Hr:=ae hr;have v1:=ae j1;clear A hr j1 hv;have O1:(n:Int)<=72:=by omega
  go_enter func135,ntmps135
  go_wp2
  go_loopw [12] (fun K0 wr=>Gi S j d r t J D Z n F w K0 wr) (fun K0 _=>n-(intOf K0).toNat)
  case atStart=>exact ⟨0,S,Nat.zero_le _,rfl,Ext.refl S,rfl,hx,aj.refl w⟩
  case round=>
    clear hx;obtain ⟨k,c,hk,rfl,hE,u,e0,F0⟩:=hrel
    by_cases L1:k<n
    · have S1:(k:Int)<(n:Int):=by omega
      have D0:=Hr.out c (pt j (X (J.cells d r t) 183 (0,0))*(bX r (cE J.P)*(bO t J.T*aS c d (J.bM D Z k).2))) wr hE (e0.to (by ac_rfl))
      obtain ⟨g,o,rfl,K1,Z0⟩:∃ g o,aa=V ⟨g,o,W⟩/\wr.cell? ⟨g,o+k*2,W⟩=V (Y .i64 (Z.getD k Wr.nil).1)/\wr.cell? ⟨g,o+k*2+1,W⟩=V (Z.getD k Wr.nil).2.1:=by
        have A:=Hn.out;rcases D0.1 with ⟨h,u⟩|⟨g,o,B1,h,_,_,hc⟩
        · rw [u] at A;simp at A;omega
        · injection h with e1 e2 e3
          exact ⟨g,o,e1,(hc k (by omega)).1,(hc k (by omega)).2⟩
      have l0:Z.getD k Wr.nil ∈ Z:=by rw [List.getD,Z1 (by have:=Hn.out;omega)];exact List.getElem_mem _
      obtain ⟨i0,i1,i2⟩:=v1.out _ l0;have j0:=D0.2 _ l0;have k0:∀ S' B a,Ext S S'->ag a (B*(aq S'*F))->Rd a (Z.getD k Wr.nil).2.1 (Z.getD k Wr.nil).2.2:=fun S' B a e h=>(Hr.out S' B a e h).2 _ l0
      have f0:J.bM D Z (k+1)=if (J.bM D Z k).1=0 then
        (let H:=(J.bM D Z k).2.write ((J.hd+(k:Int))%(J.P:Int)+1) (enc (J.tag k Z.length (Z.getD k Wr.nil).1)++(Z.getD k Wr.nil).2.2)
         (if H.1=0 then 0 else 2,H.2)) else J.bM D Z k:=rfl
      rw [if_pos u,<- Hn.out] at f0;have o1:=J.Bj D Z (k+1) n (by omega);have W0:(J.bM D Z k).2.Ok:=(J.qI hD Z k (by omega)).ok hD (by omega);obtain ⟨p,q,f1⟩:=j0.shape;generalize hz:Z.getD k Wr.nil=g0 at *;obtain ⟨b,dv,C⟩:=g0;simp only at K1 Z0 i0 i1 i2 j0 k0 f0 f1;subst f1;rw [i2] at Z0 j0 k0;have x0:=Jr.JR hN (i:=k) (n:=n) (id:=b) (by omega) hZ i0 i1;have g1:=Jr.FP hN k n b;obtain ⟨s,G0⟩:∃ s,s=J.tag k n b:=⟨_,rfl⟩
      rw [<- G0] at f0 x0 g1;have z:=e0.alloc (X #[Y .i64 b,U p 480 q] 188 (0,0));have dW:=F0.alloc (X #[Y .i64 b,U p 480 q] 188 (0,0));obtain ⟨A1,p0⟩:∃ B,B=bX r (cE J.P)*(bO t J.T*(aS c d (J.bM D Z k).2*(aq c*F))):=⟨_,rfl⟩
      rw [<- p0] at z;obtain ⟨G,y⟩:∃ B,B=pt wr.heap.size (X #[Y .i64 b,U p 480 q] 188 (0,0))*(pt j (X (J.cells d r t) 183 (0,0))*A1):=⟨_,rfl⟩
      rw [<- y] at z;have D1:∀ a,ag a G->a.cell? ⟨wr.heap.size,0,W⟩=V (Y .i64 b):=fun a h=>(y▸h).cell 0;have R0:∀ a,ag a G->a.cell? ⟨wr.heap.size,1,W⟩=V (U p 480 q):=fun a h=>(y▸h).cell 1;have g4:∀ a,ag a G->a.cell? ⟨j,4,W⟩=V (Y .u32 J.ep):=fun a h=>(y▸h).ah.cell 4;have g5:∀ a,ag a G->a.cell? ⟨j,5,W⟩=V (Y .u64 J.st):=fun a h=>(y▸h).ah.cell 5;have g6:∀ a,ag a G->a.cell? ⟨j,6,W⟩=V (Y .u64 J.sq):=fun a h=>(y▸h).ah.cell 6
      have U1:IntKind.u64.wrap (J.sq+1)=J.sq+1:=by
        have:=hN.Sl;have:=hN.UH;rw [IntKind.wrap_u64];omega
      have HB:=ae y;have L0:=ae p0;have z1:=ae G0;have m:=ae f0;have y1:=ae o1;have x1:=ae x0;have t1:=ae k0;have u1:=ae i2;have s1:=ae W0;have H0:=ae u;have HE:=ae hE;clear e0 D0 j0 k0 f0 o1 x0 G0 p0 y l0 hz i2 W0 u hE F0
      go_wp2_with fail
      generalize wr.alloc (X #[Y .i64 b,U p 480 q] 188 (0,0))=w1 at z dW ⊢;generalize wr.heap.size=bw at *;have Y0:=z.drew;have hA:=z.alloc (X #[Y .u32 J.ep,Y .u64 J.st,Y .u64 (J.sq+1),Y .u64 J.sq,Y .i64 (k:Int),Y .i64 (n:Int),Y .i64 b] 244 (0,0));have V0:=hA.right.drew;have T0:=(z.alloc (X #[Y .u32 0,Y .u64 0,Y .u64 0,Y .u64 0,Y .i64 0,Y .i64 0,Y .i64 0] 244 (0,0))).right.drew
      go_region_held3 (fun a=>ag a G) (first|(with_reducible exact z)|(with_reducible exact Y0)|(with_reducible exact T0)|(with_reducible exact V0)) (fail)
      have f:ag (w1.alloc (X #[Y .u32 J.ep,Y .u64 J.st,Y .u64 (J.sq+1),Y .u64 J.sq,Y .i64 (k:Int),Y .i64 (n:Int),Y .i64 b] 244 (0,0))).drew _:=hA.drew;have dT:=(dW.alloc (X #[Y .u32 J.ep,Y .u64 J.st,Y .u64 (J.sq+1),Y .u64 J.sq,Y .i64 (k:Int),Y .i64 (n:Int),Y .i64 b] 244 (0,0))).drew;generalize (w1.alloc (X #[Y .u32 J.ep,Y .u64 J.st,Y .u64 (J.sq+1),Y .u64 J.sq,Y .i64 (k:Int),Y .i64 (n:Int),Y .i64 b] 244 (0,0))).drew=i at f dT ⊢;generalize w1.heap.size=E at f ⊢;clear hA T0 V0 Y0 z dW g4 g5 g6 D1;have q0:i.cell? ⟨E,0,W⟩=V (Y .u32 J.ep):=f.cell 0;have q1:i.cell? ⟨E,1,W⟩=V (Y .u64 J.st):=f.cell 1;have q2:i.cell? ⟨E,2,W⟩=V (Y .u64 (J.sq+1)):=f.cell 2;have q3:i.cell? ⟨E,3,W⟩=V (Y .u64 J.sq):=f.cell 3;have q4:i.cell? ⟨E,4,W⟩=V (Y .i64 (k:Int)):=f.cell 4;have q5:i.cell? ⟨E,5,W⟩=V (Y .i64 (n:Int)):=f.cell 5;have q6:i.cell? ⟨E,6,W⟩=V (Y .i64 b):=f.cell 6;have qw:=R0 i f.right
      have m1:Rd i (U p 480 q) C:=by
        have hh:=f.right;rw [HB.out,L0.out] at hh;exact t1.out c (pt bw (X #[Y .i64 b,U p 480 q] 188 (0,0))*(pt j (X (J.cells d r t) 183 (0,0))*(bX r (cE J.P)*(bO t J.T*aS c d (J.bM D Z k).2)))) i HE.out (hh.to (by ac_rfl))
      have r0:=lX s g1 x1.out (U p 480 q) C u1.out i m1;have d1:s.cells=#[Y .u32 J.ep,Y .u64 J.st,Y .u64 (J.sq+1),Y .u64 J.sq,Y .i64 (k:Int),Y .i64 (n:Int),Y .i64 b]:=by rw [z1.out];rfl
      rw [d1] at r0;clear d1 m1
      go_wp2_with fail
      refine r0.mono ?_;rintro e w3 ⟨v3,rfl,h3,d3⟩;have H3:=(h3.under f).iC;have D3:=dT.trans d3;clear r0 h3 d3 f dT q0 q1 q2 q3 q4 q5 q6 qw R0;obtain ⟨N,P,rfl⟩:=aE H3;rw [HB.out,L0.out] at H3
      have l:ag w3 (pt j (X (J.cells d r t) 183 (0,0))*(bX r (cE J.P)*(aS c d (J.bM D Z k).2*(aq c*(bs 5 (U N (enc s++C).length P) (enc s++C)*(bO t J.T*F)))))):=
        ag.right (H3.to (by ac_rfl:_=pt bw (X #[Y .i64 b,U p 480 q] 188 (0,0))*(pt j (X (J.cells d r t) 183 (0,0))*(bX r (cE J.P)*(aS c d (J.bM D Z k).2*(aq c*(bs 5 (U N (enc s++C).length P) (enc s++C)*(bO t J.T*F))))))))
      clear H3;generalize enc s++C=L at l m ⊢
      have X0:L.length<=9223372036854775807:=by
        rcases l.aM.cW with ⟨_,u,_⟩|⟨g',M1,N1,hv,K,h6,_⟩
        · omega
        · unfold maxLen at h6;omega
      have s0:=FQ w3.drew r (cE J.P) (J.hd+(k:Int)) _ l.ah.drew (by rw [aV];exact M.p0) (by rw [aV];have:=M.p1;omega);obtain ⟨kk,u0,k1⟩:=ov (J.hd+(k:Int)) M.p0;rw [aV,u0,J2,yq k1,<- u0] at s0
      have R1:IntKind.i64.wrap (J.hd+(k:Int))=J.hd+(k:Int):=by
        have:=M.Jk;have:=M.zR;have:=M.p1;rw [IntKind.wrap_i64];omega
      have r1:∀ a,ag a (pt j (X (J.cells d r t) 183 (0,0))*(bX r (cE J.P)*(aS c d (J.bM D Z k).2*(aq c*(bs 5 (U N L.length P) L*(bO t J.T*F)))))) ->
          Calls Q 166 #[az d,Y .i64 ((J.hd+(k:Int))%(J.P:Int)+1),U N L.length P] a (gS c d ((J.bM D Z k).2.write ((J.hd+(k:Int))%(J.P:Int)+1) L).2 (Y .i64 ((J.bM D Z k).2.write ((J.hd+(k:Int))%(J.P:Int)+1) L).1) (pt j (X (J.cells d r t) 183 (0,0))*(bX r (cE J.P)*(bs 5 (U N L.length P) L*(bO t J.T*F)))) a):=fun a h'=>
        oE a c d (J.bM D Z k).2 _ _ L _ (h'.to (by ac_rfl)) s1.out h'.aM.ss (fun V1 D' E1=>E1.aM.ss) X0
      have h0:=ae r1;obtain ⟨H,hR⟩:∃ H,H=(J.bM D Z k).2.write ((J.hd+(k:Int))%(J.P:Int)+1) L:=⟨_,rfl⟩
      rw [<- hR] at h0 m;clear r1 u0 k1 hR X0;generalize (J.hd+(k:Int))%(J.P:Int)+1=sec at *;have c0:w3.cell? ⟨j,0,W⟩=V (az d):=l.cell 0;have c1:w3.cell? ⟨j,1,W⟩=V (az r):=l.cell 1;have c7:w3.cell? ⟨j,7,W⟩=V (Y .i64 J.hd):=l.cell 7;obtain ⟨rc,D'⟩:=H;simp only at h0 m;have N0:=ae (ag.drew l);clear l
      go_wp2_with fail
      go_region_held3 (fun a=>a.cell? ⟨j,0,W⟩=V (az d)/\a.cell? ⟨j,1,W⟩=V (az r)/\a.cell? ⟨j,7,W⟩=V (Y .i64 J.hd)) (first|(with_reducible exact ⟨a0,a1,a7⟩)|(with_reducible exact ⟨b0,b1,b7⟩)|exact ⟨c0,c1,c7⟩) (first
        | (go_at_call 180;(with_reducible refine s0.mono ?_);rintro e w4 ⟨rfl,h4,d4⟩;have T:=h4.du N0.out;have a0:w4.cell? ⟨j,0,W⟩=V (az d):=T.cell 0;have a1:w4.cell? ⟨j,1,W⟩=V (az r):=T.cell 1;have a7:w4.cell? ⟨j,7,W⟩=V (Y .i64 J.hd):=T.cell 7;have p1:=h0.out w4 T)
        | (go_at_call 166;(with_reducible refine p1.mono ?_);rintro e w5 ⟨I,E2,rfl,K,d5⟩;have b0:w5.cell? ⟨j,0,W⟩=V (az d):=K.aw.cell 0;have b1:w5.cell? ⟨j,1,W⟩=V (az r):=K.aw.cell 1;have b7:w5.cell? ⟨j,7,W⟩=V (Y .i64 J.hd):=K.aw.cell 7))
      have D5:=((D3.drew).trans d4).trans d5
      have H6:ag w5 (pt j (X (J.cells d r t) 183 (0,0))*(bX r (cE J.P)*(bO t J.T*(aS I d D'*(aq I*F))))):=
        ag.right (K.to (by ac_rfl:_=bs 5 (U N L.length P) L*(pt j (X (J.cells d r t) 183 (0,0))*(bX r (cE J.P)*(bO t J.T*(aS I d D'*(aq I*F)))))))
      clear h4 d4 d5 K T N0 s0 h0 p1 a0 a1 a7 b0 b1 b7 c0 c1 c7 D3
      by_cases d0:rc=0
      · have Hq:=ae H6
        have m0:=ae D5;have o0:=ae (HE.out.trans E2);rw [if_pos d0] at m;subst d0;clear H6 D5 E2
        go_wp2
        go_roundw
        case rel=>exact ⟨k+1,I,by omega,by go_num,o0.out,by rw [m.out],by rw [m.out];exact Hq.out,m0.out⟩
        case measure=>simp [intOf];omega
      · have T1:(rc == 0)=false:=by simpa using d0
        rw [if_neg d0] at m;have l1:(J.bM D Z (k+1)).1≠0:=by rw [m.out];show (2:Int)≠0;decide
        have hw:J.bM D Z n=(2,D'):=(y1.out l1).trans m.out;have h1:=Ao w5 j d J _ (ag.y5 (r:=r) (t:=t) H6);have Hw:=ae hw;have m0:=ae D5;have o0:=ae (HE.out.trans E2);clear hw l1 H6 D5 E2 d0
        go_wp2_with fail
        refine h1.mono ?_;rintro e w6 ⟨rfl,h6,d6⟩;clear h1
        go_wp2
        go_ret
        refine ⟨I,o0.out,by rw [Hw.out];rfl,?_,m0.out.trans d6⟩;rw [Hw.out];exact h6
    · obtain rfl:k=n:=by omega
      have l:=ae e0;have S0:=ae u;clear e0 L1 u
      go_wp2
      go_ret
      refine ⟨c,hE,by rw [S0.out];rfl,?_,F0⟩;rw [if_pos S0.out];exact ag.y5 l.out
theorem Bs {l b:Nat} {a:Ending->R->Prop} {n m:Nat} (h:RoundIn Fence.wide n P l b tmps assign body w a):RoundIn Fence.wide m P l b tmps assign body w a:=
 ⟨h.1,fun c d _=>h.2 c d (room_wide _)⟩
theorem wM {l k b:Nat} {a:Ending->R->Prop} {n m:Nat} (h:RoundIn Fence.wide n P l b tmps assign body w a):RoundIn (Fence.wide.inRound k) m P l b tmps assign body w a:=
 Bs (n:=n) h
theorem me {F:Fence} {n:Nat} {d:Type} {C:(List d->ai)->Prop} {g:Operand} {E:Array Tmp} {s:Exit->Act->R->Prop} {a:Act} {w w0:R}
  (g0:F.round=W) (u:1<=n) {gf:Nat} {lb:Array Z'} (hg:a.eval g = .func (.func gf) #[] lb) (b0:F.fn gf) (eg:∀ L w,(callFunc gf L).run P w = .ok (.enter gf L) w)
  {m:ai} {T:d->Array Z'->ai} {S o:List d->Prop} (f0:oF C F (n-1) P gf lb m T S o)
  (f:d->Array Z'->Array Z') (A:List d->ai) (hC:∀ N,C fun ys=>A ys*N) (q:Code->List d->ai) (B:List d->d->ai) (G:ai)
  (hps:∀ x i h b,ag b (T x i*h)->i.size=E.size) (hs:aj w0 w) (h0:ag w (A []*(m*G)))
  (c0:∀ (l:Nat) (r:Loop) (e:List d) (x:d) (i:Array Z') (h:ai) (b:R) (K:Act->R->Prop),o (e++[x])->aj w0 b->ag b (A e*(T x i*(pt l (.loop r)*h))) ->
   (∀ j,aj w0 j->ag j (B e x*(pt l (.loop r)*h))->K { tmps:=f x a.tmps,defers:=[] } j) ->
   assign.wpIn (F.inRound l) (n-1-1) P (Exit.then K (fun _ _ _=>False)) { tmps:=(E.zip i).foldl (fun t (p,v)=>t.setIfInBounds p v) a.tmps,defers:=[] } b)
  (d0:∀ (l:Nat) (r:Loop) (e:List d) (x:d) (h:ai) (b:R),o (e++[x])->aj w0 b->ag b (B e x*(pt l (.loop r)*h)) ->
   body.wpIn (F.inRound l) (n-1-1) P (uk w0 A q (e++[x]) (pt l (.loop r)*h)) { tmps:=f x a.tmps,defers:=[] } b)
  (e0:∀ (D:Nat) (ys:List d) (b:R),S ys->aj w0 b->ag b (A ys*(m*(pt D (.deferred (V []))*G))) ->
   s .normal { a with defers:={ target:=.collected D,args:=#[] } :: a.defers } b)
  (i0:∀ (D:Nat) (c:Code) (ys:List d) (b:R),o ys->aj w0 b->ag b (q c ys*(m*(pt D (.deferred (V []))*G))) ->
   c.wpIn F n P s { a with defers:={ target:=.collected D,args:=#[] } :: a.defers } b) :
  (Code.rangeFunc g E assign body).wpIn F n P s a w:=by
 refine sY g0 u hg b0 eg f0 A hC q (fun e x I=>fact (I={ tmps:=f x a.tmps,defers:=[] })*B e x) G hps hs h0 ?_ ?_ e0 i0
 .intro l r e x i h b K z y H hK
  exact c0 l r e x i h b K z y H fun j u h2=>hK _ j u ((ag.au.2 ⟨rfl,h2⟩:ag j (fact _*_)).to (ay _ _ _).symm)
 .intro l r e x I h b z y H
  obtain ⟨rfl,M⟩:=ag.au.1 (H.to (ay _ _ _));exact d0 l r e x h b z y M
def RL (p:Z') (n:Int) (w:R) (e:Ending) (a:R):Prop:=
 e = .returned (.func (.func 227) #[] #[O (V ⟨w.heap.size,0,W⟩),O (V ⟨w.heap.size+1,0,W⟩)]) /\
  a=(w.alloc (X #[p] 122 (0,0))).alloc (X #[Y .i64 n] 3 (0,0))
theorem Jq (w:R) (j:Nat) (n:Int):Calls Q 175 #[az j,Y .i64 n] w (RL (az j) n w):=by
 go_enter func175,ntmps175
 go_wp2
 go_ret
 exact ⟨rfl,rfl⟩
def bY (T:Tb) (P first k:Nat):List (Int × Int):=((List.range k).map fun i=>(first+i)%P).filterMap fun p:Nat=>(told T.os (p:Int)).map fun a=>(a,(p:Int))
theorem qX (T:Tb) (P first k:Nat):bY T P first (k+1)=bY T P first k++(match told T.os (((first+k)%P:Nat):Int) with|some a=>[(a,(((first+k)%P:Nat):Int))]|none=>[]):=by
 unfold bY;rw [List.range_succ,A2,K2];congr 1
 cases h:told T.os (((first+k)%P:Nat):Int) with
 | none=>simp only [List.map_cons,List.map_nil,Y1,h,Option.map_none,X1]
 | some a=>simp only [List.map_cons,List.map_nil,Y1,h,Option.map_some,X1]
end Go.Proofs.Nn
namespace Go.Proofs.Nn
open RowKit SL
attribute [local go_sem] Oper.semAt_some
def gO (bj a j m:Nat):ai:=
 pt bj (X #[az j] 122 (0,0))*pt a (X #[Y .i64 (m:Int)] 3 (0,0))
def lC (T:Tb) (b:List Nat):List (Int × Int):=b.filterMap fun p:Nat=>(told T.os (p:Int)).map fun a=>(a,(p:Int))
theorem Ih (T:Tb) (b:List Nat) (p:Nat):lC T (b++[p])=lC T b++(match told T.os (p:Int) with|some a=>[(a,(p:Int))]|none=>[]):=by
 unfold lC;rw [K2];congr 1
 cases h:told T.os (p:Int) with
 | none=>simp only [Y1,h,Option.map_none,X1]
 | some a=>simp only [Y1,h,Option.map_some,X1]
theorem ti (T:Tb) {a zs:List Nat} (h:a <+: zs):lC T a <+: lC T zs:=by
 obtain ⟨x,rfl⟩:=h;unfold lC;rw [K2];exact List.prefix_append _ _
theorem sL (T:Tb) (P first m:Nat):lC T (places P first m)=bY T P first m:=rfl
def Jr.tail (J:Jr):Nat:=((J.hd-J.us)%(J.P:Int)).toNat
theorem Ip (n:Nat) (bj a j d r t:Nat) (J:Jr) (m:Nat) (h:J.Ok) (hm:m<=J.P) :
  oF (Ch (jJ j d r t J)) Fence.wide n Q 227 #[O (V ⟨bj,0,W⟩),O (V ⟨a,0,W⟩)] (gO bj a j m) Au
   (fun ys=>ys=bY J.T J.P (Jr.tail J) m) (fun ys=>ys <+: bY J.T J.P (Jr.tail J) m):=by
 rintro c _ Ax G w0 w ⟨A,rfl⟩ hY hs h0;replace h0:ag w ((jJ j d r t J*A [])*(gO bj a j m*G)):=h0;have y:ag w (pt j (X (J.cells d r t) 183 (0,0))*(bX r (cE J.P)*(bO t J.T*(pt bj (X #[az j] 122 (0,0))*(pt a (X #[Y .i64 (m:Int)] 3 (0,0))*(A []*G)))))):=h0.to (by unfold gO jJ;ac_rfl);have cj:w.cell? ⟨bj,0,W⟩=V (az j):=y.aD.cell 0;have cn:w.cell? ⟨a,0,W⟩=V (Y .i64 (m:Int)):=y.aM.cell 0;have L:w.cell? ⟨j,1,W⟩=V (az r):=y.cell 1;have c7:w.cell? ⟨j,7,W⟩=V (Y .i64 J.hd):=y.cell 7;have c8:w.cell? ⟨j,8,W⟩=V (Y .i64 J.us):=y.cell 8;have q:=y.alloc (X #[.func (.yield c) #[] #[]] 189 (0,0));refine (callsIn_wide (n:=n)).2 ((callsIn_wide (n:=9)).1 ?_);refine callsIn_of_wp_marks func227 rfl trivial ?_ rfl;simp only [ntmps227,List.size_toArray,B2,List.length_nil,Nat.reduceAdd,Nat.reduceSub,Array.replicate_succ,Array.replicate_zero,List.push_toArray,List.append_toArray,List.nil_append,List.cons_append]
 gi_wp2_with fail
 have ds:=hs.alloc (X #[.func (.yield c) #[] #[]] 189 (0,0));generalize G0:w.heap.size=i at q ⊢;have c0:(w.alloc (X #[.func (.yield c) #[] #[]] 189 (0,0))).cell? ⟨bj,0,W⟩=V (az j):=bN _ _ _ _ cj;have f0:(w.alloc (X #[.func (.yield c) #[] #[]] 189 (0,0))).cell? ⟨a,0,W⟩=V (Y .i64 (m:Int)):=bN _ _ _ _ cn;generalize w.alloc (X #[.func (.yield c) #[] #[]] 189 (0,0))=z at q ds c0 f0 ⊢;clear G0 L c7 c8 cj cn y h0 hs;have L:z.cell? ⟨j,1,W⟩=V (az r):=q.ah.cell 1;have c7:z.cell? ⟨j,7,W⟩=V (Y .i64 J.hd):=q.ah.cell 7;have c8:z.cell? ⟨j,8,W⟩=V (Y .i64 J.us):=q.ah.cell 8
 have F0:IntKind.i64.wrap (-J.us)=-J.us:=by
  have:=h.EM;have:=h.QL;have:=h.p1;rw [IntKind.wrap_i64];omega
 have s0:=zG z.drew r (cE J.P) J.hd (-J.us) _ q.aw.drew (by rw [aV];exact h.p0) (by rw [aV];have:=h.p1;omega);refine wpIn_wide.2 ?_
 go_region_held3 (fun u=>u.cell? ⟨bj,0,W⟩=V (az j)/\u.cell? ⟨j,1,W⟩=V (az r)/\u.cell? ⟨j,7,W⟩=V (Y .i64 J.hd)/\u.cell? ⟨j,8,W⟩=V (Y .i64 J.us)) (exact ⟨c0,L,c7,c8⟩) (first
  | (go_at_call 137;(with_reducible refine s0.mono ?_);rintro e w2 ⟨rfl,rfl⟩))
 obtain ⟨g,i0,D0⟩:=ov (J.hd+-J.us) h.p0
 have m0:Jr.tail J=g:=by
  unfold Jr.tail;rw [show J.hd-J.us=J.hd+-J.us by omega,i0,J2]
 rw [aV,i0];have r0:ag z.drew.drew (bX r (cE J.P)*(pt i (X #[.func (.yield c) #[] #[]] 189 (0,0))*(pt j (X (J.cells d r t) 183 (0,0))*(bO t J.T*(pt bj (X #[az j] 122 (0,0))*(pt a (X #[Y .i64 (m:Int)] 3 (0,0))*(A []*G))))))):=(q.to (by ac_rfl):ag z _)
 have g0:=Lg z.drew.drew r (cE J.P) (g:Int) m _ r0 (by rw [aV];exact h.p0) (by rw [aV];have:=h.p1;omega) (by rw [aV];exact hm);have u0:((g:Int)%((cE J.P).length:Int)).toNat=g:=by rw [aV,Int.emod_eq_of_lt (by omega) (by omega),J2]
 rw [u0] at g0;clear s0 u0 r0 i0 F0
 gi_wp2_with fail
 refine wpIn_wide.2 ?_
 go_region_held3 (fun u=>u.cell? ⟨bj,0,W⟩=V (az j)/\u.cell? ⟨j,1,W⟩=V (az r)/\u.cell? ⟨a,0,W⟩=V (Y .i64 (m:Int))) (first|(with_reducible exact ⟨a0,a1,a2⟩)|exact ⟨c0,L,f0⟩) (first
  | (go_at_call 228;(with_reducible refine g0.mono ?_);rintro e w2 ⟨I,F,K,rfl,N,d2⟩;have a0:w2.cell? ⟨bj,0,W⟩=V (az j):=N.dI.cell 0;have a1:w2.cell? ⟨j,1,W⟩=V (az r):=N.aD.cell 1;have a2:w2.cell? ⟨a,0,W⟩=V (Y .i64 (m:Int)):=N.bZ.cell 0))
 have P:ag w2 ((bX r (cE J.P)*(A (lC J.T [])*(pt i (X #[.func (.yield c) #[] #[]] 189 (0,0))*(pt j (X (J.cells d r t) 183 (0,0))*(bO t J.T*(pt bj (X #[az j] 122 (0,0))*pt a (X #[Y .i64 (m:Int)] 3 (0,0))))))))*(j8 I F K r m g*G)):=N.to (by unfold lC;simp only [X1];ac_rfl);have M:=(ds.drew.drew).trans d2;clear a0 a1 a2 g0 N d2 c0 f0 L c7 c8 q ds
 gi_wp2_with fail
 refine me (w0:=w0) rfl (by decide) (gf:=247) (lb:=#[O (V ⟨I,0,W⟩),O (V ⟨F,0,W⟩),O (V ⟨K,0,W⟩)]) rfl trivial (enters func247 (by kernel_rfl) rfl)
  (Gm _ I F K r (cE J.P) m g (by rw [aV];exact h.p0) (by rw [aV];have:=h.p1;omega) (by rw [aV];exact hm) (by rw [aV];exact D0))
  (fun x tt=>((tt.setIfInBounds 29 (Y .i64 (x:Int))).setIfInBounds 30 (Y .i64 ((cE J.P).getD x 0))).setIfInBounds 5 (Y .i64 (x:Int)))
  (fun ys=>bX r (cE J.P)*(A (lC J.T ys)*(pt i (X #[.func (.yield c) #[] #[]] 189 (0,0))*(pt j (X (J.cells d r t) 183 (0,0))*(bO t J.T*(pt bj (X #[az j] 122 (0,0))*pt a (X #[Y .i64 (m:Int)] 3 (0,0)))))))) (fun x0=>vK (Aq _ _) x0)
  (fun o0 ys=>fact (o0 = .ret)*(Ax (lC J.T ys)*(pt i (X #[.func (.yield c) #[] #[]] 189 (0,0))*(pt bj (X #[az j] 122 (0,0))*pt a (X #[Y .i64 (m:Int)] 3 (0,0))))))
  (fun E x=>bX r (cE J.P)*(A (lC J.T E)*(pt i (X #[.func (.yield c) #[] #[]] 189 (0,0))*(pt j (X (J.cells d r t) 183 (0,0))*(bO t J.T*(pt bj (X #[az j] 122 (0,0))*pt a (X #[Y .i64 (m:Int)] 3 (0,0)))))))) G ?hps M P ?assign ?body ?done ?stop
 case hps=>
  intro x vs Fr f p0;unfold Bg at p0;obtain ⟨rfl,_⟩:=ag.au.1 p0
  rfl
 case assign=>
  intro l rr E x vs Fr f K0 _ s H S;have b:=H.ah;unfold Bg at b;obtain ⟨rfl,B⟩:=ag.au.1 b;clear H b
  gi_wp2
  exact S _ s B
 case done=>
  intro v ys f hS s H;subst hS
  have b:ag f (pt v (.deferred (V []))*((jJ j d r t J*A (lC J.T (places (cE J.P).length g m)))*(gO bj a j m*G))):=by
   unfold j8 at H;have:=(H.to (by unfold gO jJ;ac_rfl:_=pt i (X #[.func (.yield c) #[] #[]] 189 (0,0))*(pt I (X #[Y .i64 (m:Int)] 3 (0,0))*(pt F (X #[O (V ⟨r,0,W⟩)] 180 (0,0))*(pt K (X #[Y .i64 (g:Int)] 3 (0,0))*(pt v (.deferred (V []))*((jJ j d r t J*A (lC J.T (places (cE J.P).length g m)))*(gO bj a j m*G))))))))
   exact this.right.right.right.right
  have S:=b.heap;have B:=(b.putObj (.deferred W)).right;have e:lC J.T (places (cE J.P).length g m)=bY J.T J.P (Jr.tail J) m:=by rw [aV,m0];rfl
  rw [e] at B;have l0:=s.putObj v (.deferred W);clear H b P M
  gi_wp2
  refine ⟨by simp,.inl ⟨_,_,rfl,run_takeDeferred S,?_⟩⟩;exact ⟨_,results_none rfl _ _ _,⟨_,rfl⟩,l0,.inl ⟨_,rfl,B⟩⟩
 case stop=>
  intro v o0 ys f d0 s H0;obtain ⟨rfl,H⟩:=ag.au.1 (H0.to (ay _ _ _));clear H0
  have b:ag f (pt v (.deferred (V []))*(Ax (lC J.T ys)*(gO bj a j m*G))):=by
   unfold j8 at H;have:=(H.to (by unfold gO;ac_rfl:_=pt i (X #[.func (.yield c) #[] #[]] 189 (0,0))*(pt I (X #[Y .i64 (m:Int)] 3 (0,0))*(pt F (X #[O (V ⟨r,0,W⟩)] 180 (0,0))*(pt K (X #[Y .i64 (g:Int)] 3 (0,0))*(pt v (.deferred (V []))*(Ax (lC J.T ys)*(gO bj a j m*G))))))))
   exact this.right.right.right.right
  have S:=b.heap;have B:=(b.putObj (.deferred W)).right
  have hp:lC J.T ys <+: bY J.T J.P (Jr.tail J) m:=by
   have:=ti J.T d0;rw [aV,sL] at this;rw [m0];exact this
  have l0:=s.putObj v (.deferred W);clear H b P M d0
  gi_wp2
  refine ⟨by simp,.inl ⟨_,_,rfl,run_takeDeferred S,?_⟩⟩;exact ⟨_,results_none rfl _ _ _,⟨_,rfl⟩,l0,.inr ⟨_,hp,B⟩⟩
 case body=>
  intro l rr E p Fr f d0 s H;have T:=ti J.T d0;rw [aV,sL,<- m0] at T;have o:=Ih J.T E p;have b:ag f (pt j (X (J.cells d r t) 183 (0,0))*(pt bj (X #[az j] 122 (0,0))*(bO t J.T*(pt i (X #[.func (.yield c) #[] #[]] 189 (0,0))*(A (lC J.T E)*(pt a (X #[Y .i64 (m:Int)] 3 (0,0))*(bX r (cE J.P)*(pt l (.loop rr)*Fr)))))))):=H.to (by ac_rfl);have k2:f.cell? ⟨j,2,W⟩=V (az t):=b.cell 2;have kj:f.cell? ⟨bj,0,W⟩=V (az j):=b.ah.cell 0;have ky:f.cell? ⟨i,0,W⟩=V (.func (.yield c) #[] #[]):=b.aD.cell 0;have C:=GU f t J.T (p:Int) _ b.aw;simp only [List.setIfInBounds_toArray,List.set_cons_succ,List.set_cons_zero]
  match e0:told J.T.os (p:Int) with
  | none=>
   rw [e0] at C o;simp only [List.append_nil] at o;have b0:=ae o;clear o e0 T b P M
   gi_wp2_with fail
   refine rU C ?_;rintro e w3 ⟨rfl,rfl⟩;unfold qu;clear C
   gi_wp2
   refine ⟨fun N0 hf=>(by cases hf),?_⟩
   gi_wp2
   refine ⟨s,?_⟩;dsimp only;rw [b0.out];exact H
  | some id=>
   rw [e0] at C o;simp only at o;rw [o] at T
   have q0:ag f ((jJ j d r t J*A (lC J.T E))*(Au (id,(p:Int)) #[Y .i64 id,Y .i64 (p:Int)]*(pt i (X #[.func (.yield c) #[] #[]] 189 (0,0))*(pt bj (X #[az j] 122 (0,0))*(pt a (X #[Y .i64 (m:Int)] 3 (0,0))*(pt l (.loop rr)*Fr)))))):=
    (ag.au.2 ⟨rfl,H⟩:ag f (fact _*_)).to (by unfold Au jJ;ac_rfl)
   obtain ⟨fn,R0,assign,L0,hy,hR⟩:=hY _ (id,(p:Int)) #[Y .i64 id,Y .i64 (p:Int)] _ f T s q0;have b0:=ae o;clear o e0 T b P M q0 H
   gi_wp2_with fail
   refine rU C ?_;rintro e w3 ⟨rfl,rfl⟩;unfold qu;clear C
   gi_wp2
   refine (wM hR).mono ?_;rintro e W' (⟨rfl,j0,k0⟩|⟨rfl,j0,k0⟩)
   .gi_wp2
    refine ⟨j0,?_⟩;dsimp only;rw [b0.out];exact k0.to (by unfold jJ;ac_rfl)
   .gi_wp2
    refine ⟨j0,?_⟩;dsimp only;rw [b0.out];exact (ag.au.2 ⟨rfl,k0⟩:ag W' (fact (Code.ret=Code.ret)*_)).to (by ac_rfl)
end Go.Proofs.Nn
namespace Go.SL
open RowKit
variable {own:KV}
abbrev Mv:=(Int × List (Int × List UInt8)) × Jr × aC
def Jr.cR (own:KV) (s:Mv) (x:Int × Int):Mv:=
 if s.1.1≠0 then s else if (aP own x.1).isSome then s else
  if (s.2.1.load s.2.2 x.1 x.2).1.1=0 then ((0,s.1.2++[(x.1,(s.2.1.load s.2.2 x.1 x.2).1.2)]),(s.2.1.load s.2.2 x.1 x.2).2)
  else (((s.2.1.load s.2.2 x.1 x.2).1.1,[]),(s.2.1.load s.2.2 x.1 x.2).2)
def Jr.cl (J:Jr) (D:aC) (own:KV) (L:List (Int × Int)):Mv:=L.foldl (Jr.cR own) ((0,[]),J,D)
theorem Jr.ED (J:Jr) (D:aC) (own:KV) (L:List (Int × Int)) (x:Int × Int):J.cl D own (L++[x])=Jr.cR own (J.cl D own L) x:=by
 simp [Jr.cl]
theorem Jr.EW {J:Jr} {D:aC} {id p:Int} (h:(J.load D id p).1.1=0):(J.load D id p).2.1=J:=by
 unfold Jr.load at h ⊢;simp only at h ⊢
 split
 .rename_i a
  rw [if_pos a] at h
  split
  .rename_i t b c
   rw [c] at h;simp only at h
   split
   .rfl
   .rename_i d;rw [if_neg d] at h;exact absurd h (show (2:Int)≠0 by decide)
  .rename_i c
   rw [c] at h;exact absurd h (show (2:Int)≠0 by decide)
 .rename_i a
  rw [if_neg a] at h;exact absurd h (show (2:Int)≠0 by decide)
theorem Jr.Kw (J:Jr) (D:aC) (a p:Int):(J.load D a p).2.2=(D.read (p%(J.P:Int)+1)).2:=by
 unfold Jr.load;simp only
 split
 .split
  .split <;> rfl
  .rfl
 .rfl
theorem Jr.we (J:Jr) {D:aC} (h:D.Ok) (a p:Int):D.jy (J.load D a p).2.2 0:=by
 rw [Jr.Kw];exact aC.CU h _
theorem og {b:KV} (I:Mv->Prop) (h:∀ s x,I s->I (Jr.cR b s x)):∀ (L:List (Int × Int)) (s:Mv),I s->I (L.foldl (Jr.cR b) s)
 | [],_,a=>a
 | x :: L,s,a=>og I h L _ (h s x a)
theorem Jr.vz {J:Jr} {D:aC} {L:List (Int × Int)}:(J.cl D own L).1.1=0->(J.cl D own L).2.1=J:=by
 refine og (fun s=>s.1.1=0->s.2.1=J) ?_ L _ (fun _=>rfl);intro s x d h;unfold Jr.cR at h ⊢
 split
 .rename_i a;rw [if_pos a] at h;exact d h
 .rename_i a
  rw [if_neg a] at h
  split
  .rename_i c;rw [if_pos c] at h;exact d h
  .rename_i c
   rw [if_neg c] at h
   split
   .rename_i b
    have:=d (by simpa using a);exact (Jr.EW b).trans this
   .rename_i b;rw [if_neg b] at h;exact absurd h b
theorem Jr.tu (J:Jr) {D:aC} (b:D.Ok) (own:KV) (L:List (Int × Int)):D.jy (J.cl D own L).2.2 0:=by
 refine og (fun s=>D.jy s.2.2 0) ?_ L _ b.keeps;intro s x a;have c:=fun (d:Jr)=>a.trans (Jr.we d (a.ok b (by have:=b.many;omega)) x.1 x.2);unfold Jr.cR
 split
 .exact a
 .split
  .exact a
  .split
   .exact c _
   .exact c _
theorem Jr.Dc {J:Jr} {D:aC} {L a:List (Int × Int)} (h:(J.cl D own L).1.1≠0) (b:L <+: a):J.cl D own a=J.cl D own L:=by
 obtain ⟨M,rfl⟩:=b;unfold Jr.cl at h ⊢;rw [List.foldl_append];generalize L.foldl (Jr.cR own) ((0,[]),J,D)=s at h ⊢
 induction M with
 | nil=>rfl
 | cons x M c=>
  rw [H2];have:Jr.cR own s x=s:=by unfold Jr.cR;rw [if_pos h]
  rw [this];exact c
theorem Jr.xZ {J:Jr} {D:aC}:∀ (L:List (Int × Int)),(J.cl D own L).1.2.length<=L.length:=by
 intro L
 have:∀ (L:List (Int × Int)) (s:Mv),(L.foldl (Jr.cR own) s).1.2.length<=s.1.2.length+L.length:=by
  intro L
  induction L with
  | nil=>intro s;simp
  | cons x L a=>
   intro s;rw [H2];refine D2 (a _) ?_
   have:(Jr.cR own s x).1.2.length<=s.1.2.length+1:=by
    unfold Jr.cR
    split
    .omega
    .split
     .omega
     .split
      .simp
      .simp
   simp only [B2];omega
 have:=this L ((0,[]),J,D);simpa [Jr.cl] using this
end Go.SL
namespace Go.Proofs.Nn
open RowKit SL
theorem kC (T:Tb) (P first k:Nat):(bY T P first k).length<=k:=by
 unfold bY;refine D2 (List.length_filterMap_le _ _) ?_;simp
theorem BT {l b:List UInt8} {t:Tg} (h:cT l=V (t,b)) (a:l.length=512):b.length=480:=by
 unfold cT at h
 split at h
 .injection h with h;injection h with _ h;rw [<- h,List.length_drop,a]
 .cases h
theorem rf {J:Jr} {D:aC} {id p:Int} (h:(J.load D id p).1.1=0):(J.load D id p).1.2.length=480:=by
 have e:=qF D (p%(J.P:Int)+1);unfold Jr.load at h ⊢;simp only at h ⊢
 split
 .rename_i a
  rw [if_pos a] at h
  split
  .rename_i t b c
   rw [c] at h;simp only at h
   split
   .exact BT c (e a)
   .rename_i d;rw [if_neg d] at h;exact absurd h (show (2:Int)≠0 by decide)
  .rename_i c
   rw [c] at h;exact absurd h (show (2:Int)≠0 by decide)
 .rename_i a
  rw [if_neg a] at h;exact absurd h (show (2:Int)≠0 by decide)
theorem Gd {J:Jr} {D:aC} {own:KV} {L:List (Int × Int)}:∀ x ∈ (J.cl D own L).1.2,x.2.length=480:=by
 refine og (fun s=>∀ x ∈ s.1.2,x.2.length=480) ?_ L _ (by simp);intro s x b;unfold Jr.cR
 split
 .exact b
 .split
  .exact b
  .split
   .rename_i c
    intro y a;rcases List.mem_append.1 a with a|a
    .exact b y a
    .rw [List.mem_singleton.1 a];exact rf c
   .intro y a;cases a
end Go.Proofs.Nn

/- Steps. -/
import Derived.Test.YtdickhgiahcnaaaGreatDoorNP10
import Derived.BigQuiet
set_option linter.all false
set_option maxRecDepth 99999
set_option maxHeartbeats 0
open Go.SL
open Go.Value renaming int->Y,slice->R,pointer->M
open Go.IntKind renaming i64->W,u64->O
open Go.Obj renaming cells->X
open Go renaming World->Q,Value->Z'
open Go.Proofs.Tryz renaming prog->N
open Option renaming some->U,none->V
open Go.Proofs.Tryz
open Prod renaming fst->A3
open List renaming filterMap_nil->A2,filterMap_cons->B3,getElem?_eq_getElem->B2,map_append->D9,length_cons->D8,foldl_cons->D4,filterMap_append->E5
open Nat renaming le_trans->D7
open Int renaming toNat_natCast->D2
namespace Go.SL
open RowKit
abbrev Wr:=Int × Z' × List UInt8
def Wr.nil:Wr:=(0,R V 0 0,[])
def VQ (w:Q) (v:Z') (Z:List Wr):Prop:=
 (v = R V 0 0/\Z=[])\/∃ g o c,v = R (U ⟨g,o,V⟩) Z.length c/\Z.length<=c/\c<=maxLen /\
  ∀ k,k<Z.length->w.cell? ⟨g,o+k*2,V⟩=U (Y W (Z.getD k Wr.nil).1)/\w.cell? ⟨g,o+k*2+1,V⟩=U (Z.getD k Wr.nil).2.1
def fG (Z:List Wr):Nat->KV
 | 0=>[]
 | k+1=>fG Z k++[((Z.getD k Wr.nil).1,Y W (k:Int))]
def okW (n:Int) (Z:List Wr) (k:Nat):Prop:=
 0<=(Z.getD k Wr.nil).1/\(Z.getD k Wr.nil).1<n/\(Z.getD k Wr.nil).2.2.length=480/\(Z.getD k Wr.nil).1 ∉ (Z.take k).map A3
structure Is (n:Int) (Z:List Wr):Prop where
 n0:1<=Z.length
 n1:Z.length<=24
 ok:∀ k,k<Z.length->okW n Z k
def Iy (Z:List Wr) (k:Nat) (c:k<=Z.length):(fG Z k).map A3=(Z.take k).map A3:=by
 induction k with
 | zero=>simp [fG]
 | succ k b=>
  have a:Z.take (k+1)=Z.take k++[Z.getD k Wr.nil]:=by
   rw [List.take_add_one,List.getD,B2 Om0];rfl
  rw [a,fG,D9,D9,b Om0];rfl
def yS {Z:List Wr} {k:Nat} (a:k<=Z.length) (v:Int):(aM (fG Z k) v).isSome=decide (v ∈ (Z.take k).map A3):=by
 rw [Bool.eq_iff_iff,decide_eq_true_iff,<- Iy Z k a]
 cases h:aM (fG Z k) v with
 | none=>
  have:=gr.1 h;simp only [Option.isSome_none,Bool.false_eq_true,this]
 | some x=>
  have b:v ∈ (fG Z k).map A3:=Classical.byContradiction fun q=>by rw [gr.2 q] at h;cases h
  simp only [Option.isSome_some,b]
end Go.SL
namespace Go.Proofs.Nn
open RowKit SL
def my {a b:Q} (h:aj a b) (n:Nat):aj a (b.drewN n):=h.trans ⟨rfl,rfl,rfl,Nat.le_refl _⟩
def PG (w:Q) (e:Ending) (a:Q):Prop:=e = .returned (.tuple #[.map V,.bool false])/\ag a (whole w)/\aj w a
def Lr (Z:List Wr) (w:Q) (e:Ending) (a:Q):Prop:=∃ m,e = .returned (.tuple #[.map (U m),.bool true])/\ag a (mp m (fG Z Z.length)*whole w)/\aj w a
def R7 (B:Bool) (Z:List Wr) (w:Q) (e:Ending) (a:Q):Prop:=if B then Lr Z w e a else PG w e a
def Ob (n:Int) (Z:List Wr) (a m:Nat) (w:Q) (u:Z') (wr:Q):Prop:=
 ∃ k:Nat,k<=a/\u = Y W (k:Int)/\(∀ i,i<k->okW n Z i)/\ag wr (mp m (fG Z k)*whole w)/\aj w wr
def ER (w:Q) (j x0:Nat) (J:Jr) (F:ai) (h:ag w (qq j x0 J*F)) (v:Z') (Z:List Wr) (hv:VQ w v Z) (hs:∀ z ∈ Z,∃ u0 c,z.2.1 = R u0 z.2.2.length c) (hl:Z.length<=1000000) (B:Bool) (T:B=true↔Is J.n Z) :
  Calls N 126 #[az j,v] w (R7 B Z w):=by
 obtain ⟨Y0,Z0,hx⟩:=h.ti;have c3:w.cell? ⟨j,3,V⟩=U (Y W J.n):=hx.cell 3;clear h hx;have HB:=ae T;have no:Hid (¬ Is J.n Z->B=false):=fun h=>Bool.eq_false_iff.2 fun hb=>h (T.1 hb);clear T;obtain ⟨n,u⟩:=Mn0 Z.length
 obtain ⟨L,ac,D0⟩:∃ L ac,v = R L n ac:=by
  rcases hv with ⟨rfl,h⟩|⟨g,o,c,rfl,_⟩
  .rw [u,h];exact ⟨_,_,rfl⟩
  .rw [u];exact ⟨_,_,rfl⟩
 subst D0;rw [<- u] at hl;have l:=ae u;have Hv:=ae hv;have Hs:=ae hs;clear u hv hs;have T0:(n:Int)<=1000000:=Om0
 by_cases h9:n<1
 .have e:=no.o fun h=>by have:=h.n0;have:=l.o;omega
  subst e;obtain rfl:n=0:=Om0
  go_in
  go_wp2
  go_ret2
  exact ⟨rfl,ag.whole w,aj.refl w⟩
 have L0:¬ (n:Int)<1:=Om0
 by_cases K0:24<(n:Int)
 .have e:=no.o fun h=>by have:=h.n1;have:=l.o;omega
  subst e
  go_in
  go_wp2
  go_ret2
  exact ⟨rfl,ag.whole w,aj.refl w⟩
 have H0:=@iU N _ _ _ underlying178;have H:=((ag.whole w).alloc (.map #[] 0)).ui isMap_empty;have i0:=(aj.refl w).alloc (.map #[] 0)
 go_in
 go_wp2
 generalize w.alloc (.map #[] 0)=w2 at H i0 ⊢;generalize w.heap.size=j0 at H ⊢;clear H0
 go_loopw [24] (fun k0 wr=>Ob J.n Z n j0 w k0 wr) (fun k0 _=>n-(intOf k0).toNat)
 case atStart=>exact ⟨0,Nat.zero_le _,rfl,fun i hi=>absurd hi (Nat.not_lt_zero i),H,i0⟩
 case round=>
  clear H i0;obtain ⟨k,hk,rfl,g0,y,p0⟩:=hrel
  by_cases G0:k<n
  .have W0:(k:Int)<(n:Int):=Om0
   obtain ⟨g,o,rfl,c0⟩:∃ g o,L=U ⟨g,o,V⟩/\(wr.cell? ⟨g,o+k*2,V⟩=U (Y W (Z.getD k Wr.nil).1)/\wr.cell? ⟨g,o+k*2+1,V⟩=U (Z.getD k Wr.nil).2.1):=by
    have u:=l.o;rcases Hv.o with ⟨h,h0⟩|⟨g,o,c,h,_,_,hc⟩
    .rw [h0] at u;simp at u;omega
    .injection h with e1 e2 e3
     exact ⟨g,o,e1,y.bV (hc k Om0).1,y.bV (hc k Om0).2⟩
   obtain ⟨p,r,d0⟩:=Hs.o (Z.getD k Wr.nil) (by rw [List.getD,B2 (by have:=l.o;omega)];exact List.getElem_mem _);have k3:wr.cell? ⟨j,3,V⟩=U (Y W J.n):=y.bV c3;have d:=yS (Z:=Z) (k:=k) (by have:=l.o;omega) (Z.getD k Wr.nil).1;have K:fG Z (k+1)=fG Z k++[((Z.getD k Wr.nil).1,Y W (k:Int))]:=rfl;have I:okW J.n Z k↔(0<=(Z.getD k Wr.nil).1/\(Z.getD k Wr.nil).1<J.n/\(Z.getD k Wr.nil).2.2.length=480/\(Z.getD k Wr.nil).1 ∉ (Z.take k).map A3):=Iff.rfl;have l0:¬ okW J.n Z k->¬ Is J.n Z:=fun q h=>q (h.ok k (by have:=l.o;omega))
   have o0:okW J.n Z k->∀ i,i<k+1->okW J.n Z i:=fun q i hi=>by
    rcases Nat.lt_or_eq_of_le (Nat.lt_succ_iff.1 hi) with h|h
    .exact g0 i h
    .rw [h];exact q
   generalize Z.getD k Wr.nil=z at c0 K I d0 d;obtain ⟨a,dv,f⟩:=z;simp only at c0 K I d0 d;subst d0;obtain ⟨N0,F0⟩:=c0;have b:=y.alloc (X #[Y W a,R p f.length r] 189 (0,0));have m:=p0.alloc (X #[Y W a,R p f.length r] 189 (0,0));have a0:(wr.alloc (X #[Y W a,R p f.length r] 189 (0,0))).cell? ⟨wr.heap.size,0,V⟩=U (Y W a):=b.cell 0;have A:(wr.alloc (X #[Y W a,R p f.length r] 189 (0,0))).cell? ⟨wr.heap.size,1,V⟩=U (R p f.length r):=b.cell 1;have a3:(wr.alloc (X #[Y W a,R p f.length r] 189 (0,0))).cell? ⟨j,3,V⟩=U (Y W J.n):=bW _ _ _ _ k3;have s0:=ae K;have E:=ae I;have G:=ae l0;have q0:=ae o0;have t:=0;clear K I l0 o0 y
   by_cases R0:a<0
   .have e:=no.o (G.o fun q=>by have:=E.o.1 q;omega)
    subst e;clear t d
    go_wp2_with fail
    generalize wr.alloc (X #[Y W a,R p f.length r] 189 (0,0))=C at b m a0 A a3 ⊢
    go_quiet (fail)
    go_wp2
    go_ret2
    exact ⟨rfl,b.right.right.drew,my m _⟩
   by_cases S0:J.n<=a
   .have e:=no.o (G.o fun q=>by have:=E.o.1 q;omega)
    subst e;clear t d
    go_wp2_with fail
    generalize wr.alloc (X #[Y W a,R p f.length r] 189 (0,0))=C at b m a0 A a3 ⊢
    go_quiet (fail)
    go_wp2
    go_ret2
    exact ⟨rfl,b.right.right.drew,my m _⟩
   by_cases f0:f.length=480
   .rw [f0] at F0 b m a0 A a3
    have r0:Hid (a ∉ (Z.take k).map A3->okW J.n Z k):=fun s=>E.o.2 ⟨Om0,Om0,f0,s⟩;clear f0;have m0:=fun w' h'=>ag.lookup (P:=N) underlying178 underlying3 (z:=Y W 0) Kr0 (w:=w') (F:=whole w) (b:=j0) (M:=fG Z k) h' a true;clear t
    go_wp2_with fail
    generalize wr.alloc (X #[Y W a,R p 480 r] 189 (0,0))=C at b m a0 A a3 ⊢
    go_quiet (fail)
    have hX:ag (C.drewN nq) _:=b;have P:=my m nq;have b0:(C.drewN nq).cell? ⟨wr.heap.size,0,V⟩=U (Y W a):=a0;generalize C.drewN nq=wB at hX P b0 ⊢;have hY:=hX.right;have t:=m0 wB hY;clear m0 b m a0 A a3
    by_cases s:a ∈ (Z.take k).map A3
    .have e:=no.o (G.o fun q=>(E.o.1 q).2.2.2 s)
     subst e;rw [d,decide_eq_true s,if_pos True.intro] at t;generalize (aM (fG Z k) a).getD (Y W 0)=vv at t;clear d s
     go_wp2
     go_ret2
     exact ⟨rfl,hY.right,P⟩
    .have e0:aM (fG Z k) a=V:=by
      rw [decide_eq_false s] at d
      cases h:aM (fG Z k) a with
      | none=>rfl
      | some x=>rw [h] at d;cases d
     rw [d,decide_eq_false s,if_pos True.intro,e0,Option.getD_none] at t;obtain ⟨w6,X0,S,d6,ce⟩:=ag.mapUpdate (P:=N) underlying178 underlying3 hY a (Y W (k:Int));have e6:SL.fC (fG Z k) a (Y W (k:Int))=fG Z k++[(a,Y W (k:Int))]:=by unfold SL.fC;rw [e0];rfl
     rw [e6,<- s0.o] at S;have D6:=P.trans d6;have H6:=ae S;have Hx:=ae (q0.o (r0.o s));clear d e0 ce e6 S s
     go_wp2
     go_roundw
     case rel=>exact ⟨k+1,Om0,by go_num,Hx.o,H6.o,D6⟩
     case measure=>simp [intOf];omega
   .have V0:((f.length:Int) != 480)=true:=by simp;omega
    have e:=no.o (G.o fun q=>by have:=E.o.1 q;omega);subst e;clear t d
    go_wp2_with fail
    generalize wr.alloc (X #[Y W a,R p f.length r] 189 (0,0))=C at b m a0 A a3 ⊢
    go_quiet (fail)
    go_wp2
    go_ret2
    exact ⟨rfl,b.right.right.drew,my m _⟩
  .obtain rfl:k=n:=Om0
   have e:=HB.o.2 ⟨by have:=l.o;omega,by have:=l.o;omega,by rw [<- l.o];exact g0⟩;subst e;rw [l.o] at y;have H4:=ae y;clear g0 y G0
   go_wp2
   go_ret2
   exact ⟨j0,rfl,H4.o,p0⟩
end Go.Proofs.Nn
namespace Go.SL
open RowKit
structure aB.jF (D D':aB) (n:Nat):Prop where
 sec:D'.sec.length=D.sec.length
 wait:∀ x ∈ D'.wait,D.has x.1
 many:D'.wait.length<=D.wait.length+n
 bF:D'.bF.length<=4611686018427387904
def aB.Ok.keeps {D:aB} (h:D.Ok):D.jF D 0:=⟨rfl,h.wait,Om0,h.bF⟩
def aB.jF.ok {D D':aB} {n:Nat} (k:D.jF D' n) (h:D.Ok) (b:D.wait.length+n<=1000000):D'.Ok:=
 ⟨by rw [k.sec];exact h.n,fun x a=>by unfold aB.has;rw [k.sec];exact k.wait x a,by have:=k.many;omega,k.bF⟩
def aB.jF.trans {D a b:aB} {n m:Nat} (h:D.jF a n) (g:a.jF b m):D.jF b (n+m):=
 ⟨g.sec.trans h.sec,fun x c=>by have:=g.wait x c;unfold aB.has at this ⊢;rw [<- h.sec];exact this,by have:=h.many;have:=g.many;omega,g.bF⟩
def aB.lW (D:aB) (x:Int × List UInt8):(D.done x).sec.length=D.sec.length/\(D.done x).wait=D.wait/\(D.done x).bF=D.bF:=by simp [aB.done]
def aB.M6 (D:aB) (f:Int) (x:Int × List UInt8):(D.si f x).sec.length=D.sec.length:=by
 unfold aB.si
 split
 .exact (D.lW x).1
 .split <;> rfl
def aB.Iu (D:aB) (bF:List Int) (k:Nat):(D.eD bF k).sec.length=D.sec.length:=by
 induction k with
 | zero=>rfl
 | succ k a=>
  rw [aB.eD]
  split
  .rw [aB.M6];exact a
  .exact a
def aB.y6 {D:aB} (h:D.Ok):D.jF D.di 0:=by
 unfold aB.di
 split
 .exact ⟨by simp only [aB.fU];exact aB.Iu _ _ _,by simp [aB.fU],by simp [aB.fU],by simp [aB.fU]⟩
 .exact h.keeps
def aB.nY {D:aB} (h:D.Ok):D.jF D.begun 0:=by
 have a:=aB.y6 h;unfold aB.begun
 split
 .exact a
 .split
  .exact ⟨a.sec,a.wait,a.many,a.bF⟩
  .exact a
def aB.A4 {D:aB} (h:D.Ok) (a:Int) (l:List UInt8):D.jF (D.write a l).2 1:=by
 have b:=aB.nY h;unfold aB.write
 split
 .rename_i d
  split
  .refine ⟨b.sec,fun x c=>?_,by simp only [List.length_append,D8,List.length_nil];have:=b.many;omega,b.bF⟩
   rcases List.mem_append.1 c with c|c
   .exact b.wait x c
   .rw [List.mem_singleton.1 c];exact d.1
  .exact ⟨b.sec,b.wait,D7 b.many (Nat.le_succ _),b.bF⟩
 .exact ⟨rfl,h.wait,Nat.le_succ _,h.bF⟩
def aB.DC {D:aB} (h:D.Ok) (a:Int):D.jF (D.read a).2 0:=by
 have b:=aB.nY h;unfold aB.read
 split
 .split
  .exact ⟨b.sec,b.wait,b.many,b.bF⟩
  .exact b
 .exact h.keeps
def aB.tX (D:aB) (l:List (Int × List UInt8)):(D.bU l).sec.length=D.sec.length/\(D.bU l).bF=D.bF:=by
 unfold aB.bU
 induction l generalizing D with
 | nil=>exact ⟨rfl,rfl⟩
 | cons x l a=>rw [D4,(a _).1,(a _).2];exact ⟨(D.lW x).1,(D.lW x).2.2⟩
def aB.ij {D:aB} (h:D.Ok):D.jF D.flush.2 0:=by
 have a:=aB.nY h;unfold aB.flush
 split
 .unfold aB.aH
  have b:=aB.tX ({ D.begun with cf:=cE (D.begun.cf+1) }:aB) D.begun.wait;exact ⟨b.1.trans a.sec,Si0,Si0,by simp only [b.2];exact a.bF⟩
 .exact a
def Jr.tag (J:Jr) (i n:Nat) (id:Int):Tg:=⟨J.ep,J.st,J.sq+1,J.sq,i,n,id⟩
def Jr.bP (J:Jr) (D:aB) (Z:List Wr):Nat->Int × aB
  | 0=>(0,D)
  | k+1=>if (Jr.bP J D Z k).1=0 then
      (let a:=(Jr.bP J D Z k).2.write ((J.hd+(k:Int))%(J.P:Int)+1) (enc (J.tag k Z.length (Z.getD k Wr.nil).1)++(Z.getD k Wr.nil).2.2)
       (if a.1=0 then 0 else 2,a.2))
    else Jr.bP J D Z k
def Jr.qB (J:Jr) {D:aB} (h:D.Ok) (Z:List Wr) (k:Nat) (b:D.wait.length+k<=1000000):D.jF (J.bP D Z k).2 k:=by
 induction k with
 | zero=>exact h.keeps
 | succ k a=>
  have a:=a Om0;rw [Jr.bP]
  split
  .exact a.trans (aB.A4 (a.ok h Om0) _ _)
  .exact ⟨a.sec,a.wait,by have:=a.many;omega,a.bF⟩
def Jr.B6 (J:Jr) (D:aB) (Z:List Wr) (k n:Nat) (a:k<=n) (h:(J.bP D Z k).1≠0):J.bP D Z n=J.bP D Z k:=by
 obtain ⟨m,rfl⟩:=Nat.le.dest a;clear a
 induction m with
 | zero=>rfl
 | succ m b=>
  rw [show k+(m+1)=(k+m)+1 by omega,Jr.bP,if_neg (by rw [b];exact h),b]
structure Jr.uF (J:Jr):Prop where
 VS:1<=J.ep
 VT:J.ep<4294967296
 T3:1<=J.st
 bH:J.st<=J.sq+1
 Ua:0<=J.sq
 V6:J.sq<281474976710655
def Jr.Mp {J:Jr} (h:J.uF) {i n:Nat} {id:Int} (l:i<n) (m:n<=72) (g:0<=id) (j:id<3840):(J.tag i n id).ok=true:=by
 obtain ⟨a,b,c,d,e,f⟩:=h;unfold Tg.ok;simp only [Bool.and_eq_true,decide_eq_true_eq,and_assoc];exact ⟨a,c,d,(show J.sq+1<=281474976710655 by omega),(show J.sq<J.sq+1 by omega),(show (1:Int)<=(n:Int) by omega),(show (n:Int)<=72 by omega),(show (0:Int)<=(i:Int) by omega),(show (i:Int)<(n:Int) by omega),g,j⟩
def Jr.FA {J:Jr} (h:J.uF) (i n:Nat) (id:Int):(J.tag i n id).Fit:=by
 obtain ⟨a,b,c,d,e,f⟩:=h;exact ⟨(show 0<=J.ep by omega),b,(show 0<=J.st by omega),(show J.st<18446744073709551616 by omega),(show 0<=J.sq+1 by omega),(show J.sq+1<18446744073709551616 by omega),e,(show J.sq<18446744073709551616 by omega)⟩
end Go.SL
namespace Go.Proofs.Nn
open RowKit SL
variable {P:Program} {tmps:Array Z'} {assign body:Code} {w:Q}
def Reads (S:Hp) (v:Z') (Z:List Wr) (F:ai):Prop:=
 ∀ b c a,Ext S b->ag a (c*(al b*F))->VQ a v Z/\∀ z ∈ Z,Rd a z.2.1 z.2.2
def Pg (S:Hp) (j d:Nat) (J:Jr) (a:Int × aB) (F:ai) (w:Q) (e:Ending) (c:Q):Prop:=
 ∃ b,Ext S b/\e = .returned (Y W a.1)/\ag c (qq j d (if a.1=0 then J else { J with br:=true })*(aR b d a.2*(al b*F)))/\aj w c
def JQ (S:Hp) (j d r t:Nat) (J:Jr) (D:aB) (Z:List Wr) (n:Nat) (F:ai) (w:Q) (u:Z') (wr:Q):Prop:=
 ∃ (k:Nat) (a:Hp),k<=n/\u = Y W (k:Int)/\Ext S a/\(J.bP D Z k).1=0 /\
  ag wr (pt j (X (J.cells d r t) 184 (0,0))*(bZ r (cF J.P)*(bQ t J.T*(aR a d (J.bP D Z k).2*(al a*F)))))/\aj w wr
def Eh (w:Q) (S:Hp) (j d:Nat) (J:Jr) (D:aB) (F:ai) (v:Z') (Z:List Wr) (h:ag w (qq j d J*(aR S d D*(al S*F)))) (I:J.Ok) (hN:J.uF) (hD:D.Ok)
    (hm:D.wait.length+Z.length<=1000000) (hZ:Z.length<=72) (l1:∀ g0 ∈ Z,0<=g0.1/\g0.1<3840/\g0.2.2.length=480) (hr:Reads S v Z F) :
    Calls N 131 #[az j,v] w (Pg S j d J (J.bP D Z Z.length) F w):=by
  obtain ⟨r,t,hx⟩:=h.ti;have hv:=(hr S (qq j d J*aR S d D) w (Ext.refl S) (h.u00)).1;clear h;obtain ⟨n,A⟩:=Mn0 Z.length
  obtain ⟨aa,ac,K1⟩:∃ aa ac,v = R aa n ac:=by
    rcases hv with ⟨rfl,h⟩|⟨g,o,c,rfl,_⟩
    · rw [A,h];exact ⟨_,_,rfl⟩
    · rw [A];exact ⟨_,_,rfl⟩
  subst K1;rw [<- A] at hm hZ ⊢;have Hn:=ae A;have Hr:=ae hr;have y1:=ae l1;clear A hr l1 hv;have R1:(n:Int)<=72:=Om0
  go_in
  go_wp2
  go_loopw [12] (fun N0 wr=>JQ S j d r t J D Z n F w N0 wr) (fun N0 _=>n-(intOf N0).toNat)
  case atStart=>exact ⟨0,S,Nat.zero_le _,rfl,Ext.refl S,rfl,hx,aj.refl w⟩
  case round=>
    clear hx;obtain ⟨k,f,hk,rfl,hE,u,e0,K0⟩:=hrel
    by_cases M1:k<n
    · have T1:(k:Int)<(n:Int):=Om0
      have G0:=Hr.o f (pt j (X (J.cells d r t) 184 (0,0))*(bZ r (cF J.P)*(bQ t J.T*aR f d (J.bP D Z k).2))) wr hE (e0.u00)
      obtain ⟨g,o,rfl,L1,f1⟩:∃ g o,aa=U ⟨g,o,V⟩/\wr.cell? ⟨g,o+k*2,V⟩=U (Y W (Z.getD k Wr.nil).1)/\wr.cell? ⟨g,o+k*2+1,V⟩=U (Z.getD k Wr.nil).2.1:=by
        have A:=Hn.o;rcases G0.1 with ⟨h,u⟩|⟨g,o,c,h,_,_,hc⟩
        · rw [u] at A;simp at A;omega
        · injection h with e1 e2 e3
          exact ⟨g,o,e1,(hc k Om0).1,(hc k Om0).2⟩
      have m0:Z.getD k Wr.nil ∈ Z:=by rw [List.getD,B2 (by have:=Hn.o;omega)];exact List.getElem_mem _
      obtain ⟨i0,i1,i2⟩:=y1.o _ m0;have k0:=G0.2 _ m0;have l0:∀ S' r0 a,Ext S S'->ag a (r0*(al S'*F))->Rd a (Z.getD k Wr.nil).2.1 (Z.getD k Wr.nil).2.2:=fun S' r0 a e h=>(Hr.o S' r0 a e h).2 _ m0
      have f0:J.bP D Z (k+1)=if (J.bP D Z k).1=0 then
        (let j0:=(J.bP D Z k).2.write ((J.hd+(k:Int))%(J.P:Int)+1) (enc (J.tag k Z.length (Z.getD k Wr.nil).1)++(Z.getD k Wr.nil).2.2)
         (if j0.1=0 then 0 else 2,j0.2)) else J.bP D Z k:=rfl
      rw [if_pos u,<- Hn.o] at f0;have r1:=J.B6 D Z (k+1) n Om0;have Y0:(J.bP D Z k).2.Ok:=(J.qB hD Z k Om0).ok hD Om0;obtain ⟨q,s,h1⟩:=k0.shape;generalize hz:Z.getD k Wr.nil=g0 at *;obtain ⟨b,dv,B⟩:=g0;simp only at L1 f1 i0 i1 i2 k0 l0 f0 h1;subst h1;rw [i2] at f1 k0 l0;have F0:=Jr.Mp hN (i:=k) (n:=n) (id:=b) Om0 hZ i0 i1;have j1:=Jr.FA hN k n b;obtain ⟨E,L0⟩:=Mn0 (J.tag k n b)
      rw [<- L0] at f0 F0 j1;have z:=e0.alloc (X #[Y W b,R q 480 s] 189 (0,0));have dW:=K0.alloc (X #[Y W b,R q 480 s] 189 (0,0));obtain ⟨D1,s0⟩:=Mn0 (bZ r (cF J.P)*(bQ t J.T*(aR f d (J.bP D Z k).2*(al f*F))))
      rw [<- s0] at z;obtain ⟨G,y⟩:=Mn0 (pt wr.heap.size (X #[Y W b,R q 480 s] 189 (0,0))*(pt j (X (J.cells d r t) 184 (0,0))*D1))
      rw [<- y] at z;have E1:∀ a,ag a G->a.cell? ⟨wr.heap.size,0,V⟩=U (Y W b):=fun a h=>(y▸h).cell 0;have T0:∀ a,ag a G->a.cell? ⟨wr.heap.size,1,V⟩=U (R q 480 s):=fun a h=>(y▸h).cell 1;have g4:∀ a,ag a G->a.cell? ⟨j,4,V⟩=U (Y .u32 J.ep):=fun a h=>(y▸h).ah.cell 4;have g5:∀ a,ag a G->a.cell? ⟨j,5,V⟩=U (Y O J.st):=fun a h=>(y▸h).ah.cell 5;have g6:∀ a,ag a G->a.cell? ⟨j,6,V⟩=U (Y O J.sq):=fun a h=>(y▸h).ah.cell 6
      have V1:IntKind.u64.wrap (J.sq+1)=J.sq+1:=by
        have:=hN.Ua;have:=hN.V6;rw [IntKind.wrap_u64];omega
      have HB:=ae y;have R0:=ae s0;have B1:=ae L0;have p:=ae f0;have A1:=ae r1;have z1:=ae F0;have v1:=ae l0;have x1:=ae i2;have u1:=ae Y0;have H0:=ae u;have HE:=ae hE;clear e0 G0 k0 l0 f0 r1 F0 L0 s0 y m0 hz i2 Y0 u hE K0
      go_wp2_with fail
      generalize wr.alloc (X #[Y W b,R q 480 s] 189 (0,0))=w1 at z dW ⊢;generalize wr.heap.size=bw at *;have d1:=z.drew;have hA:=z.alloc (X #[Y .u32 J.ep,Y O J.st,Y O (J.sq+1),Y O J.sq,Y W (k:Int),Y W (n:Int),Y W b] 245 (0,0));have X0:=hA.right.drew;have W0:=(z.alloc (X #[Y .u32 0,Y O 0,Y O 0,Y O 0,Y W 0,Y W 0,Y W 0] 245 (0,0))).right.drew
      go_region_held3 (fun a=>ag a G) (first|(with_reducible exact z)|(with_reducible exact d1)|(with_reducible exact W0)|(with_reducible exact X0)) (fail)
      have i:ag (w1.alloc (X #[Y .u32 J.ep,Y O J.st,Y O (J.sq+1),Y O J.sq,Y W (k:Int),Y W (n:Int),Y W b] 245 (0,0))).drew _:=hA.drew;have dT:=(dW.alloc (X #[Y .u32 J.ep,Y O J.st,Y O (J.sq+1),Y O J.sq,Y W (k:Int),Y W (n:Int),Y W b] 245 (0,0))).drew;generalize (w1.alloc (X #[Y .u32 J.ep,Y O J.st,Y O (J.sq+1),Y O J.sq,Y W (k:Int),Y W (n:Int),Y W b] 245 (0,0))).drew=l at i dT ⊢;generalize w1.heap.size=C at i ⊢;clear hA W0 X0 d1 z dW g4 g5 g6 E1;have q0:l.cell? ⟨C,0,V⟩=U (Y .u32 J.ep):=i.cell 0;have q1:l.cell? ⟨C,1,V⟩=U (Y O J.st):=i.cell 1;have q2:l.cell? ⟨C,2,V⟩=U (Y O (J.sq+1)):=i.cell 2;have q3:l.cell? ⟨C,3,V⟩=U (Y O J.sq):=i.cell 3;have q4:l.cell? ⟨C,4,V⟩=U (Y W (k:Int)):=i.cell 4;have q5:l.cell? ⟨C,5,V⟩=U (Y W (n:Int)):=i.cell 5;have q6:l.cell? ⟨C,6,V⟩=U (Y W b):=i.cell 6;have qw:=T0 l i.right
      have p1:Rd l (R q 480 s) B:=by
        have hh:=i.right;rw [HB.o,R0.o] at hh;exact v1.o f (pt bw (X #[Y W b,R q 480 s] 189 (0,0))*(pt j (X (J.cells d r t) 184 (0,0))*(bZ r (cF J.P)*(bQ t J.T*aR f d (J.bP D Z k).2)))) l HE.o (hh.u00)
      have u0:=mI E j1 z1.o (R q 480 s) B x1.o l p1;have g1:E.cells=#[Y .u32 J.ep,Y O J.st,Y O (J.sq+1),Y O J.sq,Y W (k:Int),Y W (n:Int),Y W b]:=by rw [B1.o];rfl
      rw [g1] at u0;clear g1 p1
      go_wp2_with fail
      apply u0.mono;rintro e w3 ⟨v3,rfl,h3,d3⟩;have H3:=(h3.under i).iD;have D3:=dT.trans d3;clear u0 h3 d3 i dT q0 q1 q2 q3 q4 q5 q6 qw T0;obtain ⟨K,P,rfl⟩:=aC H3;rw [HB.o,R0.o] at H3
      have m:ag w3 (pt j (X (J.cells d r t) 184 (0,0))*(bZ r (cF J.P)*(aR f d (J.bP D Z k).2*(al f*(bs 5 (R K (enc E++B).length P) (enc E++B)*(bQ t J.T*F)))))):=
        ag.right (H3.t00 (pt bw (X #[Y W b,R q 480 s] 189 (0,0))*(pt j (X (J.cells d r t) 184 (0,0))*(bZ r (cF J.P)*(aR f d (J.bP D Z k).2*(al f*(bs 5 (R K (enc E++B).length P) (enc E++B)*(bQ t J.T*F))))))))
      clear H3;generalize enc E++B=L at m p ⊢
      have Z0:L.length<=9223372036854775807:=by
        rcases m.aJ.dq with ⟨_,u,_⟩|⟨g',N1,O1,hv,h5,h6,_⟩
        · omega
        · unfold maxLen at h6;omega
      have x0:=Gg w3.drew r (cF J.P) (J.hd+(k:Int)) _ m.ah.drew (by rw [aV];exact I.p0) (by rw [aV];have:=I.p1;omega);obtain ⟨kk,D0,m1⟩:=oZ (J.hd+(k:Int)) I.p0;rw [aV,D0,D2,yi m1,<- D0] at x0
      have S1:IntKind.i64.wrap (J.hd+(k:Int))=J.hd+(k:Int):=by
        have:=I.Kd;have:=I.AD;have:=I.p1;rw [IntKind.wrap_i64];omega
      have t1:∀ a,ag a (pt j (X (J.cells d r t) 184 (0,0))*(bZ r (cF J.P)*(aR f d (J.bP D Z k).2*(al f*(bs 5 (R K L.length P) L*(bQ t J.T*F)))))) ->
          Calls N 164 #[az d,Y W ((J.hd+(k:Int))%(J.P:Int)+1),R K L.length P] a (gE f d ((J.bP D Z k).2.write ((J.hd+(k:Int))%(J.P:Int)+1) L).2 (Y W ((J.bP D Z k).2.write ((J.hd+(k:Int))%(J.P:Int)+1) L).1) (pt j (X (J.cells d r t) 184 (0,0))*(bZ r (cF J.P)*(bs 5 (R K L.length P) L*(bQ t J.T*F)))) a):=fun a h'=>
        pk a f d (J.bP D Z k).2 _ _ L _ (h'.u00) u1.o h'.aJ.pA (fun W1 D' H1=>H1.aJ.pA) Z0
      have h0:=ae t1;obtain ⟨j0,hR⟩:=Mn0 ((J.bP D Z k).2.write ((J.hd+(k:Int))%(J.P:Int)+1) L)
      rw [<- hR] at h0 p;clear t1 D0 m1 hR Z0;generalize (J.hd+(k:Int))%(J.P:Int)+1=sec at *;have c0:w3.cell? ⟨j,0,V⟩=U (az d):=m.cell 0;have c1:w3.cell? ⟨j,1,V⟩=U (az r):=m.cell 1;have c7:w3.cell? ⟨j,7,V⟩=U (Y W J.hd):=m.cell 7;obtain ⟨rc,D'⟩:=j0;simp only at h0 p;have S0:=ae (ag.drew m);clear m
      go_wp2_with fail
      go_region_held3 (fun a=>a.cell? ⟨j,0,V⟩=U (az d)/\a.cell? ⟨j,1,V⟩=U (az r)/\a.cell? ⟨j,7,V⟩=U (Y W J.hd)) (first|(with_reducible exact ⟨a0,a1,a7⟩)|(with_reducible exact ⟨b0,b1,b7⟩)|exact ⟨c0,c1,c7⟩) (first
        | (go_at_call 177;(with_reducible apply x0.mono);rintro e w4 ⟨rfl,h4,d4⟩;have T:=h4.cM S0.o;have a0:w4.cell? ⟨j,0,V⟩=U (az d):=T.cell 0;have a1:w4.cell? ⟨j,1,V⟩=U (az r):=T.cell 1;have a7:w4.cell? ⟨j,7,V⟩=U (Y W J.hd):=T.cell 7;have s1:=h0.o w4 T)
        | (go_at_call 164;(with_reducible apply s1.mono);rintro e w5 ⟨H,E2,rfl,h5,d5⟩;have b0:w5.cell? ⟨j,0,V⟩=U (az d):=h5.au.cell 0;have b1:w5.cell? ⟨j,1,V⟩=U (az r):=h5.au.cell 1;have b7:w5.cell? ⟨j,7,V⟩=U (Y W J.hd):=h5.au.cell 7))
      have D5:=((D3.drew).trans d4).trans d5
      have H6:ag w5 (pt j (X (J.cells d r t) 184 (0,0))*(bZ r (cF J.P)*(bQ t J.T*(aR H d D'*(al H*F))))):=
        ag.right (h5.t00 (bs 5 (R K L.length P) L*(pt j (X (J.cells d r t) 184 (0,0))*(bZ r (cF J.P)*(bQ t J.T*(aR H d D'*(al H*F)))))))
      clear h4 d4 d5 h5 T S0 x0 h0 s1 a0 a1 a7 b0 b1 b7 c0 c1 c7 D3
      by_cases d0:rc=0
      · have Hq:=ae H6
        have o0:=ae D5;have p0:=ae (HE.o.trans E2);rw [if_pos d0] at p;subst d0;clear H6 D5 E2
        go_wp2
        go_roundw
        case rel=>exact ⟨k+1,H,Om0,by go_num,p0.o,by rw [p.o],by rw [p.o];exact Hq.o,o0.o⟩
        case measure=>simp [intOf];omega
      · have U1:(rc == 0)=false:=by simpa using d0
        rw [if_neg d0] at p;have o1:(J.bP D Z (k+1)).1≠0:=by rw [p.o];show (2:Int)≠0;decide
        have hw:J.bP D Z n=(2,D'):=(A1.o o1).trans p.o;have k1:=A6 w5 j d J _ (ag.Ak (r:=r) (t:=t) H6);have Hw:=ae hw;have o0:=ae D5;have p0:=ae (HE.o.trans E2);clear hw o1 H6 D5 E2 d0
        go_wp2_with fail
        apply k1.mono;rintro e w6 ⟨rfl,h6,d6⟩;clear k1
        go_wp2
        go_ret
        refine ⟨H,p0.o,by rw [Hw.o];rfl,?_,o0.o.trans d6⟩;rw [Hw.o];exact h6
    · obtain rfl:k=n:=Om0
      have m:=ae e0;have V0:=ae u;clear e0 M1 u
      go_wp2
      go_ret
      refine ⟨f,hE,by rw [V0.o];rfl,?_,K0⟩;rw [if_pos V0.o];exact ag.Ak m.o
def AH {l b:Nat} {a:Ending->Q->Prop} {n m:Nat} (h:RoundIn Fence.wide n P l b tmps assign body w a):RoundIn Fence.wide m P l b tmps assign body w a:=
 ⟨h.1,fun c d _=>h.2 c d (room_wide _)⟩
def xC {l k b:Nat} {a:Ending->Q->Prop} {n m:Nat} (h:RoundIn Fence.wide n P l b tmps assign body w a):RoundIn (Fence.wide.inRound k) m P l b tmps assign body w a:=
 AH (n:=n) h
def mm {F:Fence} {n:Nat} {d:Type} {C:(List d->ai)->Prop} {g:Operand} {E:Array Tmp} {s:Exit->Act->Q->Prop} {a:Act} {w w0:Q}
  (i0:F.round=V) (u:1<=n) {gf:Nat} {lb:Array Z'} (hg:a.eval g = .func (.func gf) #[] lb) (c0:F.fn gf) (eg:∀ L w,(callFunc gf L).run P w = .ok (.enter gf L) w)
  {m:ai} {T:d->Array Z'->ai} {S o:List d->Prop} (g0:oM C F (n-1) P gf lb m T S o)
  (f:d->Array Z'->Array Z') (A:List d->ai) (hC:∀ b0,C fun ys=>A ys*b0) (q:Code->List d->ai) (B:List d->d->ai) (G:ai)
  (hps:∀ x i h b,ag b (T x i*h)->i.size=E.size) (hs:aj w0 w) (h0:ag w (A []*(m*G)))
  (d0:∀ (l:Nat) (r:Loop) (e:List d) (x:d) (i:Array Z') (h:ai) (b:Q) (K:Act->Q->Prop),o (e++[x])->aj w0 b->ag b (A e*(T x i*(pt l (.loop r)*h))) ->
   (∀ j,aj w0 j->ag j (B e x*(pt l (.loop r)*h))->K { tmps:=f x a.tmps,defers:=[] } j) ->
   assign.wpIn (F.inRound l) (n-1-1) P (Exit.then K (fun _ _ _=>False)) { tmps:=(E.zip i).foldl (fun t (p,v)=>t.setIfInBounds p v) a.tmps,defers:=[] } b)
  (e0:∀ (l:Nat) (r:Loop) (e:List d) (x:d) (h:ai) (b:Q),o (e++[x])->aj w0 b->ag b (B e x*(pt l (.loop r)*h)) ->
   body.wpIn (F.inRound l) (n-1-1) P (uX w0 A q (e++[x]) (pt l (.loop r)*h)) { tmps:=f x a.tmps,defers:=[] } b)
  (f0:∀ (D:Nat) (ys:List d) (b:Q),S ys->aj w0 b->ag b (A ys*(m*(pt D (.deferred (U []))*G))) ->
   s .normal { a with defers:={ target:=.collected D,args:=#[] } :: a.defers } b)
  (j0:∀ (D:Nat) (c:Code) (ys:List d) (b:Q),o ys->aj w0 b->ag b (q c ys*(m*(pt D (.deferred (U []))*G))) ->
   c.wpIn F n P s { a with defers:={ target:=.collected D,args:=#[] } :: a.defers } b) :
  (Code.rangeFunc g E assign body).wpIn F n P s a w:=by
 refine tD i0 u hg c0 eg g0 A hC q (fun e x I=>fact (I={ tmps:=f x a.tmps,defers:=[] })*B e x) G hps hs h0 ?_ ?_ f0 j0
 .intro l r e x i h b K z y H hK
  exact d0 l r e x i h b K z y H fun j u h2=>hK _ j u ((ag.aq.2 ⟨rfl,h2⟩:ag j (fact _*_)).to (ay _ _ _).symm)
 .intro l r e x I h b z y H
  obtain ⟨rfl,H2⟩:=ag.aq.1 (H.to (ay _ _ _));exact e0 l r e x h b z y H2
def RS (p:Z') (n:Int) (w:Q) (e:Ending) (a:Q):Prop:=
 e = .returned (.func (.func 225) #[] #[M (U ⟨w.heap.size,0,V⟩),M (U ⟨w.heap.size+1,0,V⟩)]) /\
  a=(w.alloc (X #[p] 121 (0,0))).alloc (X #[Y W n] 3 (0,0))
def Ny (w:Q) (j:Nat) (n:Int):Calls N 172 #[az j,Y W n] w (RS (az j) n w):=by
 go_in
 go_wp2
 go_ret
 exact ⟨rfl,rfl⟩
def bX (T:Tb) (P first k:Nat):List (Int × Int):=((List.range k).map fun i=>(first+i)%P).filterMap fun p:Nat=>(told T.os (p:Int)).map fun a=>(a,(p:Int))
def qV (T:Tb) (P first k:Nat):bX T P first (k+1)=bX T P first k++(match told T.os (((first+k)%P:Nat):Int) with|some a=>[(a,(((first+k)%P:Nat):Int))]|none=>[]):=by
 unfold bX;rw [List.range_succ,D9,E5];congr 1
 cases h:told T.os (((first+k)%P:Nat):Int) with
 | none=>simp only [List.map_cons,List.map_nil,B3,h,Option.map_none,A2]
 | some a=>simp only [List.map_cons,List.map_nil,B3,h,Option.map_some,A2]
end Go.Proofs.Nn
namespace Go.Proofs.Nn
open RowKit SL
attribute [local go_sem] Oper.semAt_some
def gT (bj a j m:Nat):ai:=
 pt bj (X #[az j] 121 (0,0))*pt a (X #[Y W (m:Int)] 3 (0,0))
def lL (T:Tb) (b:List Nat):List (Int × Int):=b.filterMap fun p:Nat=>(told T.os (p:Int)).map fun a=>(a,(p:Int))
def GS (T:Tb) (b:List Nat) (p:Nat):lL T (b++[p])=lL T b++(match told T.os (p:Int) with|some a=>[(a,(p:Int))]|none=>[]):=by
 unfold lL;rw [E5];congr 1
 cases h:told T.os (p:Int) with
 | none=>simp only [B3,h,Option.map_none,A2]
 | some a=>simp only [B3,h,Option.map_some,A2]
def tT (T:Tb) {a zs:List Nat} (h:a <+: zs):lL T a <+: lL T zs:=by
 obtain ⟨x,rfl⟩:=h;unfold lL;rw [E5];exact List.prefix_append _ _
def tI (T:Tb) (P first m:Nat):lL T (places P first m)=bX T P first m:=rfl
def Jr.tail (J:Jr):Nat:=((J.hd-J.us)%(J.P:Int)).toNat
def G5 (n:Nat) (bj a j d r t:Nat) (J:Jr) (m:Nat) (i:J.Ok) (hm:m<=J.P) :
  oM (CU (jQ j d r t J)) Fence.wide n N 225 #[M (U ⟨bj,0,V⟩),M (U ⟨a,0,V⟩)] (gT bj a j m) CW
   (fun ys=>ys=bX J.T J.P (Jr.tail J) m) (fun ys=>ys <+: bX J.T J.P (Jr.tail J) m):=by
 rintro f _ Ax G w0 w ⟨A,rfl⟩ hY hs h0;replace h0:ag w ((jQ j d r t J*A [])*(gT bj a j m*G)):=h0;have z:ag w (pt j (X (J.cells d r t) 184 (0,0))*(bZ r (cF J.P)*(bQ t J.T*(pt bj (X #[az j] 121 (0,0))*(pt a (X #[Y W (m:Int)] 3 (0,0))*(A []*G)))))):=h0.to (by unfold gT jQ;ac_rfl);have cj:w.cell? ⟨bj,0,V⟩=U (az j):=z.aA.cell 0;have cn:w.cell? ⟨a,0,V⟩=U (Y W (m:Int)):=z.aJ.cell 0;have P:w.cell? ⟨j,1,V⟩=U (az r):=z.cell 1;have c7:w.cell? ⟨j,7,V⟩=U (Y W J.hd):=z.cell 7;have c8:w.cell? ⟨j,8,V⟩=U (Y W J.us):=z.cell 8;have s:=z.alloc (X #[.func (.yield f) #[] #[]] 190 (0,0));refine (callsIn_wide (n:=n)).2 ((callsIn_wide (n:=9)).1 ?_);refine callsIn_of_wp_marks func225 rfl trivial ?_ rfl;simp only [ntmps225,List.size_toArray,D8,List.length_nil,Nat.reduceAdd,Nat.reduceSub,Array.replicate_succ,Array.replicate_zero,List.push_toArray,List.append_toArray,List.nil_append,List.cons_append]
 gi_wp2_with fail
 have ds:=hs.alloc (X #[.func (.yield f) #[] #[]] 190 (0,0));generalize G0:w.heap.size=o at s ⊢;have d0:(w.alloc (X #[.func (.yield f) #[] #[]] 190 (0,0))).cell? ⟨bj,0,V⟩=U (az j):=bW _ _ _ _ cj;have g0:(w.alloc (X #[.func (.yield f) #[] #[]] 190 (0,0))).cell? ⟨a,0,V⟩=U (Y W (m:Int)):=bW _ _ _ _ cn;generalize w.alloc (X #[.func (.yield f) #[] #[]] 190 (0,0))=B at s ds d0 g0 ⊢;clear G0 P c7 c8 cj cn z h0 hs;have P:B.cell? ⟨j,1,V⟩=U (az r):=s.ah.cell 1;have c7:B.cell? ⟨j,7,V⟩=U (Y W J.hd):=s.ah.cell 7;have c8:B.cell? ⟨j,8,V⟩=U (Y W J.us):=s.ah.cell 8
 have F0:IntKind.i64.wrap (-J.us)=-J.us:=by
  have:=i.EM;have:=i.TE;have:=i.p1;rw [IntKind.wrap_i64];omega
 have s0:=zu B.drew r (cF J.P) J.hd (-J.us) _ s.au.drew (by rw [aV];exact i.p0) (by rw [aV];have:=i.p1;omega);refine wpIn_wide.2 ?_
 go_region_held3 (fun v=>v.cell? ⟨bj,0,V⟩=U (az j)/\v.cell? ⟨j,1,V⟩=U (az r)/\v.cell? ⟨j,7,V⟩=U (Y W J.hd)/\v.cell? ⟨j,8,V⟩=U (Y W J.us)) (exact ⟨d0,P,c7,c8⟩) (first
  | (go_at_call 133;(with_reducible apply s0.mono);rintro e w2 ⟨rfl,rfl⟩))
 obtain ⟨h,j0,D0⟩:=oZ (J.hd+-J.us) i.p0
 have o0:Jr.tail J=h:=by
  unfold Jr.tail;rw [show J.hd-J.us=J.hd+-J.us by omega,j0,D2]
 rw [aV,j0];have r0:ag B.drew.drew (bZ r (cF J.P)*(pt o (X #[.func (.yield f) #[] #[]] 190 (0,0))*(pt j (X (J.cells d r t) 184 (0,0))*(bQ t J.T*(pt bj (X #[az j] 121 (0,0))*(pt a (X #[Y W (m:Int)] 3 (0,0))*(A []*G))))))):=(s.u00:ag B _)
 have i0:=Ov B.drew.drew r (cF J.P) (h:Int) m _ r0 (by rw [aV];exact i.p0) (by rw [aV];have:=i.p1;omega) (by rw [aV];exact hm);have u0:((h:Int)%((cF J.P).length:Int)).toNat=h:=by rw [aV,Int.emod_eq_of_lt Om0 Om0,D2]
 rw [u0] at i0;clear s0 u0 r0 j0 F0
 gi_wp2_with fail
 refine wpIn_wide.2 ?_
 go_region_held3 (fun v=>v.cell? ⟨bj,0,V⟩=U (az j)/\v.cell? ⟨j,1,V⟩=U (az r)/\v.cell? ⟨a,0,V⟩=U (Y W (m:Int))) (first|(with_reducible exact ⟨a0,a1,a2⟩)|exact ⟨d0,P,g0⟩) (first
  | (go_at_call 226;(with_reducible apply i0.mono);rintro e w2 ⟨K,I,L,rfl,T,d2⟩;have a0:w2.cell? ⟨bj,0,V⟩=U (az j):=T.eu.cell 0;have a1:w2.cell? ⟨j,1,V⟩=U (az r):=T.aA.cell 1;have a2:w2.cell? ⟨a,0,V⟩=U (Y W (m:Int)):=T.fh.cell 0))
 have hE:ag w2 ((bZ r (cF J.P)*(A (lL J.T [])*(pt o (X #[.func (.yield f) #[] #[]] 190 (0,0))*(pt j (X (J.cells d r t) 184 (0,0))*(bQ t J.T*(pt bj (X #[az j] 121 (0,0))*pt a (X #[Y W (m:Int)] 3 (0,0))))))))*(kn K I L r m h*G)):=T.to (by unfold lL;simp only [A2];ac_rfl);have S:=(ds.drew.drew).trans d2;clear a0 a1 a2 i0 T d2 d0 g0 P c7 c8 s ds
 gi_wp2_with fail
 refine mm (w0:=w0) rfl De0 (gf:=245) (lb:=#[M (U ⟨K,0,V⟩),M (U ⟨I,0,V⟩),M (U ⟨L,0,V⟩)]) rfl trivial (enters func245 Kr0 rfl)
  (JS _ K I L r (cF J.P) m h (by rw [aV];exact i.p0) (by rw [aV];have:=i.p1;omega) (by rw [aV];exact hm) (by rw [aV];exact D0))
  (fun x tt=>((tt.setIfInBounds 29 (Y W (x:Int))).setIfInBounds 30 (Y W ((cF J.P).getD x 0))).setIfInBounds 5 (Y W (x:Int)))
  (fun ys=>bZ r (cF J.P)*(A (lL J.T ys)*(pt o (X #[.func (.yield f) #[] #[]] 190 (0,0))*(pt j (X (J.cells d r t) 184 (0,0))*(bQ t J.T*(pt bj (X #[az j] 121 (0,0))*pt a (X #[Y W (m:Int)] 3 (0,0)))))))) (fun x0=>wH (BW _ _) x0)
  (fun c ys=>fact (c = .ret)*(Ax (lL J.T ys)*(pt o (X #[.func (.yield f) #[] #[]] 190 (0,0))*(pt bj (X #[az j] 121 (0,0))*pt a (X #[Y W (m:Int)] 3 (0,0))))))
  (fun F x=>bZ r (cF J.P)*(A (lL J.T F)*(pt o (X #[.func (.yield f) #[] #[]] 190 (0,0))*(pt j (X (J.cells d r t) 184 (0,0))*(bQ t J.T*(pt bj (X #[az j] 121 (0,0))*pt a (X #[Y W (m:Int)] 3 (0,0)))))))) G ?hps S hE ?assign ?body ?done ?stop
 case hps=>
  intro x vs Fr g p0;unfold Bz at p0;obtain ⟨rfl,_⟩:=ag.aq.1 p0
  rfl
 case assign=>
  intro l rr F x vs Fr g K0 _ u H hK;have b:=H.ah;unfold Bz at b;obtain ⟨rfl,C⟩:=ag.aq.1 b;clear H b
  gi_wp2
  exact hK _ u C
 case done=>
  intro y ys g hS u H;subst hS
  have b:ag g (pt y (.deferred (U []))*((jQ j d r t J*A (lL J.T (places (cF J.P).length h m)))*(gT bj a j m*G))):=by
   unfold kn at H;have:=(H.to (by unfold gT jQ;ac_rfl:_=pt o (X #[.func (.yield f) #[] #[]] 190 (0,0))*(pt K (X #[Y W (m:Int)] 3 (0,0))*(pt I (X #[M (U ⟨r,0,V⟩)] 181 (0,0))*(pt L (X #[Y W (h:Int)] 3 (0,0))*(pt y (.deferred (U []))*((jQ j d r t J*A (lL J.T (places (cF J.P).length h m)))*(gT bj a j m*G))))))))
   exact this.right.right.right.right
  have hK:=b.heap;have C:=(b.putObj (.deferred V)).right;have e:lL J.T (places (cF J.P).length h m)=bX J.T J.P (Jr.tail J) m:=by rw [aV,o0];rfl
  rw [e] at C;have m0:=u.putObj y (.deferred V);clear H b hE S
  gi_wp2
  refine ⟨Si0,.inl ⟨_,_,rfl,run_takeDeferred hK,?_⟩⟩;exact ⟨_,results_none rfl _ _ _,⟨_,rfl⟩,m0,.inl ⟨_,rfl,C⟩⟩
 case stop=>
  intro y c ys g e0 u H0;obtain ⟨rfl,H⟩:=ag.aq.1 (H0.to (ay _ _ _));clear H0
  have b:ag g (pt y (.deferred (U []))*(Ax (lL J.T ys)*(gT bj a j m*G))):=by
   unfold kn at H;have:=(H.to (by unfold gT;ac_rfl:_=pt o (X #[.func (.yield f) #[] #[]] 190 (0,0))*(pt K (X #[Y W (m:Int)] 3 (0,0))*(pt I (X #[M (U ⟨r,0,V⟩)] 181 (0,0))*(pt L (X #[Y W (h:Int)] 3 (0,0))*(pt y (.deferred (U []))*(Ax (lL J.T ys)*(gT bj a j m*G))))))))
   exact this.right.right.right.right
  have hK:=b.heap;have C:=(b.putObj (.deferred V)).right
  have hp:lL J.T ys <+: bX J.T J.P (Jr.tail J) m:=by
   have:=tT J.T e0;rw [aV,tI] at this;rw [o0];exact this
  have m0:=u.putObj y (.deferred V);clear H b hE S e0
  gi_wp2
  refine ⟨Si0,.inl ⟨_,_,rfl,run_takeDeferred hK,?_⟩⟩;exact ⟨_,results_none rfl _ _ _,⟨_,rfl⟩,m0,.inr ⟨_,hp,C⟩⟩
 case body=>
  intro l rr F p Fr g e0 u H;have b0:=tT J.T e0;rw [aV,tI,<- o0] at b0;have q:=GS J.T F p;have b:ag g (pt j (X (J.cells d r t) 184 (0,0))*(pt bj (X #[az j] 121 (0,0))*(bQ t J.T*(pt o (X #[.func (.yield f) #[] #[]] 190 (0,0))*(A (lL J.T F)*(pt a (X #[Y W (m:Int)] 3 (0,0))*(bZ r (cF J.P)*(pt l (.loop rr)*Fr)))))))):=H.u00;have k2:g.cell? ⟨j,2,V⟩=U (az t):=b.cell 2;have kj:g.cell? ⟨bj,0,V⟩=U (az j):=b.ah.cell 0;have ky:g.cell? ⟨o,0,V⟩=U (.func (.yield f) #[] #[]):=b.aA.cell 0;have E:=JB g t J.T (p:Int) _ b.au;simp only [List.setIfInBounds_toArray,List.set_cons_succ,List.set_cons_zero]
  match f0:told J.T.os (p:Int) with
  | none=>
   rw [f0] at E q;simp only [List.append_nil] at q;have c0:=ae q;clear q f0 b0 b hE S
   gi_wp2_with fail
   refine sy E ?_;rintro e w3 ⟨rfl,rfl⟩;unfold qA;clear E
   gi_wp2
   refine ⟨fun N0 hf=>(by cases hf),?_⟩
   gi_wp2
   refine ⟨u,?_⟩;dsimp only;rw [c0.o];exact H
  | some id=>
   rw [f0] at E q;simp only at q;rw [q] at b0
   have q0:ag g ((jQ j d r t J*A (lL J.T F))*(CW (id,(p:Int)) #[Y W id,Y W (p:Int)]*(pt o (X #[.func (.yield f) #[] #[]] 190 (0,0))*(pt bj (X #[az j] 121 (0,0))*(pt a (X #[Y W (m:Int)] 3 (0,0))*(pt l (.loop rr)*Fr)))))):=
    (ag.aq.2 ⟨rfl,H⟩:ag g (fact _*_)).to (by unfold CW jQ;ac_rfl)
   obtain ⟨fn,R0,assign,L0,hy,hR⟩:=hY _ (id,(p:Int)) #[Y W id,Y W (p:Int)] _ g b0 u q0;have c0:=ae q;clear q f0 b0 b hE S q0 H
   gi_wp2_with fail
   refine sy E ?_;rintro e w3 ⟨rfl,rfl⟩;unfold qA;clear E
   gi_wp2
   apply (xC hR).mono;rintro e W' (⟨rfl,k0,l0⟩|⟨rfl,k0,l0⟩)
   .gi_wp2
    refine ⟨k0,?_⟩;dsimp only;rw [c0.o];exact l0.to (by unfold jQ;ac_rfl)
   .gi_wp2
    refine ⟨k0,?_⟩;dsimp only;rw [c0.o];exact (ag.aq.2 ⟨rfl,l0⟩:ag W' (fact (Code.ret=Code.ret)*_)).u00
end Go.Proofs.Nn
namespace Go.SL
open RowKit
variable {own:KV}
abbrev Mv:=(Int × List (Int × List UInt8)) × Jr × aB
def Jr.cU (own:KV) (s:Mv) (x:Int × Int):Mv:=
 if s.1.1≠0 then s else if (aM own x.1).isSome then s else
  if (s.2.1.load s.2.2 x.1 x.2).1.1=0 then ((0,s.1.2++[(x.1,(s.2.1.load s.2.2 x.1 x.2).1.2)]),(s.2.1.load s.2.2 x.1 x.2).2)
  else (((s.2.1.load s.2.2 x.1 x.2).1.1,[]),(s.2.1.load s.2.2 x.1 x.2).2)
def Jr.cm (J:Jr) (D:aB) (own:KV) (L:List (Int × Int)):Mv:=L.foldl (Jr.cU own) ((0,[]),J,D)
def Jr.Ex (J:Jr) (D:aB) (own:KV) (L:List (Int × Int)) (x:Int × Int):J.cm D own (L++[x])=Jr.cU own (J.cm D own L) x:=by
 simp [Jr.cm]
def Jr.Gd {J:Jr} {D:aB} {id p:Int} (h:(J.load D id p).1.1=0):(J.load D id p).2.1=J:=by
 unfold Jr.load at h ⊢;simp only at h ⊢
 split
 .rename_i a
  rw [if_pos a] at h
  split
  .rename_i t b c
   rw [c] at h;simp only at h
   split
   .rfl
   .rename_i d;rw [if_neg d] at h;exact absurd h (show (2:Int)≠0 by decide)
  .rename_i c
   rw [c] at h;exact absurd h (show (2:Int)≠0 by decide)
 .rename_i a
  rw [if_neg a] at h;exact absurd h (show (2:Int)≠0 by decide)
def Jr.Lt (J:Jr) (D:aB) (a p:Int):(J.load D a p).2.2=(D.read (p%(J.P:Int)+1)).2:=by
 unfold Jr.load;simp only
 split
 .split
  .split <;> rfl
  .rfl
 .rfl
def Jr.wO (J:Jr) {D:aB} (h:D.Ok) (a p:Int):D.jF (J.load D a p).2.2 0:=by
 rw [Jr.Lt];exact aB.DC h _
def ow {b:KV} (I:Mv->Prop) (h:∀ s x,I s->I (Jr.cU b s x)):∀ (L:List (Int × Int)) (s:Mv),I s->I (L.foldl (Jr.cU b) s)
 | [],_,a=>a
 | x :: L,s,a=>ow I h L _ (h s x a)
def Jr.wj {J:Jr} {D:aB} {L:List (Int × Int)}:(J.cm D own L).1.1=0->(J.cm D own L).2.1=J:=by
 refine ow (fun s=>s.1.1=0->s.2.1=J) ?_ L _ (fun _=>rfl);intro s x d h;unfold Jr.cU at h ⊢
 split
 .rename_i a;rw [if_pos a] at h;exact d h
 .rename_i a
  rw [if_neg a] at h
  split
  .rename_i c;rw [if_pos c] at h;exact d h
  .rename_i c
   rw [if_neg c] at h
   split
   .rename_i b
    have:=d (by simpa using a);exact (Jr.Gd b).trans this
   .rename_i b;rw [if_neg b] at h;exact absurd h b
def Jr.tO (J:Jr) {D:aB} (b:D.Ok) (own:KV) (L:List (Int × Int)):D.jF (J.cm D own L).2.2 0:=by
 refine ow (fun s=>D.jF s.2.2 0) ?_ L _ b.keeps;intro s x a;have c:=fun (d:Jr)=>a.trans (Jr.wO d (a.ok b (by have:=b.many;omega)) x.1 x.2);unfold Jr.cU
 split
 .exact a
 .split
  .exact a
  .split
   .exact c _
   .exact c _
def Jr.Ed {J:Jr} {D:aB} {L a:List (Int × Int)} (h:(J.cm D own L).1.1≠0) (c:L <+: a):J.cm D own a=J.cm D own L:=by
 obtain ⟨b,rfl⟩:=c;unfold Jr.cm at h ⊢;rw [List.foldl_append];generalize L.foldl (Jr.cU own) ((0,[]),J,D)=s at h ⊢
 induction b with
 | nil=>rfl
 | cons x b d=>
  rw [D4];have:Jr.cU own s x=s:=by unfold Jr.cU;rw [if_pos h]
  rw [this];exact d
def Jr.yZ {J:Jr} {D:aB}:∀ (L:List (Int × Int)),(J.cm D own L).1.2.length<=L.length:=by
 intro L
 have:∀ (L:List (Int × Int)) (s:Mv),(L.foldl (Jr.cU own) s).1.2.length<=s.1.2.length+L.length:=by
  intro L
  induction L with
  | nil=>intro s;simp
  | cons x L a=>
   intro s;rw [D4];refine D7 (a _) ?_
   have:(Jr.cU own s x).1.2.length<=s.1.2.length+1:=by
    unfold Jr.cU
    split
    .omega
    .split
     .omega
     .split
      .simp
      .simp
   simp only [D8];omega
 have:=this L ((0,[]),J,D);simpa [Jr.cm] using this
end Go.SL
namespace Go.Proofs.Nn
open RowKit SL
def kR (T:Tb) (P first k:Nat):(bX T P first k).length<=k:=by
 unfold bX;refine D7 (List.length_filterMap_le _ _) ?_;simp
def AZ {l b:List UInt8} {t:Tg} (h:cV l=U (t,b)) (a:l.length=512):b.length=480:=by
 unfold cV at h
 split at h
 .injection h with h;injection h with _ h;rw [<- h,List.length_drop,a]
 .cases h
def qH {J:Jr} {D:aB} {id p:Int} (h:(J.load D id p).1.1=0):(J.load D id p).1.2.length=480:=by
 have e:=rR D (p%(J.P:Int)+1);unfold Jr.load at h ⊢;simp only at h ⊢
 split
 .rename_i a
  rw [if_pos a] at h
  split
  .rename_i t b c
   rw [c] at h;simp only at h
   split
   .exact AZ c (e a)
   .rename_i d;rw [if_neg d] at h;exact absurd h (show (2:Int)≠0 by decide)
  .rename_i c
   rw [c] at h;exact absurd h (show (2:Int)≠0 by decide)
 .rename_i a
  rw [if_neg a] at h;exact absurd h (show (2:Int)≠0 by decide)
def JA {J:Jr} {D:aB} {own:KV} {L:List (Int × Int)}:∀ x ∈ (J.cm D own L).1.2,x.2.length=480:=by
 refine ow (fun s=>∀ x ∈ s.1.2,x.2.length=480) ?_ L _ Si0;intro s x a;unfold Jr.cU
 split
 .exact a
 .split
  .exact a
  .split
   .rename_i b
    intro y hy;rcases List.mem_append.1 hy with hy|hy
    .exact a y hy
    .rw [List.mem_singleton.1 hy];exact qH b
   .intro y hy;cases hy
end Go.Proofs.Nn

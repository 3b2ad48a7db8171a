/- Steps. -/
import Derived.Test.YtiomanbgcfjblaaGreatDoorLP10
import Derived.BigQuiet
set_option linter.all false
set_option maxRecDepth 99999
set_option maxHeartbeats 0
open Go.SL
open Go.Value renaming int->Y,slice->R,pointer->M
open Go.IntKind renaming i64->W,u64->O
open Go.Obj renaming cells->X
open Go renaming World->Q,Value->Z'
open Go.Proofs.Tryz renaming prog->N
open Option renaming some->U,none->V
open Go.Proofs.Tryz
open Prod renaming fst->B3
open List renaming filterMap_nil->D9,filterMap_cons->D8,getElem?_eq_getElem->D7,map_append->D4,length_cons->D2,foldl_cons->E4,filterMap_append->G3
open Nat renaming le_trans->E5
open Int renaming toNat_natCast->E3
namespace Go.SL
open RowKit
abbrev Wr:=Int × Z' × List UInt8
def Wr.nil:Wr:=(0,R V 0 0,[])
def Xn (w:Q) (v:Z') (Z:List Wr):Prop:=
 (v = R V 0 0/\Z=[])\/∃ g o c,v = R (U ⟨g,o,V⟩) Z.length c/\Z.length<=c/\c<=maxLen /\
  ∀ k,k<Z.length->w.cell? ⟨g,o+k*2,V⟩=U (Y W (Z.getD k Wr.nil).1)/\w.cell? ⟨g,o+k*2+1,V⟩=U (Z.getD k Wr.nil).2.1
def fE (Z:List Wr):Nat->KV
 | 0=>[]
 | k+1=>fE Z k++[((Z.getD k Wr.nil).1,Y W (k:Int))]
def okW (n:Int) (Z:List Wr) (k:Nat):Prop:=
 0<=(Z.getD k Wr.nil).1/\(Z.getD k Wr.nil).1<n/\(Z.getD k Wr.nil).2.2.length=480/\(Z.getD k Wr.nil).1 ∉ (Z.take k).map B3
structure JM (n:Int) (Z:List Wr):Prop where
 n0:1<=Z.length
 n1:Z.length<=24
 ok:∀ k,k<Z.length->okW n Z k
def I5 (Z:List Wr) (k:Nat) (c:k<=Z.length):(fE Z k).map B3=(Z.take k).map B3:=by
 induction k with
 | zero=>simp [fE]
 | succ k b=>
  have a:Z.take (k+1)=Z.take k++[Z.getD k Wr.nil]:=by
   rw [List.take_add_one,List.getD,D7 Om0];rfl
  rw [a,fE,D4,D4,b Om0];rfl
def zo {Z:List Wr} {k:Nat} (a:k<=Z.length) (v:Int):(aA (fE Z k) v).isSome=decide (v ∈ (Z.take k).map B3):=by
 rw [Bool.eq_iff_iff,decide_eq_true_iff,<- I5 Z k a]
 cases h:aA (fE Z k) v with
 | none=>
  have:=eD.1 h;simp only [Option.isSome_none,Bool.false_eq_true,this]
 | some x=>
  have b:v ∈ (fE Z k).map B3:=Classical.byContradiction fun q=>by rw [eD.2 q] at h;cases h
  simp only [Option.isSome_some,b]
end Go.SL
namespace Go.Proofs.Nn
open RowKit SL
def mY {a b:Q} (h:ak a b) (n:Nat):ak a (b.drewN n):=h.trans ⟨rfl,rfl,rfl,Nat.le_refl _⟩
def Sa (w:Q) (e:Ending) (a:Q):Prop:=e = .returned (.tuple #[.map V,.bool false])/\ah a (whole w)/\ak w a
def PG (Z:List Wr) (w:Q) (e:Ending) (a:Q):Prop:=∃ m,e = .returned (.tuple #[.map (U m),.bool true])/\ah a (mp m (fE Z Z.length)*whole w)/\ak w a
def UJ (B:Bool) (Z:List Wr) (w:Q) (e:Ending) (a:Q):Prop:=if B then PG Z w e a else Sa w e a
def OQ (n:Int) (Z:List Wr) (len m:Nat) (w:Q) (u:Z') (wr:Q):Prop:=
 ∃ k:Nat,k<=len/\u = Y W (k:Int)/\(∀ i,i<k->okW n Z i)/\ah wr (mp m (fE Z k)*whole w)/\ak w wr
def DW (w:Q) (j D0:Nat) (J:Jr) (F:ai) (h:ah w (nA j D0 J*F)) (v:Z') (Z:List Wr) (hv:Xn w v Z) (hs:∀ z ∈ Z,∃ x0 c,z.2.1 = R x0 z.2.2.length c) (hl:Z.length<=1000000) (B:Bool) (T:B=true↔JM J.n Z) :
  Calls N 165 #[ax j,v] w (UJ B Z w):=by
 obtain ⟨a1,b1,hx⟩:=h.sD;have c3:w.cell? ⟨j,3,V⟩=U (Y W J.n):=hx.cell 3;clear h hx;have HB:=ae T;have no:Hid (¬ JM J.n Z->B=false):=fun h=>Bool.eq_false_iff.2 fun hb=>h (T.1 hb);clear T;obtain ⟨n,u⟩:=Mn0 Z.length
 obtain ⟨L,ac,F0⟩:∃ L ac,v = R L n ac:=by
  rcases hv with ⟨rfl,h⟩|⟨g,o,c,rfl,_⟩
  .rw [u,h];exact ⟨_,_,rfl⟩
  .rw [u];exact ⟨_,_,rfl⟩
 subst F0;rw [<- u] at hl;have l:=ae u;have Hv:=ae hv;have Hs:=ae hs;clear u hv hs;have V0:(n:Int)<=1000000:=Om0
 by_cases h9:n<1
 .have e:=no.o fun h=>by have:=h.n0;have:=l.o;omega
  subst e;obtain rfl:n=0:=Om0
  go_in
  go_wp2
  go_ret2
  exact ⟨rfl,ah.whole w,ak.refl w⟩
 have N0:¬ (n:Int)<1:=Om0
 by_cases L0:24<(n:Int)
 .have e:=no.o fun h=>by have:=h.n1;have:=l.o;omega
  subst e
  go_in
  go_wp2
  go_ret2
  exact ⟨rfl,ah.whole w,ak.refl w⟩
 have K0:=@jg N _ _ _ underlying212;have H:=((ah.whole w).alloc (.map #[] 0)).xw isMap_empty;have i0:=(ak.refl w).alloc (.map #[] 0)
 go_in
 go_wp2
 generalize w.alloc (.map #[] 0)=w2 at H i0 ⊢;generalize w.heap.size=k0 at H ⊢;clear K0
 go_loopw [24] (fun l0 wr=>OQ J.n Z n k0 w l0 wr) (fun l0 _=>n-(intOf l0).toNat)
 case atStart=>exact ⟨0,Nat.zero_le _,rfl,fun i hi=>absurd hi (Nat.not_lt_zero i),H,i0⟩
 case round=>
  clear H i0;obtain ⟨k,hk,rfl,g0,y,q0⟩:=hrel
  by_cases H0:k<n
  .have Y0:(k:Int)<(n:Int):=Om0
   obtain ⟨g,o,rfl,c0⟩:∃ g o,L=U ⟨g,o,V⟩/\(wr.cell? ⟨g,o+k*2,V⟩=U (Y W (Z.getD k Wr.nil).1)/\wr.cell? ⟨g,o+k*2+1,V⟩=U (Z.getD k Wr.nil).2.1):=by
    have u:=l.o;rcases Hv.o with ⟨h,h0⟩|⟨g,o,c,h,_,_,hc⟩
    .rw [h0] at u;simp at u;omega
    .injection h with e1 e2 e3
     exact ⟨g,o,e1,y.bX (hc k Om0).1,y.bX (hc k Om0).2⟩
   obtain ⟨p,r,d0⟩:=Hs.o (Z.getD k Wr.nil) (by rw [List.getD,D7 (by have:=l.o;omega)];exact List.getElem_mem _);have k3:wr.cell? ⟨j,3,V⟩=U (Y W J.n):=y.bX c3;have d:=zo (Z:=Z) (k:=k) (by have:=l.o;omega) (Z.getD k Wr.nil).1;have K:fE Z (k+1)=fE Z k++[((Z.getD k Wr.nil).1,Y W (k:Int))]:=rfl;have I:okW J.n Z k↔(0<=(Z.getD k Wr.nil).1/\(Z.getD k Wr.nil).1<J.n/\(Z.getD k Wr.nil).2.2.length=480/\(Z.getD k Wr.nil).1 ∉ (Z.take k).map B3):=Iff.rfl;have m0:¬ okW J.n Z k->¬ JM J.n Z:=fun q h=>q (h.ok k (by have:=l.o;omega))
   have p0:okW J.n Z k->∀ i,i<k+1->okW J.n Z i:=fun q i hi=>by
    rcases Nat.lt_or_eq_of_le (Nat.lt_succ_iff.1 hi) with h|h
    .exact g0 i h
    .rw [h];exact q
   generalize Z.getD k Wr.nil=z at c0 K I d0 d;obtain ⟨a,dv,f⟩:=z;simp only at c0 K I d0 d;subst d0;obtain ⟨R0,G0⟩:=c0;have b:=y.alloc (X #[Y W a,R p f.length r] 179 (0,0));have m:=q0.alloc (X #[Y W a,R p f.length r] 179 (0,0));have a0:(wr.alloc (X #[Y W a,R p f.length r] 179 (0,0))).cell? ⟨wr.heap.size,0,V⟩=U (Y W a):=b.cell 0;have A:(wr.alloc (X #[Y W a,R p f.length r] 179 (0,0))).cell? ⟨wr.heap.size,1,V⟩=U (R p f.length r):=b.cell 1;have a3:(wr.alloc (X #[Y W a,R p f.length r] 179 (0,0))).cell? ⟨j,3,V⟩=U (Y W J.n):=bF _ _ _ _ k3;have u0:=ae K;have E:=ae I;have G:=ae m0;have r0:=ae p0;have t:=0;clear K I m0 p0 y
   by_cases S0:a<0
   .have e:=no.o (G.o fun q=>by have:=E.o.1 q;omega)
    subst e;clear t d
    go_wp2_with fail
    generalize wr.alloc (X #[Y W a,R p f.length r] 179 (0,0))=C at b m a0 A a3 ⊢
    go_quiet (fail)
    go_wp2
    go_ret2
    exact ⟨rfl,b.right.right.drew,mY m _⟩
   by_cases T0:J.n<=a
   .have e:=no.o (G.o fun q=>by have:=E.o.1 q;omega)
    subst e;clear t d
    go_wp2_with fail
    generalize wr.alloc (X #[Y W a,R p f.length r] 179 (0,0))=C at b m a0 A a3 ⊢
    go_quiet (fail)
    go_wp2
    go_ret2
    exact ⟨rfl,b.right.right.drew,mY m _⟩
   by_cases f0:f.length=480
   .rw [f0] at G0 b m a0 A a3
    have s0:Hid (a ∉ (Z.take k).map B3->okW J.n Z k):=fun s=>E.o.2 ⟨Om0,Om0,f0,s⟩;clear f0;have o0:=fun w' h'=>ah.lookup (P:=N) underlying212 underlying3 (z:=Y W 0) Kr0 (w:=w') (F:=whole w) (b:=k0) (M:=fE Z k) h' a true;clear t
    go_wp2_with fail
    generalize wr.alloc (X #[Y W a,R p 480 r] 179 (0,0))=C at b m a0 A a3 ⊢
    go_quiet (fail)
    have hX:ah (C.drewN nq) _:=b;have P:=mY m nq;have b0:(C.drewN nq).cell? ⟨wr.heap.size,0,V⟩=U (Y W a):=a0;generalize C.drewN nq=wB at hX P b0 ⊢;have hY:=hX.right;have t:=o0 wB hY;clear o0 b m a0 A a3
    by_cases s:a ∈ (Z.take k).map B3
    .have e:=no.o (G.o fun q=>(E.o.1 q).2.2.2 s)
     subst e;rw [d,decide_eq_true s,if_pos True.intro] at t;generalize (aA (fE Z k) a).getD (Y W 0)=vv at t;clear d s
     go_wp2
     go_ret2
     exact ⟨rfl,hY.right,P⟩
    .have e0:aA (fE Z k) a=V:=by
      rw [decide_eq_false s] at d
      cases h:aA (fE Z k) a with
      | none=>rfl
      | some x=>rw [h] at d;cases d
     rw [d,decide_eq_false s,if_pos True.intro,e0,Option.getD_none] at t;obtain ⟨w6,Z0,S,d6,ce⟩:=ah.mapUpdate (P:=N) underlying212 underlying3 hY a (Y W (k:Int));have e6:SL.dM (fE Z k) a (Y W (k:Int))=fE Z k++[(a,Y W (k:Int))]:=by unfold SL.dM;rw [e0];rfl
     rw [e6,<- u0.o] at S;have D6:=P.trans d6;have H6:=ae S;have Hx:=ae (r0.o (s0.o s));clear d e0 ce e6 S s
     go_wp2
     go_roundw
     case rel=>exact ⟨k+1,Om0,by go_num,Hx.o,H6.o,D6⟩
     case measure=>simp [intOf];omega
   .have W0:((f.length:Int) != 480)=true:=by simp;omega
    have e:=no.o (G.o fun q=>by have:=E.o.1 q;omega);subst e;clear t d
    go_wp2_with fail
    generalize wr.alloc (X #[Y W a,R p f.length r] 179 (0,0))=C at b m a0 A a3 ⊢
    go_quiet (fail)
    go_wp2
    go_ret2
    exact ⟨rfl,b.right.right.drew,mY m _⟩
  .obtain rfl:k=n:=Om0
   have e:=HB.o.2 ⟨by have:=l.o;omega,by have:=l.o;omega,by rw [<- l.o];exact g0⟩;subst e;rw [l.o] at y;have H4:=ae y;clear g0 y H0
   go_wp2
   go_ret2
   exact ⟨k0,rfl,H4.o,q0⟩
end Go.Proofs.Nn
namespace Go.SL
open RowKit
structure aw.jK (D D':aw) (n:Nat):Prop where
 sec:D'.sec.length=D.sec.length
 wait:∀ x ∈ D'.wait,D.has x.1
 many:D'.wait.length<=D.wait.length+n
 aH:D'.aH.length<=4611686018427387904
def aw.Ok.keeps {D:aw} (h:D.Ok):D.jK D 0:=⟨rfl,h.wait,Om0,h.aH⟩
def aw.jK.ok {D D':aw} {n:Nat} (k:D.jK D' n) (h:D.Ok) (b:D.wait.length+n<=1000000):D'.Ok:=
 ⟨by rw [k.sec];exact h.n,fun x a=>by unfold aw.has;rw [k.sec];exact k.wait x a,by have:=k.many;omega,k.aH⟩
def aw.jK.trans {D a b:aw} {n m:Nat} (h:D.jK a n) (g:a.jK b m):D.jK b (n+m):=
 ⟨g.sec.trans h.sec,fun x c=>by have:=g.wait x c;unfold aw.has at this ⊢;rw [<- h.sec];exact this,by have:=h.many;have:=g.many;omega,g.aH⟩
def aw.kG (D:aw) (x:Int × List UInt8):(D.done x).sec.length=D.sec.length/\(D.done x).wait=D.wait/\(D.done x).aH=D.aH:=by simp [aw.done]
def aw.Mw (D:aw) (f:Int) (x:Int × List UInt8):(D.vH f x).sec.length=D.sec.length:=by
 unfold aw.vH
 split
 .exact (D.kG x).1
 .split <;> rfl
def aw.KG (D:aw) (aH:List Int) (k:Nat):(D.dF aH k).sec.length=D.sec.length:=by
 induction k with
 | zero=>rfl
 | succ k a=>
  rw [aw.dF]
  split
  .rw [aw.Mw];exact a
  .exact a
def aw.Ay {D:aw} (h:D.Ok):D.jK D.cY 0:=by
 unfold aw.cY
 split
 .exact ⟨by simp only [aw.fY];exact aw.KG _ _ _,by simp [aw.fY],by simp [aw.fY],by simp [aw.fY]⟩
 .exact h.keeps
def aw.nG {D:aw} (h:D.Ok):D.jK D.begun 0:=by
 have a:=aw.Ay h;unfold aw.begun
 split
 .exact a
 .split
  .exact ⟨a.sec,a.wait,a.many,a.aH⟩
  .exact a
def aw.CF {D:aw} (h:D.Ok) (a:Int) (l:List UInt8):D.jK (D.write a l).2 1:=by
 have b:=aw.nG h;unfold aw.write
 split
 .rename_i d
  split
  .refine ⟨b.sec,fun x c=>?_,by simp only [List.length_append,D2,List.length_nil];have:=b.many;omega,b.aH⟩
   rcases List.mem_append.1 c with c|c
   .exact b.wait x c
   .rw [List.mem_singleton.1 c];exact d.1
  .exact ⟨b.sec,b.wait,E5 b.many (Nat.le_succ _),b.aH⟩
 .exact ⟨rfl,h.wait,Nat.le_succ _,h.aH⟩
def aw.Eu {D:aw} (h:D.Ok) (a:Int):D.jK (D.read a).2 0:=by
 have b:=aw.nG h;unfold aw.read
 split
 .split
  .exact ⟨b.sec,b.wait,b.many,b.aH⟩
  .exact b
 .exact h.keeps
def aw.ub (D:aw) (l:List (Int × List UInt8)):(D.bY l).sec.length=D.sec.length/\(D.bY l).aH=D.aH:=by
 unfold aw.bY
 induction l generalizing D with
 | nil=>exact ⟨rfl,rfl⟩
 | cons x l a=>rw [E4,(a _).1,(a _).2];exact ⟨(D.kG x).1,(D.kG x).2.2⟩
def aw.iA {D:aw} (h:D.Ok):D.jK D.flush.2 0:=by
 have a:=aw.nG h;unfold aw.flush
 split
 .unfold aw.ay
  have b:=aw.ub ({ D.begun with cf:=bP (D.begun.cf+1) }:aw) D.begun.wait;exact ⟨b.1.trans a.sec,Si0,Si0,by simp only [b.2];exact a.aH⟩
 .exact a
def Jr.tag (J:Jr) (i n:Nat) (id:Int):Tg:=⟨J.ep,J.st,J.sq+1,J.sq,i,n,id⟩
def Jr.bg (J:Jr) (D:aw) (Z:List Wr):Nat->Int × aw
  | 0=>(0,D)
  | k+1=>if (Jr.bg J D Z k).1=0 then
      (let a:=(Jr.bg J D Z k).2.write ((J.hd+(k:Int))%(J.P:Int)+1) (enc (J.tag k Z.length (Z.getD k Wr.nil).1)++(Z.getD k Wr.nil).2.2)
       (if a.1=0 then 0 else 2,a.2))
    else Jr.bg J D Z k
def Jr.qW (J:Jr) {D:aw} (h:D.Ok) (Z:List Wr) (k:Nat) (b:D.wait.length+k<=1000000):D.jK (J.bg D Z k).2 k:=by
 induction k with
 | zero=>exact h.keeps
 | succ k a=>
  have a:=a Om0;rw [Jr.bg]
  split
  .exact a.trans (aw.CF (a.ok h Om0) _ _)
  .exact ⟨a.sec,a.wait,by have:=a.many;omega,a.aH⟩
def Jr.Bi (J:Jr) (D:aw) (Z:List Wr) (k n:Nat) (a:k<=n) (h:(J.bg D Z k).1≠0):J.bg D Z n=J.bg D Z k:=by
 obtain ⟨m,rfl⟩:=Nat.le.dest a;clear a
 induction m with
 | zero=>rfl
 | succ m b=>
  rw [show k+(m+1)=(k+m)+1 by omega,Jr.bg,if_neg (by rw [b];exact h),b]
structure Jr.uU (J:Jr):Prop where
 Mj:1<=J.ep
 Vz:J.ep<4294967296
 Tp:1<=J.st
 bS:J.st<=J.sq+1
 Qg:0<=J.sq
 Vu:J.sq<281474976710655
def Jr.F8 {J:Jr} (h:J.uU) {i n:Nat} {id:Int} (l:i<n) (m:n<=72) (g:0<=id) (j:id<3840):(J.tag i n id).ok=true:=by
 obtain ⟨a,b,c,d,e,f⟩:=h;unfold Tg.ok;simp only [Bool.and_eq_true,decide_eq_true_eq,and_assoc];exact ⟨a,c,d,(show J.sq+1<=281474976710655 by omega),(show J.sq<J.sq+1 by omega),(show (1:Int)<=(n:Int) by omega),(show (n:Int)<=72 by omega),(show (0:Int)<=(i:Int) by omega),(show (i:Int)<(n:Int) by omega),g,j⟩
def Jr.uX {J:Jr} (h:J.uU) (i n:Nat) (id:Int):(J.tag i n id).Fit:=by
 obtain ⟨a,b,c,d,e,f⟩:=h;exact ⟨(show 0<=J.ep by omega),b,(show 0<=J.st by omega),(show J.st<18446744073709551616 by omega),(show 0<=J.sq+1 by omega),(show J.sq+1<18446744073709551616 by omega),e,(show J.sq<18446744073709551616 by omega)⟩
end Go.SL
namespace Go.Proofs.Nn
open RowKit SL
variable {P:Program} {tmps:Array Z'} {assign body:Code} {w:Q}
def Reads (S:Hp) (v:Z') (Z:List Wr) (F:ai):Prop:=
 ∀ b c a,Ext S b->ah a (c*(al b*F))->Xn a v Z/\∀ z ∈ Z,Rd a z.2.1 z.2.2
def Ra (S:Hp) (j d:Nat) (J:Jr) (a:Int × aw) (F:ai) (w:Q) (e:Ending) (c:Q):Prop:=
 ∃ b,Ext S b/\e = .returned (Y W a.1)/\ah c (nA j d (if a.1=0 then J else { J with br:=true })*(aD b d a.2*(al b*F)))/\ak w c
def Lp (S:Hp) (j d r t:Nat) (J:Jr) (D:aw) (Z:List Wr) (n:Nat) (F:ai) (w:Q) (u:Z') (wr:Q):Prop:=
 ∃ (k:Nat) (a:Hp),k<=n/\u = Y W (k:Int)/\Ext S a/\(J.bg D Z k).1=0 /\
  ah wr (pt j (X (J.cells d r t) 184 (0,0))*(bC r (bW J.P)*(bG t J.T*(aD a d (J.bg D Z k).2*(al a*F)))))/\ak w wr
def Ea (w:Q) (S:Hp) (j d:Nat) (J:Jr) (D:aw) (F:ai) (v:Z') (Z:List Wr) (h:ah w (nA j d J*(aD S d D*(al S*F)))) (I:J.Ok) (hN:J.uU) (hD:D.Ok)
    (hm:D.wait.length+Z.length<=1000000) (hZ:Z.length<=72) (o1:∀ g0 ∈ Z,0<=g0.1/\g0.1<3840/\g0.2.2.length=480) (hr:Reads S v Z F) :
    Calls N 169 #[ax j,v] w (Ra S j d J (J.bg D Z Z.length) F w):=by
  obtain ⟨r,t,hx⟩:=h.sD;have hv:=(hr S (nA j d J*aD S d D) w (Ext.refl S) (h.u00)).1;clear h;obtain ⟨n,A⟩:=Mn0 Z.length
  obtain ⟨aa,ac,N1⟩:∃ aa ac,v = R aa n ac:=by
    rcases hv with ⟨rfl,h⟩|⟨g,o,c,rfl,_⟩
    · rw [A,h];exact ⟨_,_,rfl⟩
    · rw [A];exact ⟨_,_,rfl⟩
  subst N1;rw [<- A] at hm hZ ⊢;have Hn:=ae A;have Hr:=ae hr;have A1:=ae o1;clear A hr o1 hv;have V1:(n:Int)<=72:=Om0
  go_in
  go_wp2
  go_loopw [12] (fun R0 wr=>Lp S j d r t J D Z n F w R0 wr) (fun R0 _=>n-(intOf R0).toNat)
  case atStart=>exact ⟨0,S,Nat.zero_le _,rfl,Ext.refl S,rfl,hx,ak.refl w⟩
  case round=>
    clear hx;obtain ⟨k,f,hk,rfl,hE,u,e0,L0⟩:=hrel
    by_cases R1:k<n
    · have X1:(k:Int)<(n:Int):=Om0
      have K0:=Hr.o f (pt j (X (J.cells d r t) 184 (0,0))*(bC r (bW J.P)*(bG t J.T*aD f d (J.bg D Z k).2))) wr hE (e0.u00)
      obtain ⟨g,o,rfl,O1,h1⟩:∃ g o,aa=U ⟨g,o,V⟩/\wr.cell? ⟨g,o+k*2,V⟩=U (Y W (Z.getD k Wr.nil).1)/\wr.cell? ⟨g,o+k*2+1,V⟩=U (Z.getD k Wr.nil).2.1:=by
        have A:=Hn.o;rcases K0.1 with ⟨h,u⟩|⟨g,o,c,h,_,_,hc⟩
        · rw [u] at A;simp at A;omega
        · injection h with e1 e2 e3
          exact ⟨g,o,e1,(hc k Om0).1,(hc k Om0).2⟩
      have o0:Z.getD k Wr.nil ∈ Z:=by rw [List.getD,D7 (by have:=Hn.o;omega)];exact List.getElem_mem _
      obtain ⟨i0,i1,i2⟩:=A1.o _ o0;have l0:=K0.2 _ o0;have m0:∀ S' s0 a,Ext S S'->ah a (s0*(al S'*F))->Rd a (Z.getD k Wr.nil).2.1 (Z.getD k Wr.nil).2.2:=fun S' s0 a e h=>(Hr.o S' s0 a e h).2 _ o0
      have f0:J.bg D Z (k+1)=if (J.bg D Z k).1=0 then
        (let k0:=(J.bg D Z k).2.write ((J.hd+(k:Int))%(J.P:Int)+1) (enc (J.tag k Z.length (Z.getD k Wr.nil).1)++(Z.getD k Wr.nil).2.2)
         (if k0.1=0 then 0 else 2,k0.2)) else J.bg D Z k:=rfl
      rw [if_pos u,<- Hn.o] at f0;have t1:=J.Bi D Z (k+1) n Om0;have d1:(J.bg D Z k).2.Ok:=(J.qW hD Z k Om0).ok hD Om0;obtain ⟨q,s,k1⟩:=l0.shape;generalize hz:Z.getD k Wr.nil=g0 at *;obtain ⟨b,dv,B⟩:=g0;simp only at O1 h1 i0 i1 i2 l0 m0 f0 k1;subst k1;rw [i2] at h1 l0 m0;have G0:=Jr.F8 hN (i:=k) (n:=n) (id:=b) Om0 hZ i0 i1;have l1:=Jr.uX hN k n b;obtain ⟨E,N0⟩:=Mn0 (J.tag k n b)
      rw [<- N0] at f0 G0 l1;have z:=e0.alloc (X #[Y W b,R q 480 s] 179 (0,0));have dW:=L0.alloc (X #[Y W b,R q 480 s] 179 (0,0));obtain ⟨K1,u0⟩:=Mn0 (bC r (bW J.P)*(bG t J.T*(aD f d (J.bg D Z k).2*(al f*F))))
      rw [<- u0] at z;obtain ⟨G,y⟩:=Mn0 (pt wr.heap.size (X #[Y W b,R q 480 s] 179 (0,0))*(pt j (X (J.cells d r t) 184 (0,0))*K1))
      rw [<- y] at z;have L1:∀ a,ah a G->a.cell? ⟨wr.heap.size,0,V⟩=U (Y W b):=fun a h=>(y▸h).cell 0;have V0:∀ a,ah a G->a.cell? ⟨wr.heap.size,1,V⟩=U (R q 480 s):=fun a h=>(y▸h).cell 1;have g4:∀ a,ah a G->a.cell? ⟨j,4,V⟩=U (Y .u32 J.ep):=fun a h=>(y▸h).aj.cell 4;have g5:∀ a,ah a G->a.cell? ⟨j,5,V⟩=U (Y O J.st):=fun a h=>(y▸h).aj.cell 5;have g6:∀ a,ah a G->a.cell? ⟨j,6,V⟩=U (Y O J.sq):=fun a h=>(y▸h).aj.cell 6
      have Z1:IntKind.u64.wrap (J.sq+1)=J.sq+1:=by
        have:=hN.Qg;have:=hN.Vu;rw [IntKind.wrap_u64];omega
      have HB:=ae y;have S0:=ae u0;have H1:=ae N0;have p:=ae f0;have E1:=ae t1;have D1:=ae G0;have y1:=ae m0;have z1:=ae i2;have x1:=ae d1;have H0:=ae u;have HE:=ae hE;clear e0 K0 l0 m0 f0 t1 G0 N0 u0 y o0 hz i2 d1 u hE L0
      go_wp2_with fail
      generalize wr.alloc (X #[Y W b,R q 480 s] 179 (0,0))=w1 at z dW ⊢;generalize wr.heap.size=bw at *;have g1:=z.drew;have hA:=z.alloc (X #[Y .u32 J.ep,Y O J.st,Y O (J.sq+1),Y O J.sq,Y W (k:Int),Y W (n:Int),Y W b] 250 (0,0));have Z0:=hA.right.drew;have Y0:=(z.alloc (X #[Y .u32 0,Y O 0,Y O 0,Y O 0,Y W 0,Y W 0,Y W 0] 250 (0,0))).right.drew
      go_region_held3 (fun a=>ah a G) (first|(with_reducible exact z)|(with_reducible exact g1)|(with_reducible exact Y0)|(with_reducible exact Z0)) (fail)
      have i:ah (w1.alloc (X #[Y .u32 J.ep,Y O J.st,Y O (J.sq+1),Y O J.sq,Y W (k:Int),Y W (n:Int),Y W b] 250 (0,0))).drew _:=hA.drew;have dT:=(dW.alloc (X #[Y .u32 J.ep,Y O J.st,Y O (J.sq+1),Y O J.sq,Y W (k:Int),Y W (n:Int),Y W b] 250 (0,0))).drew;generalize (w1.alloc (X #[Y .u32 J.ep,Y O J.st,Y O (J.sq+1),Y O J.sq,Y W (k:Int),Y W (n:Int),Y W b] 250 (0,0))).drew=l at i dT ⊢;generalize w1.heap.size=C at i ⊢;clear hA Y0 Z0 g1 z dW g4 g5 g6 L1;have q0:l.cell? ⟨C,0,V⟩=U (Y .u32 J.ep):=i.cell 0;have q1:l.cell? ⟨C,1,V⟩=U (Y O J.st):=i.cell 1;have q2:l.cell? ⟨C,2,V⟩=U (Y O (J.sq+1)):=i.cell 2;have q3:l.cell? ⟨C,3,V⟩=U (Y O J.sq):=i.cell 3;have q4:l.cell? ⟨C,4,V⟩=U (Y W (k:Int)):=i.cell 4;have q5:l.cell? ⟨C,5,V⟩=U (Y W (n:Int)):=i.cell 5;have q6:l.cell? ⟨C,6,V⟩=U (Y W b):=i.cell 6;have qw:=V0 l i.right
      have s1:Rd l (R q 480 s) B:=by
        have hh:=i.right;rw [HB.o,S0.o] at hh;exact y1.o f (pt bw (X #[Y W b,R q 480 s] 179 (0,0))*(pt j (X (J.cells d r t) 184 (0,0))*(bC r (bW J.P)*(bG t J.T*aD f d (J.bg D Z k).2)))) l HE.o (hh.u00)
      have x0:=mQ E l1 D1.o (R q 480 s) B z1.o l s1;have j1:E.cells=#[Y .u32 J.ep,Y O J.st,Y O (J.sq+1),Y O J.sq,Y W (k:Int),Y W (n:Int),Y W b]:=by rw [H1.o];rfl
      rw [j1] at x0;clear j1 s1
      go_wp2_with fail
      apply x0.mono;rintro e w3 ⟨v3,rfl,h3,d3⟩;have H3:=(h3.under i).fT;have D3:=dT.trans d3;clear x0 h3 d3 i dT q0 q1 q2 q3 q4 q5 q6 qw V0;obtain ⟨K,P,rfl⟩:=az H3;rw [HB.o,S0.o] at H3
      have m:ah w3 (pt j (X (J.cells d r t) 184 (0,0))*(bC r (bW J.P)*(aD f d (J.bg D Z k).2*(al f*(bs 5 (R K (enc E++B).length P) (enc E++B)*(bG t J.T*F)))))):=
        ah.right (H3.t00 (pt bw (X #[Y W b,R q 480 s] 179 (0,0))*(pt j (X (J.cells d r t) 184 (0,0))*(bC r (bW J.P)*(aD f d (J.bg D Z k).2*(al f*(bs 5 (R K (enc E++B).length P) (enc E++B)*(bG t J.T*F))))))))
      clear H3;generalize enc E++B=L at m p ⊢
      have f1:L.length<=9223372036854775807:=by
        rcases m.aI.cH with ⟨_,u,_⟩|⟨g',S1,T1,hv,h5,h6,_⟩
        · omega
        · unfold maxLen at h6;omega
      have D0:=G1 w3.drew r (bW J.P) (J.hd+(k:Int)) _ m.aj.drew (by rw [aO];exact I.p0) (by rw [aO];have:=I.p1;omega);obtain ⟨kk,F0,p1⟩:=oN (J.hd+(k:Int)) I.p0;rw [aO,F0,E3,yG p1,<- F0] at D0
      have W1:IntKind.i64.wrap (J.hd+(k:Int))=J.hd+(k:Int):=by
        have:=I.Bf;have:=I.xL;have:=I.p1;rw [IntKind.wrap_i64];omega
      have v1:∀ a,ah a (pt j (X (J.cells d r t) 184 (0,0))*(bC r (bW J.P)*(aD f d (J.bg D Z k).2*(al f*(bs 5 (R K L.length P) L*(bG t J.T*F)))))) ->
          Calls N 228 #[ax d,Y W ((J.hd+(k:Int))%(J.P:Int)+1),R K L.length P] a (iu f d ((J.bg D Z k).2.write ((J.hd+(k:Int))%(J.P:Int)+1) L).2 (Y W ((J.bg D Z k).2.write ((J.hd+(k:Int))%(J.P:Int)+1) L).1) (pt j (X (J.cells d r t) 184 (0,0))*(bC r (bW J.P)*(bs 5 (R K L.length P) L*(bG t J.T*F)))) a):=fun a h'=>
        oZ a f d (J.bg D Z k).2 _ _ L _ (h'.u00) x1.o h'.aI.mI (fun a2 D' M1=>M1.aI.mI) f1
      have h0:=ae v1;obtain ⟨k0,hR⟩:=Mn0 ((J.bg D Z k).2.write ((J.hd+(k:Int))%(J.P:Int)+1) L)
      rw [<- hR] at h0 p;clear v1 F0 p1 hR f1;generalize (J.hd+(k:Int))%(J.P:Int)+1=sec at *;have c0:w3.cell? ⟨j,0,V⟩=U (ax d):=m.cell 0;have c1:w3.cell? ⟨j,1,V⟩=U (ax r):=m.cell 1;have c7:w3.cell? ⟨j,7,V⟩=U (Y W J.hd):=m.cell 7;obtain ⟨rc,D'⟩:=k0;simp only at h0 p;have T0:=ae (ah.drew m);clear m
      go_wp2_with fail
      go_region_held3 (fun a=>a.cell? ⟨j,0,V⟩=U (ax d)/\a.cell? ⟨j,1,V⟩=U (ax r)/\a.cell? ⟨j,7,V⟩=U (Y W J.hd)) (first|(with_reducible exact ⟨a0,a1,a7⟩)|(with_reducible exact ⟨b0,b1,b7⟩)|exact ⟨c0,c1,c7⟩) (first
        | (go_at_call 236;(with_reducible apply D0.mono);rintro e w4 ⟨rfl,h4,d4⟩;have T:=h4.cU T0.o;have a0:w4.cell? ⟨j,0,V⟩=U (ax d):=T.cell 0;have a1:w4.cell? ⟨j,1,V⟩=U (ax r):=T.cell 1;have a7:w4.cell? ⟨j,7,V⟩=U (Y W J.hd):=T.cell 7;have u1:=h0.o w4 T)
        | (go_at_call 228;(with_reducible apply u1.mono);rintro e w5 ⟨H,E2,rfl,h5,d5⟩;have b0:w5.cell? ⟨j,0,V⟩=U (ax d):=h5.au.cell 0;have b1:w5.cell? ⟨j,1,V⟩=U (ax r):=h5.au.cell 1;have b7:w5.cell? ⟨j,7,V⟩=U (Y W J.hd):=h5.au.cell 7))
      have D5:=((D3.drew).trans d4).trans d5
      have H6:ah w5 (pt j (X (J.cells d r t) 184 (0,0))*(bC r (bW J.P)*(bG t J.T*(aD H d D'*(al H*F))))):=
        ah.right (h5.t00 (bs 5 (R K L.length P) L*(pt j (X (J.cells d r t) 184 (0,0))*(bC r (bW J.P)*(bG t J.T*(aD H d D'*(al H*F)))))))
      clear h4 d4 d5 h5 T T0 D0 h0 u1 a0 a1 a7 b0 b1 b7 c0 c1 c7 D3
      by_cases d0:rc=0
      · have Hq:=ae H6
        have p0:=ae D5;have r0:=ae (HE.o.trans E2);rw [if_pos d0] at p;subst d0;clear H6 D5 E2
        go_wp2
        go_roundw
        case rel=>exact ⟨k+1,H,Om0,by go_num,r0.o,by rw [p.o],by rw [p.o];exact Hq.o,p0.o⟩
        case measure=>simp [intOf];omega
      · have Y1:(rc == 0)=false:=by simpa using d0
        rw [if_neg d0] at p;have r1:(J.bg D Z (k+1)).1≠0:=by rw [p.o];show (2:Int)≠0;decide
        have hw:J.bg D Z n=(2,D'):=(E1.o r1).trans p.o;have m1:=Cs w5 j d J _ (ah.z7 (r:=r) (t:=t) H6);have Hw:=ae hw;have p0:=ae D5;have r0:=ae (HE.o.trans E2);clear hw r1 H6 D5 E2 d0
        go_wp2_with fail
        apply m1.mono;rintro e w6 ⟨rfl,h6,d6⟩;clear m1
        go_wp2
        go_ret
        refine ⟨H,r0.o,by rw [Hw.o];rfl,?_,p0.o.trans d6⟩;rw [Hw.o];exact h6
    · obtain rfl:k=n:=Om0
      have m:=ae e0;have W0:=ae u;clear e0 R1 u
      go_wp2
      go_ret
      refine ⟨f,hE,by rw [W0.o];rfl,?_,L0⟩;rw [if_pos W0.o];exact ah.z7 m.o
def Cc {l b:Nat} {a:Ending->Q->Prop} {n m:Nat} (h:RoundIn Fence.wide n P l b tmps assign body w a):RoundIn Fence.wide m P l b tmps assign body w a:=
 ⟨h.1,fun c d _=>h.2 c d (room_wide _)⟩
def ya {l k b:Nat} {a:Ending->Q->Prop} {n m:Nat} (h:RoundIn Fence.wide n P l b tmps assign body w a):RoundIn (Fence.wide.inRound k) m P l b tmps assign body w a:=
 Cc (n:=n) h
def na {F:Fence} {n:Nat} {d:Type} {C:(List d->ai)->Prop} {g:Operand} {E:Array Tmp} {s:Exit->Act->Q->Prop} {a:Act} {w w0:Q}
  (i0:F.round=V) (u:1<=n) {gf:Nat} {lb:Array Z'} (hg:a.eval g = .func (.func gf) #[] lb) (c0:F.fn gf) (eg:∀ L w,(callFunc gf L).run P w = .ok (.enter gf L) w)
  {m:ai} {T:d->Array Z'->ai} {S o:List d->Prop} (g0:oC C F (n-1) P gf lb m T S o)
  (f:d->Array Z'->Array Z') (A:List d->ai) (hC:∀ b0,C fun ys=>A ys*b0) (q:Code->List d->ai) (B:List d->d->ai) (G:ai)
  (hps:∀ x i h b,ah b (T x i*h)->i.size=E.size) (hs:ak w0 w) (h0:ah w (A []*(m*G)))
  (d0:∀ (l:Nat) (r:Loop) (e:List d) (x:d) (i:Array Z') (h:ai) (b:Q) (K:Act->Q->Prop),o (e++[x])->ak w0 b->ah b (A e*(T x i*(pt l (.loop r)*h))) ->
   (∀ j,ak w0 j->ah j (B e x*(pt l (.loop r)*h))->K { tmps:=f x a.tmps,defers:=[] } j) ->
   assign.wpIn (F.inRound l) (n-1-1) P (Exit.then K (fun _ _ _=>False)) { tmps:=(E.zip i).foldl (fun t (p,v)=>t.setIfInBounds p v) a.tmps,defers:=[] } b)
  (e0:∀ (l:Nat) (r:Loop) (e:List d) (x:d) (h:ai) (b:Q),o (e++[x])->ak w0 b->ah b (B e x*(pt l (.loop r)*h)) ->
   body.wpIn (F.inRound l) (n-1-1) P (wH w0 A q (e++[x]) (pt l (.loop r)*h)) { tmps:=f x a.tmps,defers:=[] } b)
  (f0:∀ (D:Nat) (ys:List d) (b:Q),S ys->ak w0 b->ah b (A ys*(m*(pt D (.deferred (U []))*G))) ->
   s .normal { a with defers:={ target:=.collected D,args:=#[] } :: a.defers } b)
  (k0:∀ (D:Nat) (c:Code) (ys:List d) (b:Q),o ys->ak w0 b->ah b (q c ys*(m*(pt D (.deferred (U []))*G))) ->
   c.wpIn F n P s { a with defers:={ target:=.collected D,args:=#[] } :: a.defers } b) :
  (Code.rangeFunc g E assign body).wpIn F n P s a w:=by
 refine tC i0 u hg c0 eg g0 A hC q (fun e x I=>fact (I={ tmps:=f x a.tmps,defers:=[] })*B e x) G hps hs h0 ?_ ?_ f0 k0
 .intro l r e x i h b K z y H hK
  exact d0 l r e x i h b K z y H fun j u h2=>hK _ j u ((ah.ao.2 ⟨rfl,h2⟩:ah j (fact _*_)).to (ar _ _ _).symm)
 .intro l r e x I h b z y H
  obtain ⟨rfl,H2⟩:=ah.ao.1 (H.to (ar _ _ _));exact e0 l r e x h b z y H2
def TL (p:Z') (n:Int) (w:Q) (e:Ending) (a:Q):Prop:=
 e = .returned (.func (.func 292) #[] #[M (U ⟨w.heap.size,0,V⟩),M (U ⟨w.heap.size+1,0,V⟩)]) /\
  a=(w.alloc (X #[p] 130 (0,0))).alloc (X #[Y W n] 3 (0,0))
def P5 (w:Q) (j:Nat) (n:Int):Calls N 232 #[ax j,Y W n] w (TL (ax j) n w):=by
 go_in
 go_wp2
 go_ret
 exact ⟨rfl,rfl⟩
def bO (T:Tb) (P first k:Nat):List (Int × Int):=((List.range k).map fun i=>(first+i)%P).filterMap fun p:Nat=>(told T.os (p:Int)).map fun a=>(a,(p:Int))
def rp (T:Tb) (P first k:Nat):bO T P first (k+1)=bO T P first k++(match told T.os (((first+k)%P:Nat):Int) with|some a=>[(a,(((first+k)%P:Nat):Int))]|none=>[]):=by
 unfold bO;rw [List.range_succ,D4,G3];congr 1
 cases h:told T.os (((first+k)%P:Nat):Int) with
 | none=>simp only [List.map_cons,List.map_nil,D8,h,Option.map_none,D9]
 | some a=>simp only [List.map_cons,List.map_nil,D8,h,Option.map_some,D9]
end Go.Proofs.Nn
namespace Go.Proofs.Nn
open RowKit SL
attribute [local go_sem] Oper.semAt_some
def iq (bj a j m:Nat):ai:=
 pt bj (X #[ax j] 130 (0,0))*pt a (X #[Y W (m:Int)] 3 (0,0))
def mf (T:Tb) (b:List Nat):List (Int × Int):=b.filterMap fun p:Nat=>(told T.os (p:Int)).map fun a=>(a,(p:Int))
def IL (T:Tb) (b:List Nat) (p:Nat):mf T (b++[p])=mf T b++(match told T.os (p:Int) with|some a=>[(a,(p:Int))]|none=>[]):=by
 unfold mf;rw [G3];congr 1
 cases h:told T.os (p:Int) with
 | none=>simp only [D8,h,Option.map_none,D9]
 | some a=>simp only [D8,h,Option.map_some,D9]
def tN (T:Tb) {a zs:List Nat} (h:a <+: zs):mf T a <+: mf T zs:=by
 obtain ⟨x,rfl⟩:=h;unfold mf;rw [G3];exact List.prefix_append _ _
def tD (T:Tb) (P first m:Nat):mf T (places P first m)=bO T P first m:=rfl
def Jr.tail (J:Jr):Nat:=((J.hd-J.us)%(J.P:Int)).toNat
def Ko (n:Nat) (bj a j d r t:Nat) (J:Jr) (m:Nat) (i:J.Ok) (hm:m<=J.P) :
  oC (Dt (j9 j d r t J)) Fence.wide n N 292 #[M (U ⟨bj,0,V⟩),M (U ⟨a,0,V⟩)] (iq bj a j m) CX
   (fun ys=>ys=bO J.T J.P (Jr.tail J) m) (fun ys=>ys <+: bO J.T J.P (Jr.tail J) m):=by
 rintro f _ Ax G w0 w ⟨A,rfl⟩ hY hs h0;replace h0:ah w ((j9 j d r t J*A [])*(iq bj a j m*G)):=h0;have z:ah w (pt j (X (J.cells d r t) 184 (0,0))*(bC r (bW J.P)*(bG t J.T*(pt bj (X #[ax j] 130 (0,0))*(pt a (X #[Y W (m:Int)] 3 (0,0))*(A []*G)))))):=h0.to (by unfold iq j9;ac_rfl);have cj:w.cell? ⟨bj,0,V⟩=U (ax j):=z.aC.cell 0;have cn:w.cell? ⟨a,0,V⟩=U (Y W (m:Int)):=z.aI.cell 0;have P:w.cell? ⟨j,1,V⟩=U (ax r):=z.cell 1;have c7:w.cell? ⟨j,7,V⟩=U (Y W J.hd):=z.cell 7;have c8:w.cell? ⟨j,8,V⟩=U (Y W J.us):=z.cell 8;have s:=z.alloc (X #[.func (.yield f) #[] #[]] 218 (0,0));refine (callsIn_wide (n:=n)).2 ((callsIn_wide (n:=9)).1 ?_);refine callsIn_of_wp_marks func292 rfl trivial ?_ rfl;simp only [ntmps292,List.size_toArray,D2,List.length_nil,Nat.reduceAdd,Nat.reduceSub,Array.replicate_succ,Array.replicate_zero,List.push_toArray,List.append_toArray,List.nil_append,List.cons_append]
 gi_wp2_with fail
 have ds:=hs.alloc (X #[.func (.yield f) #[] #[]] 218 (0,0));generalize K0:w.heap.size=o at s ⊢;have d0:(w.alloc (X #[.func (.yield f) #[] #[]] 218 (0,0))).cell? ⟨bj,0,V⟩=U (ax j):=bF _ _ _ _ cj;have g0:(w.alloc (X #[.func (.yield f) #[] #[]] 218 (0,0))).cell? ⟨a,0,V⟩=U (Y W (m:Int)):=bF _ _ _ _ cn;generalize w.alloc (X #[.func (.yield f) #[] #[]] 218 (0,0))=B at s ds d0 g0 ⊢;clear K0 P c7 c8 cj cn z h0 hs;have P:B.cell? ⟨j,1,V⟩=U (ax r):=s.aj.cell 1;have c7:B.cell? ⟨j,7,V⟩=U (Y W J.hd):=s.aj.cell 7;have c8:B.cell? ⟨j,8,V⟩=U (Y W J.us):=s.aj.cell 8
 have G0:IntKind.i64.wrap (-J.us)=-J.us:=by
  have:=i.uH;have:=i.LV;have:=i.p1;rw [IntKind.wrap_i64];omega
 have u0:=xE B.drew r (bW J.P) J.hd (-J.us) _ s.au.drew (by rw [aO];exact i.p0) (by rw [aO];have:=i.p1;omega);refine wpIn_wide.2 ?_
 go_region_held3 (fun v=>v.cell? ⟨bj,0,V⟩=U (ax j)/\v.cell? ⟨j,1,V⟩=U (ax r)/\v.cell? ⟨j,7,V⟩=U (Y W J.hd)/\v.cell? ⟨j,8,V⟩=U (Y W J.us)) (exact ⟨d0,P,c7,c8⟩) (first
  | (go_at_call 171;(with_reducible apply u0.mono);rintro e w2 ⟨rfl,rfl⟩))
 obtain ⟨h,k0,F0⟩:=oN (J.hd+-J.us) i.p0
 have p0:Jr.tail J=h:=by
  unfold Jr.tail;rw [show J.hd-J.us=J.hd+-J.us by omega,k0,E3]
 rw [aO,k0];have s0:ah B.drew.drew (bC r (bW J.P)*(pt o (X #[.func (.yield f) #[] #[]] 218 (0,0))*(pt j (X (J.cells d r t) 184 (0,0))*(bG t J.T*(pt bj (X #[ax j] 130 (0,0))*(pt a (X #[Y W (m:Int)] 3 (0,0))*(A []*G))))))):=(s.u00:ah B _)
 have i0:=Mc B.drew.drew r (bW J.P) (h:Int) m _ s0 (by rw [aO];exact i.p0) (by rw [aO];have:=i.p1;omega) (by rw [aO];exact hm);have x0:((h:Int)%((bW J.P).length:Int)).toNat=h:=by rw [aO,Int.emod_eq_of_lt Om0 Om0,E3]
 rw [x0] at i0;clear u0 x0 s0 k0 G0
 gi_wp2_with fail
 refine wpIn_wide.2 ?_
 go_region_held3 (fun v=>v.cell? ⟨bj,0,V⟩=U (ax j)/\v.cell? ⟨j,1,V⟩=U (ax r)/\v.cell? ⟨a,0,V⟩=U (Y W (m:Int))) (first|(with_reducible exact ⟨a0,a1,a2⟩)|exact ⟨d0,P,g0⟩) (first
  | (go_at_call 293;(with_reducible apply i0.mono);rintro e w2 ⟨K,I,L,rfl,T,d2⟩;have a0:w2.cell? ⟨bj,0,V⟩=U (ax j):=T.et.cell 0;have a1:w2.cell? ⟨j,1,V⟩=U (ax r):=T.aC.cell 1;have a2:w2.cell? ⟨a,0,V⟩=U (Y W (m:Int)):=T.eN.cell 0))
 have hE:ah w2 ((bC r (bW J.P)*(A (mf J.T [])*(pt o (X #[.func (.yield f) #[] #[]] 218 (0,0))*(pt j (X (J.cells d r t) 184 (0,0))*(bG t J.T*(pt bj (X #[ax j] 130 (0,0))*pt a (X #[Y W (m:Int)] 3 (0,0))))))))*(kJ K I L r m h*G)):=T.to (by unfold mf;simp only [D9];ac_rfl);have S:=(ds.drew.drew).trans d2;clear a0 a1 a2 i0 T d2 d0 g0 P c7 c8 s ds
 gi_wp2_with fail
 refine na (w0:=w0) rfl De0 (gf:=317) (lb:=#[M (U ⟨K,0,V⟩),M (U ⟨I,0,V⟩),M (U ⟨L,0,V⟩)]) rfl trivial (enters func317 Kr0 rfl)
  (IM _ K I L r (bW J.P) m h (by rw [aO];exact i.p0) (by rw [aO];have:=i.p1;omega) (by rw [aO];exact hm) (by rw [aO];exact F0))
  (fun x tt=>((tt.setIfInBounds 29 (Y W (x:Int))).setIfInBounds 30 (Y W ((bW J.P).getD x 0))).setIfInBounds 5 (Y W (x:Int)))
  (fun ys=>bC r (bW J.P)*(A (mf J.T ys)*(pt o (X #[.func (.yield f) #[] #[]] 218 (0,0))*(pt j (X (J.cells d r t) 184 (0,0))*(bG t J.T*(pt bj (X #[ax j] 130 (0,0))*pt a (X #[Y W (m:Int)] 3 (0,0)))))))) (fun D0=>xK (BL _ _) D0)
  (fun c ys=>fact (c = .ret)*(Ax (mf J.T ys)*(pt o (X #[.func (.yield f) #[] #[]] 218 (0,0))*(pt bj (X #[ax j] 130 (0,0))*pt a (X #[Y W (m:Int)] 3 (0,0))))))
  (fun F x=>bC r (bW J.P)*(A (mf J.T F)*(pt o (X #[.func (.yield f) #[] #[]] 218 (0,0))*(pt j (X (J.cells d r t) 184 (0,0))*(bG t J.T*(pt bj (X #[ax j] 130 (0,0))*pt a (X #[Y W (m:Int)] 3 (0,0)))))))) G ?hps S hE ?assign ?body ?done ?stop
 case hps=>
  intro x vs Fr g q0;unfold Bn at q0;obtain ⟨rfl,_⟩:=ah.ao.1 q0
  rfl
 case assign=>
  intro l rr F x vs Fr g L0 _ u H hK;have b:=H.aj;unfold Bn at b;obtain ⟨rfl,C⟩:=ah.ao.1 b;clear H b
  gi_wp2
  exact hK _ u C
 case done=>
  intro y ys g hS u H;subst hS
  have b:ah g (pt y (.deferred (U []))*((j9 j d r t J*A (mf J.T (places (bW J.P).length h m)))*(iq bj a j m*G))):=by
   unfold kJ at H;have:=(H.to (by unfold iq j9;ac_rfl:_=pt o (X #[.func (.yield f) #[] #[]] 218 (0,0))*(pt K (X #[Y W (m:Int)] 3 (0,0))*(pt I (X #[M (U ⟨r,0,V⟩)] 181 (0,0))*(pt L (X #[Y W (h:Int)] 3 (0,0))*(pt y (.deferred (U []))*((j9 j d r t J*A (mf J.T (places (bW J.P).length h m)))*(iq bj a j m*G))))))))
   exact this.right.right.right.right
  have hK:=b.heap;have C:=(b.putObj (.deferred V)).right;have e:mf J.T (places (bW J.P).length h m)=bO J.T J.P (Jr.tail J) m:=by rw [aO,p0];rfl
  rw [e] at C;have o0:=u.putObj y (.deferred V);clear H b hE S
  gi_wp2
  refine ⟨Si0,.inl ⟨_,_,rfl,run_takeDeferred hK,?_⟩⟩;exact ⟨_,results_none rfl _ _ _,⟨_,rfl⟩,o0,.inl ⟨_,rfl,C⟩⟩
 case stop=>
  intro y c ys g e0 u H0;obtain ⟨rfl,H⟩:=ah.ao.1 (H0.to (ar _ _ _));clear H0
  have b:ah g (pt y (.deferred (U []))*(Ax (mf J.T ys)*(iq bj a j m*G))):=by
   unfold kJ at H;have:=(H.to (by unfold iq;ac_rfl:_=pt o (X #[.func (.yield f) #[] #[]] 218 (0,0))*(pt K (X #[Y W (m:Int)] 3 (0,0))*(pt I (X #[M (U ⟨r,0,V⟩)] 181 (0,0))*(pt L (X #[Y W (h:Int)] 3 (0,0))*(pt y (.deferred (U []))*(Ax (mf J.T ys)*(iq bj a j m*G))))))))
   exact this.right.right.right.right
  have hK:=b.heap;have C:=(b.putObj (.deferred V)).right
  have hp:mf J.T ys <+: bO J.T J.P (Jr.tail J) m:=by
   have:=tN J.T e0;rw [aO,tD] at this;rw [p0];exact this
  have o0:=u.putObj y (.deferred V);clear H b hE S e0
  gi_wp2
  refine ⟨Si0,.inl ⟨_,_,rfl,run_takeDeferred hK,?_⟩⟩;exact ⟨_,results_none rfl _ _ _,⟨_,rfl⟩,o0,.inr ⟨_,hp,C⟩⟩
 case body=>
  intro l rr F p Fr g e0 u H;have b0:=tN J.T e0;rw [aO,tD,<- p0] at b0;have q:=IL J.T F p;have b:ah g (pt j (X (J.cells d r t) 184 (0,0))*(pt bj (X #[ax j] 130 (0,0))*(bG t J.T*(pt o (X #[.func (.yield f) #[] #[]] 218 (0,0))*(A (mf J.T F)*(pt a (X #[Y W (m:Int)] 3 (0,0))*(bC r (bW J.P)*(pt l (.loop rr)*Fr)))))))):=H.u00;have k2:g.cell? ⟨j,2,V⟩=U (ax t):=b.cell 2;have kj:g.cell? ⟨bj,0,V⟩=U (ax j):=b.aj.cell 0;have ky:g.cell? ⟨o,0,V⟩=U (.func (.yield f) #[] #[]):=b.aC.cell 0;have E:=LH g t J.T (p:Int) _ b.au;simp only [List.setIfInBounds_toArray,List.set_cons_succ,List.set_cons_zero]
  match f0:told J.T.os (p:Int) with
  | none=>
   rw [f0] at E q;simp only [List.append_nil] at q;have c0:=ae q;clear q f0 b0 b hE S
   gi_wp2_with fail
   refine sF E ?_;rintro e w3 ⟨rfl,rfl⟩;unfold qR;clear E
   gi_wp2
   refine ⟨fun R0 hf=>(by cases hf),?_⟩
   gi_wp2
   refine ⟨u,?_⟩;dsimp only;rw [c0.o];exact H
  | some id=>
   rw [f0] at E q;simp only at q;rw [q] at b0
   have r0:ah g ((j9 j d r t J*A (mf J.T F))*(CX (id,(p:Int)) #[Y W id,Y W (p:Int)]*(pt o (X #[.func (.yield f) #[] #[]] 218 (0,0))*(pt bj (X #[ax j] 130 (0,0))*(pt a (X #[Y W (m:Int)] 3 (0,0))*(pt l (.loop rr)*Fr)))))):=
    (ah.ao.2 ⟨rfl,H⟩:ah g (fact _*_)).to (by unfold CX j9;ac_rfl)
   obtain ⟨fn,S0,assign,N0,hy,hR⟩:=hY _ (id,(p:Int)) #[Y W id,Y W (p:Int)] _ g b0 u r0;have c0:=ae q;clear q f0 b0 b hE S r0 H
   gi_wp2_with fail
   refine sF E ?_;rintro e w3 ⟨rfl,rfl⟩;unfold qR;clear E
   gi_wp2
   apply (ya hR).mono;rintro e W' (⟨rfl,l0,m0⟩|⟨rfl,l0,m0⟩)
   .gi_wp2
    refine ⟨l0,?_⟩;dsimp only;rw [c0.o];exact m0.to (by unfold j9;ac_rfl)
   .gi_wp2
    refine ⟨l0,?_⟩;dsimp only;rw [c0.o];exact (ah.ao.2 ⟨rfl,m0⟩:ah W' (fact (Code.ret=Code.ret)*_)).u00
end Go.Proofs.Nn
namespace Go.SL
open RowKit
variable {own:KV}
abbrev Mv:=(Int × List (Int × List UInt8)) × Jr × aw
def Jr.cK (own:KV) (s:Mv) (x:Int × Int):Mv:=
 if s.1.1≠0 then s else if (aA own x.1).isSome then s else
  if (s.2.1.load s.2.2 x.1 x.2).1.1=0 then ((0,s.1.2++[(x.1,(s.2.1.load s.2.2 x.1 x.2).1.2)]),(s.2.1.load s.2.2 x.1 x.2).2)
  else (((s.2.1.load s.2.2 x.1 x.2).1.1,[]),(s.2.1.load s.2.2 x.1 x.2).2)
def Jr.bQ (J:Jr) (D:aw) (own:KV) (L:List (Int × Int)):Mv:=L.foldl (Jr.cK own) ((0,[]),J,D)
def Jr.Fm (J:Jr) (D:aw) (own:KV) (L:List (Int × Int)) (x:Int × Int):J.bQ D own (L++[x])=Jr.cK own (J.bQ D own L) x:=by
 simp [Jr.bQ]
def Jr.Ij {J:Jr} {D:aw} {id p:Int} (h:(J.load D id p).1.1=0):(J.load D id p).2.1=J:=by
 unfold Jr.load at h ⊢;simp only at h ⊢
 split
 .rename_i a
  rw [if_pos a] at h
  split
  .rename_i t b c
   rw [c] at h;simp only at h
   split
   .rfl
   .rename_i d;rw [if_neg d] at h;exact absurd h (show (2:Int)≠0 by decide)
  .rename_i c
   rw [c] at h;exact absurd h (show (2:Int)≠0 by decide)
 .rename_i a
  rw [if_neg a] at h;exact absurd h (show (2:Int)≠0 by decide)
def Jr.M9 (J:Jr) (D:aw) (a p:Int):(J.load D a p).2.2=(D.read (p%(J.P:Int)+1)).2:=by
 unfold Jr.load;simp only
 split
 .split
  .split <;> rfl
  .rfl
 .rfl
def Jr.vI (J:Jr) {D:aw} (h:D.Ok) (a p:Int):D.jK (J.load D a p).2.2 0:=by
 rw [Jr.M9];exact aw.Eu h _
def oL {b:KV} (I:Mv->Prop) (h:∀ s x,I s->I (Jr.cK b s x)):∀ (L:List (Int × Int)) (s:Mv),I s->I (L.foldl (Jr.cK b) s)
 | [],_,a=>a
 | x :: L,s,a=>oL I h L _ (h s x a)
def Jr.vP {J:Jr} {D:aw} {L:List (Int × Int)}:(J.bQ D own L).1.1=0->(J.bQ D own L).2.1=J:=by
 refine oL (fun s=>s.1.1=0->s.2.1=J) ?_ L _ (fun _=>rfl);intro s x d h;unfold Jr.cK at h ⊢
 split
 .rename_i a;rw [if_pos a] at h;exact d h
 .rename_i a
  rw [if_neg a] at h
  split
  .rename_i c;rw [if_pos c] at h;exact d h
  .rename_i c
   rw [if_neg c] at h
   split
   .rename_i b
    have:=d (by simpa using a);exact (Jr.Ij b).trans this
   .rename_i b;rw [if_neg b] at h;exact absurd h b
def Jr.uk (J:Jr) {D:aw} (b:D.Ok) (own:KV) (L:List (Int × Int)):D.jK (J.bQ D own L).2.2 0:=by
 refine oL (fun s=>D.jK s.2.2 0) ?_ L _ b.keeps;intro s x a;have c:=fun (d:Jr)=>a.trans (Jr.vI d (a.ok b (by have:=b.many;omega)) x.1 x.2);unfold Jr.cK
 split
 .exact a
 .split
  .exact a
  .split
   .exact c _
   .exact c _
def Jr.FA {J:Jr} {D:aw} {L a:List (Int × Int)} (h:(J.bQ D own L).1.1≠0) (c:L <+: a):J.bQ D own a=J.bQ D own L:=by
 obtain ⟨b,rfl⟩:=c;unfold Jr.bQ at h ⊢;rw [List.foldl_append];generalize L.foldl (Jr.cK own) ((0,[]),J,D)=s at h ⊢
 induction b with
 | nil=>rfl
 | cons x b d=>
  rw [E4];have:Jr.cK own s x=s:=by unfold Jr.cK;rw [if_pos h]
  rw [this];exact d
def Jr.yY {J:Jr} {D:aw}:∀ (L:List (Int × Int)),(J.bQ D own L).1.2.length<=L.length:=by
 intro L
 have:∀ (L:List (Int × Int)) (s:Mv),(L.foldl (Jr.cK own) s).1.2.length<=s.1.2.length+L.length:=by
  intro L
  induction L with
  | nil=>intro s;simp
  | cons x L a=>
   intro s;rw [E4];refine E5 (a _) ?_
   have:(Jr.cK own s x).1.2.length<=s.1.2.length+1:=by
    unfold Jr.cK
    split
    .omega
    .split
     .omega
     .split
      .simp
      .simp
   simp only [D2];omega
 have:=this L ((0,[]),J,D);simpa [Jr.bQ] using this
end Go.SL
namespace Go.Proofs.Nn
open RowKit SL
def lh (T:Tb) (P first k:Nat):(bO T P first k).length<=k:=by
 unfold bO;refine E5 (List.length_filterMap_le _ _) ?_;simp
def CA {l b:List UInt8} {t:Tg} (h:bH l=U (t,b)) (a:l.length=512):b.length=480:=by
 unfold bH at h
 split at h
 .injection h with h;injection h with _ h;rw [<- h,List.length_drop,a]
 .cases h
def rT {J:Jr} {D:aw} {id p:Int} (h:(J.load D id p).1.1=0):(J.load D id p).1.2.length=480:=by
 have e:=oh D (p%(J.P:Int)+1);unfold Jr.load at h ⊢;simp only at h ⊢
 split
 .rename_i a
  rw [if_pos a] at h
  split
  .rename_i t b c
   rw [c] at h;simp only at h
   split
   .exact CA c (e a)
   .rename_i d;rw [if_neg d] at h;exact absurd h (show (2:Int)≠0 by decide)
  .rename_i c
   rw [c] at h;exact absurd h (show (2:Int)≠0 by decide)
 .rename_i a
  rw [if_neg a] at h;exact absurd h (show (2:Int)≠0 by decide)
def Lx {J:Jr} {D:aw} {own:KV} {L:List (Int × Int)}:∀ x ∈ (J.bQ D own L).1.2,x.2.length=480:=by
 refine oL (fun s=>∀ x ∈ s.1.2,x.2.length=480) ?_ L _ Si0;intro s x a;unfold Jr.cK
 split
 .exact a
 .split
  .exact a
  .split
   .rename_i b
    intro y hy;rcases List.mem_append.1 hy with hy|hy
    .exact a y hy
    .rw [List.mem_singleton.1 hy];exact rT b
   .intro y hy;cases hy
end Go.Proofs.Nn

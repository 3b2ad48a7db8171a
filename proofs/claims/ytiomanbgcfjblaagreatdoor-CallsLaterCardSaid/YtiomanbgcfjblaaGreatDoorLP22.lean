/- Steps. -/
import Derived.Test.YtiomanbgcfjblaaGreatDoorLP21
import Derived.Test.YtiomanbgcfjblaaGreatDoorLP9
import Derived.BigQuiet
import Derived.Deep.QuietTactic
import Derived.Deep.DeepCutAuto
import Derived.Deep.CutBlock
import Derived.Deep.CutRange
set_option linter.all false
set_option maxRecDepth 99999
set_option maxHeartbeats 0
open Go.SL
open Go.Value renaming int->Z
open Go.IntKind renaming i64->Y
open Go.Obj renaming cells->X
namespace Go.Proofs.Su
open RowKit SL Proofs.Nn Proofs.Ba Proofs.Fs
def Xw (S:Hp) (d:Nat) (A:Int × List UInt8) (b:aw) (len:Int) (F:ai) (w:World) (e:Ending) (a:World):Prop:=
 (ah a (aD S d b*(al S*F))/\ak w a)/\(A.1=3->e = .panicked (P1 4))/\(A.1≠0->A.1≠3->e = .panicked (P1 2)) /\
 (A.1=0->∀ n P,dI A.2=some (n,P)->P=len-1->e = .returned (zM n P))/\(A.1=0->dI A.2=none->e = .panicked (P1 4))/\(A.1=0->∀ n P,dI A.2=some (n,P)->P≠len-1->e = .panicked (P1 4))
def zG (w:World) (S:Hp) (d:Nat) (D:aw) (F:ai) (h:ah w (aD S d D*(al S*F))) (hD:D.Ok) (hh:∀ u P,ah u (P*(aD S d (D.read 0).2*(al S*F)))->iZ u) (h0:(D.read 0).1.1=0->(D.read 0).1.2.length=512) (hl:(D.read 0).2.sec.length=D.sec.length) (u0:1<=D.sec.length/\D.sec.length<=20000) :
  Calls Tryz.prog 118 #[ax d] w (Xw S d (D.read 0).1 (D.read 0).2 D.sec.length F w):=by
 have U:=(ak.refl w).alloc (X #[Z Y 0,Z Y 0] 132 (0,0));have x:=h.alloc (X #[Z Y 0,Z Y 0] 132 (0,0));have K:=jx (w.alloc (X #[Z Y 0,Z Y 0] 132 (0,0))) S d D 0 (pt w.heap.size (X #[Z Y 0,Z Y 0] 132 (0,0))*F) (x.u00) hD;generalize D.read 0=s0 at *;obtain ⟨⟨c,l⟩,j⟩:=s0;dsimp only at *;generalize D.sec.length=len at *;have T:=ae hh;have O:=ae h0;have Hl:=ae hl;obtain ⟨D0,G0⟩:=u0;have F0:(1:Int)<=(len:Int):=Om0
 have H0:(len:Int)<=20000:=Om0
 clear h x hD hh h0 hl
 go_in
 go_wp2_with fail
 generalize w.alloc (X #[Z Y 0,Z Y 0] 132 (0,0))=w1 at K U ⊢;generalize w.heap.size=i at K ⊢
 (with_reducible apply K.mono)
 rintro e M ⟨r,rfl,y,d2⟩;have C:=U.trans d2;clear K U d2
 by_cases l0:c=3
 .subst l0
  have t:ah M (aD S d j*(al S*F)):=(y.t00 ((nL 5 (3,l) r*pt i (X #[Z Y 0,Z Y 0] 132 (0,0)))*(aD S d j*(al S*F)))).right;have q:=ae t;clear y t
  go_wp2_with fail
  refine ⟨rfl,⟨q.o,C⟩,fun _=>rfl,fun _ h=>absurd rfl h,fun h=>absurd h (show ¬ (3:Int)=0 by decide),fun h=>absurd h (show ¬ (3:Int)=0 by decide),fun h=>absurd h (show ¬ (3:Int)=0 by decide)⟩
 .by_cases J:c=0
  .subst J
   have I:=y.n9;have o0:=O.o rfl;have n0:=T.o M (bs 5 r l*pt i (X #[Z Y 0,Z Y 0] 132 (0,0))) (I.u00)
   obtain ⟨f,g,H,b0,c0⟩:∃ f g H:Int,(dI l=none->f=0/\g=0/\H=4)/\(∀ n P,dI l=some (n,P)->f=n/\g=P/\H=0):=by
    cases s:dI l with
    | none=>exact ⟨0,0,4,fun _=>⟨rfl,rfl,rfl⟩,fun n P h=>by cases h⟩
    | some p=>exact ⟨p.1,p.2,0,fun h=>(by cases h),fun n P h=>by cases h;exact ⟨rfl,rfl,rfl⟩⟩
   have m0:=Cw M r l I.mI o0 n0 f g H b0 c0;have Hb:=ae I;have Q:=ae b0;have R:=ae c0;clear y I o0 n0 b0 c0
   go_wp2_with fail
   (with_reducible apply m0.mono)
   rintro e w3 ⟨rfl,h3,d3⟩;have h4:=(h3.cU Hb.o).alloc (X #[Z Y f,Z Y g] 132 (0,0));have D4:=(C.trans d3).alloc (X #[Z Y f,Z Y g] 132 (0,0));have o:=ae h4;have A:=ae D4;unfold zM;clear m0 h3 d3 h4 D4 C Hb
   go_upto_region 7 with (fail)
   generalize w3.alloc (X #[Z Y f,Z Y g] 132 (0,0))=m at o A ⊢;generalize w3.heap.size=k at o ⊢;have t:ah m (aD S d j*(al S*F)):=(o.o.t00 ((pt k (X #[Z Y f,Z Y g] 132 (0,0))*(bs 5 r l*pt i (X #[Z Y 0,Z Y 0] 132 (0,0))))*(aD S d j*(al S*F)))).right;have q:=ae t;have q0:m.cell? ⟨k,0,none⟩=some (Z Y f):=o.o.cell 0;have B:m.cell? ⟨k,1,none⟩=some (Z Y g):=o.o.cell 1;clear t
   cases s:dI l with
   | none=>
    obtain ⟨rfl,rfl,rfl⟩:=Q.o s;have Hd:=ae s;clear Q R s o T O
    go_wp2_with fail
    go_quiet (fail)
    go_wp2_with fail
    exact ⟨rfl,⟨q.o.of_heap rfl,A.o.drewN _⟩,fun h=>absurd h (show ¬ (0:Int)=3 by decide),fun h=>absurd rfl h,fun _ n P h=>absurd (h.symm.trans Hd.o) Si0,fun _ _=>rfl,fun _ n P h=>absurd (h.symm.trans Hd.o) Si0⟩
   | some p=>
    obtain ⟨n,P⟩:=p;obtain ⟨e1,e2,rfl⟩:=R.o n P s;rw [<- e1,<- e2] at s;have Hd:=ae s;have L:=jw m.drew S d j (al S*F) q.o.drew;rw [Hl.o] at L;obtain ⟨N,V⟩:=Mn0 ((pt k (X #[Z Y f,Z Y g] 132 (0,0))*(bs 5 r l*(pt i (X #[Z Y 0,Z Y 0] 132 (0,0))*(aD S d j*(al S*F))))))
    have i0:ah m N:=by rw [V];exact o.o.u00
    have v:=ae i0;have d0:=ae V;clear Q R s o T O e1 e2 V i0;have p0:IntKind.i64.wrap ((len:Int)-1)=(len:Int)-1:=by rw [IntKind.wrap_i64];omega
    by_cases W:g=(len:Int)-1
    .subst W
     go_wp2_with fail
     go_region_held3 (fun u=>ah u N/\u.cell? ⟨k,1,none⟩=some (Z Y ((len:Int)-1))) (first|exact ⟨v.o,B⟩|exact ⟨v.o.drew,B⟩|assumption)
      (first|(go_at_call 155;apply (L).mono;rintro e w5 ⟨rfl,rfl⟩))
     have k0:(((len:Int)-1) != IntKind.i64.wrap ((len:Int)-1))=false:=by rw [p0];simp
     obtain rfl:=d0.o;have E:=v.o.drew;have q0:m.drew.cell? ⟨k,0,none⟩=some (Z Y f):=E.cell 0;have B:m.drew.cell? ⟨k,1,none⟩=some (Z Y ((len:Int)-1)):=E.cell 1;have G:=E.t00 (pt i (X #[Z Y 0,Z Y 0] 132 (0,0))*(bs 5 r l*(pt k (X #[Z Y f,Z Y ((len:Int)-1)] 132 (0,0))*(aD S d j*(al S*F)))));have g0:m.drew.cell? ⟨i,0,none⟩=some (Z Y 0):=G.cell 0;have g1:m.drew.cell? ⟨i,1,none⟩=some (Z Y 0):=G.cell 1;have z:=v.o.t00 (pt i (X #[Z Y 0,Z Y 0] 132 (0,0))*(bs 5 r l*(pt k (X #[Z Y f,Z Y ((len:Int)-1)] 132 (0,0))*(aD S d j*(al S*F)))));have f0:=z.frozen 0;have f1:=z.frozen 1;have x0:=z.cell 0;have x1:=z.cell 1;have HK:=ae ((G.setCell 0 (Z Y f)).setCell 1 (Z Y ((len:Int)-1)));have r0:=ae ((A.o.drew.setCell ⟨i,0,none⟩ (Z Y f)).setCell ⟨i,1,none⟩ (Z Y ((len:Int)-1)));clear L E G z v d0 q A k0
     go_wp2_with fail
     have e0:=HK.o;refine bodyPost_ret (results_cell_row rfl _ _ i 132 _ (0,0) _ rfl e0.heap Tryz.underlying132 rfl (rL _ rfl)) rfl ⟨⟨e0.right.right.right,r0.o⟩,fun h=>absurd h (show ¬ (0:Int)=3 by decide),fun h=>absurd rfl h,fun _ n P h _=>?_,fun _ h=>absurd (h.symm.trans Hd.o) Si0,fun _ n P h x=>?_⟩
     .have:=h.symm.trans Hd.o
      injection this with this;injection this with a b
      rw [a,b];rfl
     .have:=h.symm.trans Hd.o
      injection this with this;injection this with a b
      exact absurd (b) x
    .go_wp2_with fail
     go_region_held3 (fun u=>ah u N/\u.cell? ⟨k,1,none⟩=some (Z Y g)) (first|exact ⟨v.o,B⟩|exact ⟨v.o.drew,B⟩|assumption)
      (first|(go_at_call 155;apply (L).mono;rintro e w5 ⟨rfl,rfl⟩))
     have k0:(g != IntKind.i64.wrap ((len:Int)-1))=true:=by rw [p0];simpa using W
     go_wp2_with fail
     exact ⟨rfl,⟨q.o.drew,A.o.drew⟩,fun h=>absurd h (show ¬ (0:Int)=3 by decide),fun h=>absurd rfl h,fun _ n P h x=>(by
      have:=h.symm.trans Hd.o;injection this with this;injection this with a b
      exact absurd (b.symm.trans x) W),fun _ _=>rfl,fun _ n P h _=>rfl⟩
  .have t:ah M (aD S d j*(al S*F)):=(y.t00 ((nL 5 (c,l) r*pt i (X #[Z Y 0,Z Y 0] 132 (0,0)))*(aD S d j*(al S*F)))).right
   have q:=ae t;clear y t
   go_wp2_with fail
   refine ⟨rfl,⟨q.o,C⟩,fun h=>absurd h l0,fun _ _=>rfl,fun h=>absurd h J,fun h=>absurd h J,fun h=>absurd h J⟩
end Go.Proofs.Su

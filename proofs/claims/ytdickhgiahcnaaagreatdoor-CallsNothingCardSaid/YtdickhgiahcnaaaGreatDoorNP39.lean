/- Steps. -/
import Derived.Test.YtdickhgiahcnaaaGreatDoorNP38
import Derived.Test.YtdickhgiahcnaaaGreatDoorNP10
set_option linter.all false
set_option maxRecDepth 99999
set_option maxHeartbeats 0
open Go.SL
open Go.Value renaming int->Z
open Go.IntKind renaming i64->Y,u64->Z'
open Go.Obj renaming cells->X
namespace Go.Proofs.Su
open RowKit SL Proofs.Nn Proofs.Ba Proofs.Fs
def eN (s j d:Nat) (n P:Nat) (J:Jr):ai:=pt s (X #[az j,Z Y (n:Int),Z Y (P:Int)] 123 (0,0))*qq j d J
def tZ (d n P:Nat) (J:Jr) (w:World) (e:Ending) (a:World):Prop:=∃ s j,e = .returned (az s)/\ag a (eN s j d n P J*whole w)/\aj w a
def lY (w:World) (S:Hp) (d:Nat) (D:aB) (F:ai) (L:ag w (aR S d D*F)) (n P:Nat) (s:Js) (a:Value) (t:pP w a s.at_) (J:1<=P) (I:P<=20000) (K:P+1<=D.sec.length) (H:D.sec.length<=20000) (O:0<=s.sq) (Q:s.uP P) (hn:n<=3840) :
  Calls Tryz.prog 117 #[az d,OO n P,s.v a] w (tZ d n P (Jr.NF P s) w):=by
 obtain ⟨g,k,i,d0⟩:∃ g k i,a = .slice g k i:=by
  rcases t with ⟨_,_,rfl,h⟩|⟨e0,o,c,rfl,_⟩
  .exact ⟨_,_,_,rfl⟩
  .exact ⟨_,_,_,rfl⟩
 have b:=((ag.whole w).alloc (X #[Z Y (n:Int),Z Y (P:Int)] 117 (0,0))).alloc (X #[Z .u32 s.ep,Z Z' s.st,Z Z' s.sq,Z Y s.hd,Z Y s.us,a] 168 (0,0));have q:=((aj.refl w).alloc (X #[Z Y (n:Int),Z Y (P:Int)] 117 (0,0))).alloc (X #[Z .u32 s.ep,Z Z' s.st,Z Z' s.sq,Z Y s.hd,Z Y s.us,a] 168 (0,0));rw [World.size_alloc] at b;have M:=fun (e:World) (V:ai) (h:ag e (V*whole w))=>KX e S d D _ ((h.under L).right) P s a (t.under h) J I K H O Q;have R:=fun w=>CZ w;have A:=ae M;clear L t J I K H O Q M;subst d0;unfold OO Js.v at *
 go_in
 go_wp2_with fail
 generalize ((w.alloc (X #[Z Y (n:Int),Z Y (P:Int)] 117 (0,0))).alloc (X #[Z .u32 s.ep,Z Z' s.st,Z Z' s.sq,Z Y s.hd,Z Y s.us,.slice g k i] 168 (0,0)))=e at b q ⊢;generalize w.heap.size+1=f at b ⊢;generalize w.heap.size=l at b ⊢;have r:ag e ((pt f (X #[Z .u32 s.ep,Z Z' s.st,Z Z' s.sq,Z Y s.hd,Z Y s.us,.slice g k i] 168 (0,0))*pt l (X #[Z Y (n:Int),Z Y (P:Int)] 117 (0,0)))*whole w):=b.u00;have N:=A.o e _ r;have c0:e.cell? ⟨f,0,none⟩=some (Z .u32 s.ep):=b.cell 0;have c1:e.cell? ⟨f,1,none⟩=some (Z Z' s.st):=b.cell 1;have c2:e.cell? ⟨f,2,none⟩=some (Z Z' s.sq):=b.cell 2;have c3:e.cell? ⟨f,3,none⟩=some (Z Y s.hd):=b.cell 3;have c4:e.cell? ⟨f,4,none⟩=some (Z Y s.us):=b.cell 4;have c5:e.cell? ⟨f,5,none⟩=some (.slice g k i):=b.cell 5;have W:e.cell? ⟨l,0,none⟩=some (Z Y (n:Int)):=b.ah.cell 0;have b1:e.cell? ⟨l,1,none⟩=some (Z Y (P:Int)):=b.ah.cell 1;have x:=ae r;clear b r A
 go_wp2_with fail
 (with_reducible apply N.mono)
 rintro b0 m ⟨j,rfl,E,B⟩;have p:=E.under x.o;have v:=q.trans B;have u:ag m (pt l (X #[Z Y (n:Int),Z Y (P:Int)] 117 (0,0))*(pt f (X #[Z .u32 s.ep,Z Z' s.st,Z Z' s.sq,Z Y s.hd,Z Y s.us,.slice g k i] 168 (0,0))*(qq j d (Jr.NF P s)*whole w))):=p.u00;have g0:m.cell? ⟨l,0,none⟩=some (Z Y (n:Int)):=u.cell 0;have g1:m.cell? ⟨l,1,none⟩=some (Z Y (P:Int)):=u.cell 1;have hy:=R m;have z:=ae p;have y:=ae v;clear N E B q u x p v R c0 c1 c2 c3 c4 c5 W b1
 go_wp2_with fail
 (with_reducible apply hy.mono)
 rintro b0 w3 ⟨rfl,rfl⟩;have G:=(z.o).alloc (X #[az j,Z Y (n:Int),Z Y (P:Int)] 123 (0,0));have C:=y.o.alloc (X #[az j,Z Y (n:Int),Z Y (P:Int)] 123 (0,0));have U:=ae G;have T:=ae C;clear hy G C z y
 go_wp2_with fail
 go_ret
 refine ⟨_,j,rfl,?_,T.o⟩;unfold eN;exact (U.o.t00 ((pt f (X #[Z .u32 s.ep,Z Z' s.st,Z Z' s.sq,Z Y s.hd,Z Y s.us,.slice g k i] 168 (0,0))*pt l (X #[Z Y (n:Int),Z Y (P:Int)] 117 (0,0)))*((pt m.heap.size (X #[az j,Z Y (n:Int),Z Y (P:Int)] 123 (0,0))*qq j d (Jr.NF P s))*whole w))).right
def Gt (S:Hp) (s j d n P:Nat) (R:Int × Jr × aB) (F:ai) (w:World) (e:Ending) (a:World):Prop:=
 e = .returned (Z Y R.1)/\ag a (eN s j d n P R.2.1*(aR S d R.2.2*F))/\aj w a
def OK (w:World) (S:Hp) (s j d n P:Nat) (J:Jr) (D:aB) (F:ai) (h:ag w (eN s j d n P J*(aR S d D*F))) (i:D.Ok) :
  Calls Tryz.prog 121 #[az s] w (Gt S s j d n P (J.flush D) F w):=by
 unfold eN Gt eN at *;have k:w.cell? ⟨s,0,none⟩=some (az j):=(h.to (ay _ _ _)).cell 0;have c:=wT w S j d J D _ (h.t00 (qq j d J*(aR S d D*(pt s (X #[az j,Z Y (n:Int),Z Y (P:Int)] 123 (0,0))*F)))) i;clear h
 go_in
 go_wp2_with fail
 (with_reducible apply c.mono)
 rintro e l ⟨rfl,b,a⟩;have g:=ae b;have f:=ae a;clear c b a
 go_wp2_with fail
 go_ret
 exact ⟨rfl,g.o.u00,f.o⟩
def Us (n P:Nat) (w:World) (e:Ending) (a:World):Prop:=e = .returned (OO n P)/\ag a (whole w)/\aj w a
def Nj (w:World) (s j d n P:Nat) (J:Jr) (F:ai) (h:ag w (eN s j d n P J*F)) :
  Calls Tryz.prog 70 #[az s] w (Us n P w):=by
 unfold eN at *;have a:=h.to (ay _ _ _);have e:w.cell? ⟨s,1,none⟩=some (Z Y (n:Int)):=a.cell 1;have f:w.cell? ⟨s,2,none⟩=some (Z Y (P:Int)):=a.cell 2;have g:s<w.heap.size:=a.lt;have b:=(ag.whole w).alloc (X #[Z Y (n:Int),Z Y (P:Int)] 117 (0,0));have c:=(aj.refl w).alloc (X #[Z Y (n:Int),Z Y (P:Int)] 117 (0,0));clear h a
 go_in
 go_wp2_with fail
 refine bodyPost_ret (results_cell_row rfl _ _ _ 117 _ (0,0) _ rfl b.heap Tryz.underlying117 rfl (Oj _ rfl)) rfl ⟨rfl,b.right,c⟩
end Go.Proofs.Su

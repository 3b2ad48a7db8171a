/- Steps. -/
import Derived.Test.YtiomanbgcfjblaaGreatDoorLP22
import Derived.Test.YtiomanbgcfjblaaGreatDoorLP10
set_option linter.all false
set_option maxRecDepth 99999
set_option maxHeartbeats 0
open Go.SL
open Go.Value renaming int->Z,pointer->X'
open Go.IntKind renaming i64->Y,u64->W'
open Go.Obj renaming cells->X
open Go renaming World->Z'
open Go.Proofs.Tryz renaming prog->Y'
open Option renaming some->W,none->V
open Go.Proofs.Tryz
namespace Go.Proofs.Su
open RowKit SL Proofs.Nn Proofs.Ba Proofs.Fs
variable {w:Z'} {tmps:Array Value} {a b:Nat} {e x:Value}
def dz (s j d:Nat) (n P:Nat) (J:Jr):ai:=pt s (X #[ax j,Z Y (n:Int),Z Y (P:Int)] 134 (0,0))*nA j d J
def tL (d n P:Nat) (J:Jr) (w:Z') (e:Ending) (a:Z'):Prop:=∃ s j,e = .returned (ax s)/\ah a (dz s j d n P J*whole w)/\ak w a
def kE (w:Z') (S:Hp) (d:Nat) (D:aw) (F:ai) (L:ah w (aD S d D*F)) (n P:Nat) (s:Js) (a:Value) (t:pL w a s.at_) (J:1<=P) (I:P<=20000) (K:P+1<=D.sec.length) (H:D.sec.length<=20000) (O:0<=s.sq) (Q:s.rf P) (hn:n<=3840) :
  Calls Y' 121 #[ax d,zM n P,s.v a] w (tL d n P (Jr.px P s) w):=by
 obtain ⟨g,k,i,f0⟩:∃ g k i,a = .slice g k i:=by
  rcases t with ⟨_,_,rfl,h⟩|⟨h0,o,c,rfl,_⟩
  .exact ⟨_,_,_,rfl⟩
  .exact ⟨_,_,_,rfl⟩
 have b:=((ah.whole w).alloc (X #[Z Y (n:Int),Z Y (P:Int)] 132 (0,0))).alloc (X #[Z .u32 s.ep,Z W' s.st,Z W' s.sq,Z Y s.hd,Z Y s.us,a] 173 (0,0));have q:=((ak.refl w).alloc (X #[Z Y (n:Int),Z Y (P:Int)] 132 (0,0))).alloc (X #[Z .u32 s.ep,Z W' s.st,Z W' s.sq,Z Y s.hd,Z Y s.us,a] 173 (0,0));rw [World.size_alloc] at b;have M:=fun (e:Z') (d0:ai) (h:ah e (d0*whole w))=>Py e S d D _ ((h.under L).right) P s a (t.under h) J I K H O Q;have R:=fun w=>rq w;have A:=ae M;clear L t J I K H O Q M;subst f0;unfold zM Js.v at *
 go_in
 go_wp2_with fail
 generalize ((w.alloc (X #[Z Y (n:Int),Z Y (P:Int)] 132 (0,0))).alloc (X #[Z .u32 s.ep,Z W' s.st,Z W' s.sq,Z Y s.hd,Z Y s.us,.slice g k i] 173 (0,0)))=e at b q ⊢;generalize w.heap.size+1=f at b ⊢;generalize w.heap.size=l at b ⊢;have r:ah e ((pt f (X #[Z .u32 s.ep,Z W' s.st,Z W' s.sq,Z Y s.hd,Z Y s.us,.slice g k i] 173 (0,0))*pt l (X #[Z Y (n:Int),Z Y (P:Int)] 132 (0,0)))*whole w):=b.u00;have N:=A.o e _ r;have c0:e.cell? ⟨f,0,V⟩=W (Z .u32 s.ep):=b.cell 0;have c1:e.cell? ⟨f,1,V⟩=W (Z W' s.st):=b.cell 1;have c2:e.cell? ⟨f,2,V⟩=W (Z W' s.sq):=b.cell 2;have c3:e.cell? ⟨f,3,V⟩=W (Z Y s.hd):=b.cell 3;have c4:e.cell? ⟨f,4,V⟩=W (Z Y s.us):=b.cell 4;have c5:e.cell? ⟨f,5,V⟩=W (.slice g k i):=b.cell 5;have b0:e.cell? ⟨l,0,V⟩=W (Z Y (n:Int)):=b.aj.cell 0;have b1:e.cell? ⟨l,1,V⟩=W (Z Y (P:Int)):=b.aj.cell 1;have x:=ae r;clear b r A
 go_wp2_with fail
 (with_reducible apply N.mono)
 rintro e0 m ⟨j,rfl,E,B⟩;have p:=E.under x.o;have v:=q.trans B;have u:ah m (pt l (X #[Z Y (n:Int),Z Y (P:Int)] 132 (0,0))*(pt f (X #[Z .u32 s.ep,Z W' s.st,Z W' s.sq,Z Y s.hd,Z Y s.us,.slice g k i] 173 (0,0))*(nA j d (Jr.px P s)*whole w))):=p.u00;have g0:m.cell? ⟨l,0,V⟩=W (Z Y (n:Int)):=u.cell 0;have g1:m.cell? ⟨l,1,V⟩=W (Z Y (P:Int)):=u.cell 1;have hy:=R m;have z:=ae p;have y:=ae v;clear N E B q u x p v R c0 c1 c2 c3 c4 c5 b0 b1
 go_wp2_with fail
 (with_reducible apply hy.mono)
 rintro e0 w3 ⟨rfl,rfl⟩;have G:=(z.o).alloc (X #[ax j,Z Y (n:Int),Z Y (P:Int)] 134 (0,0));have C:=y.o.alloc (X #[ax j,Z Y (n:Int),Z Y (P:Int)] 134 (0,0));have U:=ae G;have T:=ae C;clear hy G C z y
 go_wp2_with fail
 go_ret
 refine ⟨_,j,rfl,?_,T.o⟩;unfold dz;exact (U.o.t00 ((pt f (X #[Z .u32 s.ep,Z W' s.st,Z W' s.sq,Z Y s.hd,Z Y s.us,.slice g k i] 173 (0,0))*pt l (X #[Z Y (n:Int),Z Y (P:Int)] 132 (0,0)))*((pt m.heap.size (X #[ax j,Z Y (n:Int),Z Y (P:Int)] 134 (0,0))*nA j d (Jr.px P s))*whole w))).right
def Gq (S:Hp) (s j d n P:Nat) (R:Int × Jr × aw) (F:ai) (w:Z') (e:Ending) (a:Z'):Prop:=
 e = .returned (Z Y R.1)/\ah a (dz s j d n P R.2.1*(aD S d R.2.2*F))/\ak w a
def Cf (w:Z') (S:Hp) (s j d n P:Nat) (J:Jr) (D:aw) (F:ai) (h:ah w (dz s j d n P J*(aD S d D*F))) (i:D.Ok) :
  Calls Y' 57 #[ax s] w (Gq S s j d n P (J.flush D) F w):=by
 unfold dz Gq dz at *;have k:w.cell? ⟨s,0,V⟩=W (ax j):=(h.to (ar _ _ _)).cell 0;have c:=xk w S j d J D _ (h.t00 (nA j d J*(aD S d D*(pt s (X #[ax j,Z Y (n:Int),Z Y (P:Int)] 134 (0,0))*F)))) i;clear h
 go_in
 go_wp2_with fail
 (with_reducible apply c.mono)
 rintro e l ⟨rfl,b,a⟩;have g:=ae b;have f:=ae a;clear c b a
 go_wp2_with fail
 go_ret
 exact ⟨rfl,g.o.u00,f.o⟩
def V5 (n P:Nat) (w:Z') (e:Ending) (a:Z'):Prop:=e = .returned (zM n P)/\ah a (whole w)/\ak w a
def OM (w:Z') (s j d n P:Nat) (J:Jr) (F:ai) (h:ah w (dz s j d n P J*F)) :
  Calls Y' 91 #[ax s] w (V5 n P w):=by
 unfold dz at *;have a:=h.to (ar _ _ _);have e:w.cell? ⟨s,1,V⟩=W (Z Y (n:Int)):=a.cell 1;have f:w.cell? ⟨s,2,V⟩=W (Z Y (P:Int)):=a.cell 2;have g:s<w.heap.size:=a.lt;have b:=(ah.whole w).alloc (X #[Z Y (n:Int),Z Y (P:Int)] 132 (0,0));have c:=(ak.refl w).alloc (X #[Z Y (n:Int),Z Y (P:Int)] 132 (0,0));clear h a
 go_in
 go_wp2_with fail
 refine bodyPost_ret (results_cell_row rfl _ _ _ 132 _ (0,0) _ rfl b.heap underlying132 rfl (rL _ rfl)) rfl ⟨rfl,b.right,c⟩
def LW (w:Z') (c d:Addr) :
    CallsD Y' 114 #[X' (W c),X' (W d)] .returning w fun e u f=>e = .returned (.tuple #[])/\u = .returning/\w=f:=by
  refine callsD_of_wpS func114 rfl fun a g b=>?_;apply wpS_seq;apply wpS_region
  simp only [ntmps114,List.size_toArray,List.length_cons,List.length_nil,Nat.reduceAdd,Nat.reduceSub,Array.replicate_succ,
     Array.replicate_zero,List.push_toArray,List.append_toArray,List.nil_append,List.cons_append]
  simp [wpOpsS,go_sem,recoverD,b,Exit.thenS];refine wpS_of_wp ?_
  go_wp2
  cases a
  simp_all [bodyPostS,results,Tryz.results114]
def BK (c:tmps[2]?=W (ax a)) (d:tmps[3]?=W (ax b)) (f:w.cell? ⟨a,0,V⟩=W x) (g:w.cell? ⟨b,0,V⟩=W e) :
  (results Tryz.f61 tmps).run Y' w = .ok (.tuple #[x,e]) w:=by
 simp [results,Tryz.results61,go_sem,c,d,f,g]
def IU {R:Ending->Z'->Prop} (c:tmps[2]?=W (ax a)) (d:tmps[3]?=W (ax b))
  (g:w.cell? ⟨a,0,V⟩=W x) (h:w.cell? ⟨b,0,V⟩=W e) (f:R (.returned (.tuple #[x,e])) w) :
  bodyPostD Y' Tryz.f61 R Exit.ret { tmps:=tmps,defers:=[{ target:=.fn (.func 114) #[X' (W ⟨a,0,V⟩),X' (W ⟨b,0,V⟩)],args:=#[] }] } w:=by
 refine leaves_cons (f:=114) (args:=#[X' (W ⟨a,0,V⟩),X' (W ⟨b,0,V⟩)]) Si0 (by simp [go_sem]) ?_;apply (LW w ⟨a,0,V⟩ ⟨b,0,V⟩).mono;rintro i u j ⟨rfl,rfl,rfl⟩;exact ⟨_,BK c d g h,f⟩
end Go.Proofs.Su

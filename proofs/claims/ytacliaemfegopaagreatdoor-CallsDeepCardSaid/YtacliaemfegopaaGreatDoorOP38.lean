/- Steps. -/
import Derived.Test.YtacliaemfegopaaGreatDoorOP37
import Derived.Test.YtacliaemfegopaaGreatDoorOP10
set_option linter.all false
set_option maxRecDepth 99999
set_option maxHeartbeats 0
open Go.SL
open Go.Value renaming int->Z
open Go.Obj renaming cells->Y
open Go.Proofs.Tryz
namespace Go.Proofs.Su
open Go.RowKit Go.SL Go.Proofs.Nn Go.Proofs.Ba Go.Proofs.Fs
def eE (s j d:Nat) (n P:Nat) (J:Jr):ai:=pt s (Y #[ay j,Z .i64 (n:Int),Z .i64 (P:Int)] 125 (0,0))*pC j d J
def vV (d n P:Nat) (J:Jr) (w:World) (e:Ending) (a:World):Prop:=∃ s j,e = .returned (ay s)/\ag a (eE s j d n P J*whole w)/\aj w a
theorem nO (w:World) (S:Hp) (d:Nat) (D:aB) (F:ai) (J:ag w (aT S d D*F)) (n P:Nat) (s:Js) (a:Value) (q:oT w a s.at_) (H:1<=P) (G:P<=20000) (I:P+1<=D.sec.length) (E:D.sec.length<=20000) (M:0<=s.sq) (N:s.uR P) (hn:n<=3840) :
  Calls prog 116 #[ay d,Nl n P,s.v a] w (vV d n P (Jr.MR P s) w):=by
 obtain ⟨f,i,g,c0⟩:∃ f i g,a = .slice f i g:=by
  rcases q with ⟨_,_,rfl,h⟩|⟨e0,f0,d0,rfl,_⟩
  .exact ⟨_,_,_,rfl⟩
  .exact ⟨_,_,_,rfl⟩
 have b:=((ag.whole w).alloc (Y #[Z .i64 (n:Int),Z .i64 (P:Int)] 119 (0,0))).alloc (Y #[Z .u32 s.ep,Z .u64 s.st,Z .u64 s.sq,Z .i64 s.hd,Z .i64 s.us,a] 168 (0,0));have o:=((aj.refl w).alloc (Y #[Z .i64 (n:Int),Z .i64 (P:Int)] 119 (0,0))).alloc (Y #[Z .u32 s.ep,Z .u64 s.st,Z .u64 s.sq,Z .i64 s.hd,Z .i64 s.us,a] 168 (0,0));rw [World.size_alloc] at b;have K:=fun (c:World) (X:ai) (h:ag c (X*whole w))=>KS c S d D _ ((h.under J).right) P s a (q.under h) H G I E M N;have Q:=fun w=>BU w;have y:=ae K;clear J q H G I E M N K;subst c0;unfold Nl Js.v at *
 go_enter func116,ntmps116
 go_wp2_with fail
 generalize ((w.alloc (Y #[Z .i64 (n:Int),Z .i64 (P:Int)] 119 (0,0))).alloc (Y #[Z .u32 s.ep,Z .u64 s.st,Z .u64 s.sq,Z .i64 s.hd,Z .i64 s.us,.slice f i g] 168 (0,0)))=c at b o ⊢;generalize w.heap.size+1=e at b ⊢;generalize w.heap.size=k at b ⊢;have p:ag c ((pt e (Y #[Z .u32 s.ep,Z .u64 s.st,Z .u64 s.sq,Z .i64 s.hd,Z .i64 s.us,.slice f i g] 168 (0,0))*pt k (Y #[Z .i64 (n:Int),Z .i64 (P:Int)] 119 (0,0)))*whole w):=b.to (by ac_rfl);have L:=y.out c _ p;have W:c.cell? ⟨e,0,none⟩=some (Z .u32 s.ep):=b.cell 0;have c1:c.cell? ⟨e,1,none⟩=some (Z .u64 s.st):=b.cell 1;have c2:c.cell? ⟨e,2,none⟩=some (Z .u64 s.sq):=b.cell 2;have c3:c.cell? ⟨e,3,none⟩=some (Z .i64 s.hd):=b.cell 3;have c4:c.cell? ⟨e,4,none⟩=some (Z .i64 s.us):=b.cell 4;have c5:c.cell? ⟨e,5,none⟩=some (.slice f i g):=b.cell 5;have U:c.cell? ⟨k,0,none⟩=some (Z .i64 (n:Int)):=b.ah.cell 0;have V:c.cell? ⟨k,1,none⟩=some (Z .i64 (P:Int)):=b.ah.cell 1;have u:=ae p;clear b p y
 go_wp2_with fail
 (with_reducible refine L.mono ?_)
 rintro b0 l ⟨j,rfl,B,z⟩;have m:=B.under u.out;have t:=o.trans z;have r:ag l (pt k (Y #[Z .i64 (n:Int),Z .i64 (P:Int)] 119 (0,0))*(pt e (Y #[Z .u32 s.ep,Z .u64 s.st,Z .u64 s.sq,Z .i64 s.hd,Z .i64 s.us,.slice f i g] 168 (0,0))*(pC j d (Jr.MR P s)*whole w))):=m.to (by ac_rfl);have g0:l.cell? ⟨k,0,none⟩=some (Z .i64 (n:Int)):=r.cell 0;have g1:l.cell? ⟨k,1,none⟩=some (Z .i64 (P:Int)):=r.cell 1;have O:=Q l;have x:=ae m;have v:=ae t;clear L B z o r u m t Q W c1 c2 c3 c4 c5 U V
 go_wp2_with fail
 (with_reducible refine O.mono ?_)
 rintro b0 w3 ⟨rfl,rfl⟩;have C:=(x.out).alloc (Y #[ay j,Z .i64 (n:Int),Z .i64 (P:Int)] 125 (0,0));have A:=v.out.alloc (Y #[ay j,Z .i64 (n:Int),Z .i64 (P:Int)] 125 (0,0));have T:=ae C;have R:=ae A;clear O C A x v
 go_wp2_with fail
 go_ret
 refine ⟨_,j,rfl,?_,R.out⟩;unfold eE;exact (T.out.to (by ac_rfl:_=(pt e (Y #[Z .u32 s.ep,Z .u64 s.st,Z .u64 s.sq,Z .i64 s.hd,Z .i64 s.us,.slice f i g] 168 (0,0))*pt k (Y #[Z .i64 (n:Int),Z .i64 (P:Int)] 119 (0,0)))*((pt l.heap.size (Y #[ay j,Z .i64 (n:Int),Z .i64 (P:Int)] 125 (0,0))*pC j d (Jr.MR P s))*whole w))).right
def Fw (S:Hp) (s j d n P:Nat) (R:Int × Jr × aB) (F:ai) (w:World) (e:Ending) (a:World):Prop:=
 e = .returned (Z .i64 R.1)/\ag a (eE s j d n P R.2.1*(aT S d R.2.2*F))/\aj w a
theorem Mj (w:World) (S:Hp) (s j d n P:Nat) (J:Jr) (D:aB) (F:ai) (h:ag w (eE s j d n P J*(aT S d D*F))) (i:D.Ok) :
  Calls prog 120 #[ay s] w (Fw S s j d n P (J.flush D) F w):=by
 unfold eE Fw eE at *;have k:w.cell? ⟨s,0,none⟩=some (ay j):=(h.to (ax _ _ _)).cell 0;have c:=vT w S j d J D _ (h.to (by ac_rfl:_=pC j d J*(aT S d D*(pt s (Y #[ay j,Z .i64 (n:Int),Z .i64 (P:Int)] 125 (0,0))*F)))) i;clear h
 go_enter func120,ntmps120
 go_wp2_with fail
 (with_reducible refine c.mono ?_)
 rintro e l ⟨rfl,b,a⟩;have g:=ae b;have f:=ae a;clear c b a
 go_wp2_with fail
 go_ret
 exact ⟨rfl,g.out.to (by ac_rfl),f.out⟩
def Tw (n P:Nat) (w:World) (e:Ending) (a:World):Prop:=e = .returned (Nl n P)/\ag a (whole w)/\aj w a
theorem Mp (w:World) (s j d n P:Nat) (J:Jr) (F:ai) (h:ag w (eE s j d n P J*F)) :
  Calls prog 72 #[ay s] w (Tw n P w):=by
 unfold eE at *;have a:=h.to (ax _ _ _);have e:w.cell? ⟨s,1,none⟩=some (Z .i64 (n:Int)):=a.cell 1;have f:w.cell? ⟨s,2,none⟩=some (Z .i64 (P:Int)):=a.cell 2;have g:s<w.heap.size:=a.lt;have b:=(ag.whole w).alloc (Y #[Z .i64 (n:Int),Z .i64 (P:Int)] 119 (0,0));have c:=(aj.refl w).alloc (Y #[Z .i64 (n:Int),Z .i64 (P:Int)] 119 (0,0));clear h a
 go_enter func72,ntmps72
 go_wp2_with fail
 refine bodyPost_ret (results_cell_row rfl _ _ _ 119 _ (0,0) _ rfl b.heap underlying119 rfl (Kg _ rfl)) rfl ⟨rfl,b.right,c⟩
end Go.Proofs.Su

/- Steps. -/
import Derived.Test.YtebfaobobccikaaGreatDoorLP36
import Derived.Test.YtebfaobobccikaaGreatDoorLP10
set_option linter.all false
set_option maxRecDepth 99999
set_option maxHeartbeats 0
open Go.SL
open Go.Value renaming int->Z
open Go.Obj renaming cells->Y
open Go.Proofs.Tryz
namespace Go.Proofs.Su
open RowKit SL Proofs.Nn Proofs.Ba Proofs.Fs
def eH (s j d:Nat) (n P:Nat) (J:Jr):ai:=pt s (Y #[az j,Z .i64 (n:Int),Z .i64 (P:Int)] 124 (0,0))*pH j d J
def vD (d n P:Nat) (J:Jr) (w:World) (e:Ending) (a:World):Prop:=∃ s j,e = .returned (az s)/\ag a (eH s j d n P J*whole w)/\aj w a
theorem nH (w:World) (S:Hp) (d:Nat) (D:aC) (F:ai) (J:ag w (aS S d D*F)) (n P:Nat) (s:Js) (a:Value) (q:oM w a s.at_) (H:1<=P) (G:P<=20000) (I:P+1<=D.sec.length) (E:D.sec.length<=20000) (M:0<=s.sq) (N:s.uf P) (hn:n<=3840) :
  Calls prog 123 #[az d,NA n P,s.v a] w (vD d n P (Jr.JY P s) w):=by
 obtain ⟨f,i,g,c0⟩:∃ f i g,a = .slice f i g:=by
  rcases q with ⟨_,_,rfl,h⟩|⟨e0,f0,d0,rfl,_⟩
  .exact ⟨_,_,_,rfl⟩
  .exact ⟨_,_,_,rfl⟩
 have b:=((ag.whole w).alloc (Y #[Z .i64 (n:Int),Z .i64 (P:Int)] 118 (0,0))).alloc (Y #[Z .u32 s.ep,Z .u64 s.st,Z .u64 s.sq,Z .i64 s.hd,Z .i64 s.us,a] 168 (0,0));have o:=((aj.refl w).alloc (Y #[Z .i64 (n:Int),Z .i64 (P:Int)] 118 (0,0))).alloc (Y #[Z .u32 s.ep,Z .u64 s.st,Z .u64 s.sq,Z .i64 s.hd,Z .i64 s.us,a] 168 (0,0));rw [World.size_alloc] at b;have K:=fun (c:World) (X:ai) (h:ag c (X*whole w))=>KC c S d D _ ((h.under J).right) P s a (q.under h) H G I E M N;have Q:=fun w=>B5 w;have y:=ae K;clear J q H G I E M N K;subst c0;unfold NA Js.v at *
 go_enter func123,ntmps123
 go_wp2_with fail
 generalize ((w.alloc (Y #[Z .i64 (n:Int),Z .i64 (P:Int)] 118 (0,0))).alloc (Y #[Z .u32 s.ep,Z .u64 s.st,Z .u64 s.sq,Z .i64 s.hd,Z .i64 s.us,.slice f i g] 168 (0,0)))=c at b o ⊢;generalize w.heap.size+1=e at b ⊢;generalize w.heap.size=k at b ⊢;have p:ag c ((pt e (Y #[Z .u32 s.ep,Z .u64 s.st,Z .u64 s.sq,Z .i64 s.hd,Z .i64 s.us,.slice f i g] 168 (0,0))*pt k (Y #[Z .i64 (n:Int),Z .i64 (P:Int)] 118 (0,0)))*whole w):=b.to (by ac_rfl);have L:=y.out c _ p;have W:c.cell? ⟨e,0,none⟩=some (Z .u32 s.ep):=b.cell 0;have c1:c.cell? ⟨e,1,none⟩=some (Z .u64 s.st):=b.cell 1;have c2:c.cell? ⟨e,2,none⟩=some (Z .u64 s.sq):=b.cell 2;have c3:c.cell? ⟨e,3,none⟩=some (Z .i64 s.hd):=b.cell 3;have c4:c.cell? ⟨e,4,none⟩=some (Z .i64 s.us):=b.cell 4;have c5:c.cell? ⟨e,5,none⟩=some (.slice f i g):=b.cell 5;have U:c.cell? ⟨k,0,none⟩=some (Z .i64 (n:Int)):=b.ah.cell 0;have V:c.cell? ⟨k,1,none⟩=some (Z .i64 (P:Int)):=b.ah.cell 1;have u:=ae p;clear b p y
 go_wp2_with fail
 (with_reducible refine L.mono ?_)
 rintro b0 l ⟨j,rfl,B,z⟩;have m:=B.under u.out;have t:=o.trans z;have r:ag l (pt k (Y #[Z .i64 (n:Int),Z .i64 (P:Int)] 118 (0,0))*(pt e (Y #[Z .u32 s.ep,Z .u64 s.st,Z .u64 s.sq,Z .i64 s.hd,Z .i64 s.us,.slice f i g] 168 (0,0))*(pH j d (Jr.JY P s)*whole w))):=m.to (by ac_rfl);have g0:l.cell? ⟨k,0,none⟩=some (Z .i64 (n:Int)):=r.cell 0;have g1:l.cell? ⟨k,1,none⟩=some (Z .i64 (P:Int)):=r.cell 1;have O:=Q l;have x:=ae m;have v:=ae t;clear L B z o r u m t Q W c1 c2 c3 c4 c5 U V
 go_wp2_with fail
 (with_reducible refine O.mono ?_)
 rintro b0 w3 ⟨rfl,rfl⟩;have C:=(x.out).alloc (Y #[az j,Z .i64 (n:Int),Z .i64 (P:Int)] 124 (0,0));have A:=v.out.alloc (Y #[az j,Z .i64 (n:Int),Z .i64 (P:Int)] 124 (0,0));have T:=ae C;have R:=ae A;clear O C A x v
 go_wp2_with fail
 go_ret
 refine ⟨_,j,rfl,?_,R.out⟩;unfold eH;exact (T.out.to (by ac_rfl:_=(pt e (Y #[Z .u32 s.ep,Z .u64 s.st,Z .u64 s.sq,Z .i64 s.hd,Z .i64 s.us,.slice f i g] 168 (0,0))*pt k (Y #[Z .i64 (n:Int),Z .i64 (P:Int)] 118 (0,0)))*((pt l.heap.size (Y #[az j,Z .i64 (n:Int),Z .i64 (P:Int)] 124 (0,0))*pH j d (Jr.JY P s))*whole w))).right
def EV (S:Hp) (s j d n P:Nat) (R:Int × Jr × aC) (F:ai) (w:World) (e:Ending) (a:World):Prop:=
 e = .returned (Z .i64 R.1)/\ag a (eH s j d n P R.2.1*(aS S d R.2.2*F))/\aj w a
theorem MI (w:World) (S:Hp) (s j d n P:Nat) (J:Jr) (D:aC) (F:ai) (h:ag w (eH s j d n P J*(aS S d D*F))) (i:D.Ok) :
  Calls prog 127 #[az s] w (EV S s j d n P (J.flush D) F w):=by
 unfold eH EV eH at *;have k:w.cell? ⟨s,0,none⟩=some (az j):=(h.to (ay _ _ _)).cell 0;have c:=uN w S j d J D _ (h.to (by ac_rfl:_=pH j d J*(aS S d D*(pt s (Y #[az j,Z .i64 (n:Int),Z .i64 (P:Int)] 124 (0,0))*F)))) i;clear h
 go_enter func127,ntmps127
 go_wp2_with fail
 (with_reducible refine c.mono ?_)
 rintro e l ⟨rfl,b,a⟩;have g:=ae b;have f:=ae a;clear c b a
 go_wp2_with fail
 go_ret
 exact ⟨rfl,g.out.to (by ac_rfl),f.out⟩
def Ts (n P:Nat) (w:World) (e:Ending) (a:World):Prop:=e = .returned (NA n P)/\ag a (whole w)/\aj w a
theorem LI (w:World) (s j d n P:Nat) (J:Jr) (F:ai) (h:ag w (eH s j d n P J*F)) :
  Calls prog 75 #[az s] w (Ts n P w):=by
 unfold eH at *;have a:=h.to (ay _ _ _);have e:w.cell? ⟨s,1,none⟩=some (Z .i64 (n:Int)):=a.cell 1;have f:w.cell? ⟨s,2,none⟩=some (Z .i64 (P:Int)):=a.cell 2;have g:s<w.heap.size:=a.lt;have b:=(ag.whole w).alloc (Y #[Z .i64 (n:Int),Z .i64 (P:Int)] 118 (0,0));have c:=(aj.refl w).alloc (Y #[Z .i64 (n:Int),Z .i64 (P:Int)] 118 (0,0));clear h a
 go_enter func75,ntmps75
 go_wp2_with fail
 refine bodyPost_ret (results_cell_row rfl _ _ _ 118 _ (0,0) _ rfl b.heap underlying118 rfl (Jz _ rfl)) rfl ⟨rfl,b.right,c⟩
end Go.Proofs.Su

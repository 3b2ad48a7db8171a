/- Steps. -/
import Derived.Test.YtacliaemfegopaaGreatDoorKP37
import Derived.Test.YtacliaemfegopaaGreatDoorKP10
set_option linter.all false
set_option maxRecDepth 99999
set_option maxHeartbeats 0
open Go.SL
open Go.Value renaming int->Z'
open Go.Proofs.Tryz
namespace Go.Proofs.Su
open Go.RowKit Go.SL Go.Proofs.Nn Go.Proofs.Ba Go.Proofs.Fs
def et (s j d:Nat) (n P:Nat) (J:Jr):ai:=pt s (.cells #[ay j,Z' .i64 (n:Int),Z' .i64 (P:Int)] 125 (0,0))*nY j d J
def ti (d n P:Nat) (J:Jr) (w:World) (e:Ending) (a:World):Prop:=∃ s j,e = .returned (ay s)/\ag a (et s j d n P J*whole w)/\aj w a
theorem mf (w:World) (S:Hp) (d:Nat) (D:az) (F:ai) (hd:ag w (aL S d D*F)) (n P:Nat) (s:Js) (a:Value) (ha:nM w a s.at_) (hP0:1<=P) (hP:P<=20000) (hPs:P+1<=D.sec.length) (hDn:D.sec.length<=20000) (hq:0<=s.sq) (hr:s.uN P) (hn:n<=3840) :
  Calls prog 116 #[ay d,KY n P,s.v a] w (ti d n P (Jr.Jg P s) w):=by
 obtain ⟨aa,an,ac,hav⟩:∃ aa an ac,a = .slice aa an ac:=by
  rcases ha with ⟨_,_,rfl,h⟩|⟨g,o,c,rfl,_⟩
  .exact ⟨_,_,_,rfl⟩
  .exact ⟨_,_,_,rfl⟩
 have h1:=((ag.whole w).alloc (.cells #[.int .i64 (n:Int),.int .i64 (P:Int)] 119 (0,0))).alloc (.cells #[.int .u32 s.ep,.int .u64 s.st,.int .u64 s.sq,.int .i64 s.hd,.int .i64 s.us,a] 168 (0,0));have d1:=((aj.refl w).alloc (.cells #[.int .i64 (n:Int),.int .i64 (P:Int)] 119 (0,0))).alloc (.cells #[.int .u32 s.ep,.int .u64 s.st,.int .u64 s.sq,.int .i64 s.hd,.int .i64 s.us,a] 168 (0,0));rw [World.size_alloc] at h1;have hnew:=fun (w1:World) (X:ai) (h:ag w1 (X*whole w))=>GB w1 S d D _ ((h.under hd).right) P s a (ha.under h) hP0 hP hPs hDn hq hr;have hyes:=fun w=>zx w;have Hn:=ae hnew;clear hd ha hP0 hP hPs hDn hq hr hnew;subst hav;unfold KY Js.v at *
 go_enter func116,ntmps116
 go_wp2_with fail
 generalize ((w.alloc (.cells #[.int .i64 (n:Int),.int .i64 (P:Int)] 119 (0,0))).alloc (.cells #[.int .u32 s.ep,.int .u64 s.st,.int .u64 s.sq,.int .i64 s.hd,.int .i64 s.us,.slice aa an ac] 168 (0,0)))=w1 at h1 d1 ⊢;generalize w.heap.size+1=qb at h1 ⊢;generalize w.heap.size=gb at h1 ⊢;have h1':ag w1 ((pt qb (.cells #[.int .u32 s.ep,.int .u64 s.st,.int .u64 s.sq,.int .i64 s.hd,.int .i64 s.us,.slice aa an ac] 168 (0,0))*pt gb (.cells #[.int .i64 (n:Int),.int .i64 (P:Int)] 119 (0,0)))*whole w):=h1.to (by ac_rfl);have hnw:=Hn.out w1 _ h1';have c0:w1.cell? ⟨qb,0,none⟩=some (.int .u32 s.ep):=h1.cell 0;have c1:w1.cell? ⟨qb,1,none⟩=some (.int .u64 s.st):=h1.cell 1;have c2:w1.cell? ⟨qb,2,none⟩=some (.int .u64 s.sq):=h1.cell 2;have c3:w1.cell? ⟨qb,3,none⟩=some (.int .i64 s.hd):=h1.cell 3;have c4:w1.cell? ⟨qb,4,none⟩=some (.int .i64 s.us):=h1.cell 4;have c5:w1.cell? ⟨qb,5,none⟩=some (.slice aa an ac):=h1.cell 5;have b0:w1.cell? ⟨gb,0,none⟩=some (.int .i64 (n:Int)):=h1.ah.cell 0;have b1:w1.cell? ⟨gb,1,none⟩=some (.int .i64 (P:Int)):=h1.ah.cell 1;have H1:=ae h1';clear h1 h1' Hn
 go_wp2_with fail
 (with_reducible refine hnw.mono ?_)
 rintro e w2 ⟨j,rfl,h2,d2⟩;have H2:=h2.under H1.out;have D2:=d1.trans d2;have hx:ag w2 (pt gb (.cells #[.int .i64 (n:Int),.int .i64 (P:Int)] 119 (0,0))*(pt qb (.cells #[.int .u32 s.ep,.int .u64 s.st,.int .u64 s.sq,.int .i64 s.hd,.int .i64 s.us,.slice aa an ac] 168 (0,0))*(nY j d (Jr.Jg P s)*whole w))):=H2.to (by ac_rfl);have g0:w2.cell? ⟨gb,0,none⟩=some (.int .i64 (n:Int)):=hx.cell 0;have g1:w2.cell? ⟨gb,1,none⟩=some (.int .i64 (P:Int)):=hx.cell 1;have hy:=hyes w2;have HH:=ae H2;have HD:=ae D2;clear hnw h2 d2 d1 hx H1 H2 D2 hyes c0 c1 c2 c3 c4 c5 b0 b1
 go_wp2_with fail
 (with_reducible refine hy.mono ?_)
 rintro e w3 ⟨rfl,rfl⟩;have h3:=(HH.out).alloc (.cells #[ay j,.int .i64 (n:Int),.int .i64 (P:Int)] 125 (0,0));have d3:=HD.out.alloc (.cells #[ay j,.int .i64 (n:Int),.int .i64 (P:Int)] 125 (0,0));have H3:=ae h3;have D3:=ae d3;clear hy h3 d3 HH HD
 go_wp2_with fail
 go_ret
 refine ⟨_,j,rfl,?_,D3.out⟩;unfold et;exact (H3.out.to (by ac_rfl:_=(pt qb (.cells #[.int .u32 s.ep,.int .u64 s.st,.int .u64 s.sq,.int .i64 s.hd,.int .i64 s.us,.slice aa an ac] 168 (0,0))*pt gb (.cells #[.int .i64 (n:Int),.int .i64 (P:Int)] 119 (0,0)))*((pt w2.heap.size (.cells #[ay j,.int .i64 (n:Int),.int .i64 (P:Int)] 125 (0,0))*nY j d (Jr.Jg P s))*whole w))).right
def DN (S:Hp) (s j d n P:Nat) (R:Int × Jr × az) (F:ai) (w:World) (e:Ending) (a:World):Prop:=
 e = .returned (Z' .i64 R.1)/\ag a (et s j d n P R.2.1*(aL S d R.2.2*F))/\aj w a
theorem GH (w:World) (S:Hp) (s j d n P:Nat) (J:Jr) (D:az) (F:ai) (h:ag w (et s j d n P J*(aL S d D*F))) (i:D.Ok) :
  Calls prog 120 #[ay s] w (DN S s j d n P (J.flush D) F w):=by
 unfold et DN et at *;have k:w.cell? ⟨s,0,none⟩=some (ay j):=(h.to (ax _ _ _)).cell 0;have c:=tQ w S j d J D _ (h.to (by ac_rfl:_=nY j d J*(aL S d D*(pt s (.cells #[ay j,Z' .i64 (n:Int),Z' .i64 (P:Int)] 125 (0,0))*F)))) i;clear h
 go_enter func120,ntmps120
 go_wp2_with fail
 (with_reducible refine c.mono ?_)
 rintro e l ⟨rfl,b,a⟩;have g:=ae b;have f:=ae a;clear c b a
 go_wp2_with fail
 go_ret
 exact ⟨rfl,g.out.to (by ac_rfl),f.out⟩
def QB (n P:Nat) (w:World) (e:Ending) (a:World):Prop:=e = .returned (KY n P)/\ag a (whole w)/\aj w a
theorem II (w:World) (s j d n P:Nat) (J:Jr) (F:ai) (h:ag w (et s j d n P J*F)) :
  Calls prog 72 #[ay s] w (QB n P w):=by
 unfold et at *;have a:=h.to (ax _ _ _);have e:w.cell? ⟨s,1,none⟩=some (Z' .i64 (n:Int)):=a.cell 1;have f:w.cell? ⟨s,2,none⟩=some (Z' .i64 (P:Int)):=a.cell 2;have g:s<w.heap.size:=a.lt;have b:=(ag.whole w).alloc (.cells #[Z' .i64 (n:Int),Z' .i64 (P:Int)] 119 (0,0));have c:=(aj.refl w).alloc (.cells #[Z' .i64 (n:Int),Z' .i64 (P:Int)] 119 (0,0));clear h a
 go_enter func72,ntmps72
 go_wp2_with fail
 refine bodyPost_ret (results_cell_row rfl _ _ _ 119 _ (0,0) _ rfl b.heap underlying119 rfl (J5 _ rfl)) rfl ⟨rfl,b.right,c⟩
end Go.Proofs.Su

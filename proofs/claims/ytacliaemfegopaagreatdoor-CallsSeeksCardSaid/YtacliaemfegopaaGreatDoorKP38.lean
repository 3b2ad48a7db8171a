/- Steps. -/
import Derived.Test.YtacliaemfegopaaGreatDoorKP37
import Derived.Test.YtacliaemfegopaaGreatDoorKP10
set_option linter.unusedVariables false
set_option linter.unusedSimpArgs false
set_option maxRecDepth 100000
set_option maxHeartbeats 40000000
open Go.Proofs Go.SL
namespace Go.Su
open Go.RowKit Go.SL Go.Nn Go.Ba Go.Fs
def ei (s j d:Nat) (n P:Nat) (J:Jr):ah:=pt s (.cells #[ax j,.int .i64 (n:Int),.int .i64 (P:Int)] 125 (0,0))*nN j d J
def uw (d n P:Nat) (J:Jr) (w:World) (e:Ending) (w':World):Prop:=∃ s j,e = .returned (ax s)∧Sat w' (ei s j d n P J*whole w)∧ai w w'
theorem mm (w:World) (S:Hp) (d:Nat) (D:ay) (F:ah) (hd:Sat w (aK S d D*F)) (n P:Nat) (s:Js) (a:Value) (ha:nC w a s.at_) (hP0:1≤P) (hP:P≤20000) (hPs:P+1≤D.sec.length) (hDn:D.sec.length≤20000) (hq:0≤s.sq) (hr:s.tx P) (hn:n≤3840) :
  Calls Tryz.prog 116 #[ax d,Kz n P,s.v a] w (uw d n P (Jr.Jx P s) w):=by
 obtain ⟨aa,an,ac,hav⟩:∃ aa an ac,a = .slice aa an ac:=by
  rcases ha with ⟨_,_,rfl,h⟩|⟨g,o,c,rfl,_⟩
  ·exact ⟨_,_,_,rfl⟩
  ·exact ⟨_,_,_,rfl⟩
 have h1:=((Sat.whole w).alloc (.cells #[.int .i64 (n:Int),.int .i64 (P:Int)] 119 (0,0))).alloc (.cells #[.int .u32 s.ep,.int .u64 s.st,.int .u64 s.sq,.int .i64 s.hd,.int .i64 s.us,a] 168 (0,0));have d1:=((ai.refl w).alloc (.cells #[.int .i64 (n:Int),.int .i64 (P:Int)] 119 (0,0))).alloc (.cells #[.int .u32 s.ep,.int .u64 s.st,.int .u64 s.sq,.int .i64 s.hd,.int .i64 s.us,a] 168 (0,0));rw [World.size_alloc] at h1;have hnew:=fun (w1:World) (X:ah) (h:Sat w1 (X*whole w))=>GY w1 S d D _ ((h.under hd).right) P s a (ha.under h) hP0 hP hPs hDn hq hr;have hyes:=fun w=>zJ w;have Hn:=ae hnew;clear hd ha hP0 hP hPs hDn hq hr hnew;subst hav;unfold Kz Js.v at *
 go_enter Tryz.func116,Tryz.ntmps116
 go_wp2_with fail
 generalize ((w.alloc (.cells #[.int .i64 (n:Int),.int .i64 (P:Int)] 119 (0,0))).alloc (.cells #[.int .u32 s.ep,.int .u64 s.st,.int .u64 s.sq,.int .i64 s.hd,.int .i64 s.us,.slice aa an ac] 168 (0,0)))=w1 at h1 d1 ⊢;generalize w.heap.size+1=qb at h1 ⊢;generalize w.heap.size=gb at h1 ⊢;have h1':Sat w1 ((pt qb (.cells #[.int .u32 s.ep,.int .u64 s.st,.int .u64 s.sq,.int .i64 s.hd,.int .i64 s.us,.slice aa an ac] 168 (0,0))*pt gb (.cells #[.int .i64 (n:Int),.int .i64 (P:Int)] 119 (0,0)))*whole w):=h1.to (by ac_rfl);have hnw:=Hn.out w1 _ h1';have c0:w1.cell? ⟨qb,0,none⟩=some (.int .u32 s.ep):=h1.cell 0;have c1:w1.cell? ⟨qb,1,none⟩=some (.int .u64 s.st):=h1.cell 1;have c2:w1.cell? ⟨qb,2,none⟩=some (.int .u64 s.sq):=h1.cell 2;have c3:w1.cell? ⟨qb,3,none⟩=some (.int .i64 s.hd):=h1.cell 3;have c4:w1.cell? ⟨qb,4,none⟩=some (.int .i64 s.us):=h1.cell 4;have c5:w1.cell? ⟨qb,5,none⟩=some (.slice aa an ac):=h1.cell 5;have b0:w1.cell? ⟨gb,0,none⟩=some (.int .i64 (n:Int)):=h1.ag.cell 0;have b1:w1.cell? ⟨gb,1,none⟩=some (.int .i64 (P:Int)):=h1.ag.cell 1;have H1:=ae h1';clear h1 h1' Hn
 go_wp2_with fail
 (with_reducible refine hnw.mono ?_)
 rintro e w2 ⟨j,rfl,h2,d2⟩;have H2:=h2.under H1.out;have D2:=d1.trans d2;have hx:Sat w2 (pt gb (.cells #[.int .i64 (n:Int),.int .i64 (P:Int)] 119 (0,0))*(pt qb (.cells #[.int .u32 s.ep,.int .u64 s.st,.int .u64 s.sq,.int .i64 s.hd,.int .i64 s.us,.slice aa an ac] 168 (0,0))*(nN j d (Jr.Jx P s)*whole w))):=H2.to (by ac_rfl);have g0:w2.cell? ⟨gb,0,none⟩=some (.int .i64 (n:Int)):=hx.cell 0;have g1:w2.cell? ⟨gb,1,none⟩=some (.int .i64 (P:Int)):=hx.cell 1;have hy:=hyes w2;have HH:=ae H2;have HD:=ae D2;clear hnw h2 d2 d1 hx H1 H2 D2 hyes c0 c1 c2 c3 c4 c5 b0 b1
 go_wp2_with fail
 (with_reducible refine hy.mono ?_)
 rintro e w3 ⟨rfl,rfl⟩;have h3:=(HH.out).alloc (.cells #[ax j,.int .i64 (n:Int),.int .i64 (P:Int)] 125 (0,0));have d3:=HD.out.alloc (.cells #[ax j,.int .i64 (n:Int),.int .i64 (P:Int)] 125 (0,0));have H3:=ae h3;have D3:=ae d3;clear hy h3 d3 HH HD
 go_wp2_with fail
 go_ret
 refine ⟨_,j,rfl,?_,D3.out⟩;unfold ei;exact (H3.out.to (by ac_rfl:_=(pt qb (.cells #[.int .u32 s.ep,.int .u64 s.st,.int .u64 s.sq,.int .i64 s.hd,.int .i64 s.us,.slice aa an ac] 168 (0,0))*pt gb (.cells #[.int .i64 (n:Int),.int .i64 (P:Int)] 119 (0,0)))*((pt w2.heap.size (.cells #[ax j,.int .i64 (n:Int),.int .i64 (P:Int)] 125 (0,0))*nN j d (Jr.Jx P s))*whole w))).right
def C4 (S:Hp) (s j d n P:Nat) (R:Int × Jr × ay) (F:ah) (w:World) (e:Ending) (w':World):Prop:=
 e = .returned (.int .i64 R.1)∧Sat w' (ei s j d n P R.2.1*(aK S d R.2.2*F))∧ai w w'
theorem Kh (w:World) (S:Hp) (s j d n P:Nat) (J:Jr) (D:ay) (F:ah) (h:Sat w (ei s j d n P J*(aK S d D*F))) (hD:D.Ok) :
  Calls Tryz.prog 120 #[ax s] w (C4 S s j d n P (J.flush D) F w):=by
 unfold ei C4 ei at *;have c0:w.cell? ⟨s,0,none⟩=some (ax j):=(h.to (aw _ _ _)).cell 0;have hf:=tE w S j d J D _ (h.to (by ac_rfl:_=nN j d J*(aK S d D*(pt s (.cells #[ax j,.int .i64 (n:Int),.int .i64 (P:Int)] 125 (0,0))*F)))) hD;clear h
 go_enter Tryz.func120,Tryz.ntmps120
 go_wp2_with fail
 (with_reducible refine hf.mono ?_)
 rintro e w2 ⟨rfl,h2,d2⟩;have H2:=ae h2;have D2:=ae d2;clear hf h2 d2
 go_wp2_with fail
 go_ret
 exact ⟨rfl,H2.out.to (by ac_rfl),D2.out⟩
def Qd (n P:Nat) (w:World) (e:Ending) (w':World):Prop:=e = .returned (Kz n P)∧Sat w' (whole w)∧ai w w'
theorem Iu (w:World) (s j d n P:Nat) (J:Jr) (F:ah) (h:Sat w (ei s j d n P J*F)) :
  Calls Tryz.prog 72 #[ax s] w (Qd n P w):=by
 unfold ei at *;have hx:=h.to (aw _ _ _);have c1:w.cell? ⟨s,1,none⟩=some (.int .i64 (n:Int)):=hx.cell 1;have c2:w.cell? ⟨s,2,none⟩=some (.int .i64 (P:Int)):=hx.cell 2;have hlt:s<w.heap.size:=hx.lt;have h1:=(Sat.whole w).alloc (.cells #[.int .i64 (n:Int),.int .i64 (P:Int)] 119 (0,0));have d1:=(ai.refl w).alloc (.cells #[.int .i64 (n:Int),.int .i64 (P:Int)] 119 (0,0));clear h hx
 go_enter Tryz.func72,Tryz.ntmps72
 go_wp2_with fail
 refine bodyPost_ret (results_cell_row rfl _ _ _ 119 _ (0,0) _ rfl h1.heap Tryz.underlying119 rfl (FY _ rfl)) rfl ⟨rfl,h1.right,d1⟩
end Go.Su

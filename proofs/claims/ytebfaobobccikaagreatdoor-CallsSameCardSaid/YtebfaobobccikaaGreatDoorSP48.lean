/- Steps. -/
import Derived.Test.YtebfaobobccikaaGreatDoorSP42
import Derived.Test.YtebfaobobccikaaGreatDoorSP47
set_option linter.all false
set_option maxRecDepth 99999
set_option maxHeartbeats 0
open Go.SL
open Go.Value renaming int->Z
open Go.Obj renaming cells->Y
open Go renaming World->Z'
open Go.Proofs.Tryz renaming prog->X
open Option renaming some->Y'
open Go.Proofs.Tryz
open List renaming getD->Z0
namespace Go.Proofs.Cl
open RowKit SL Proofs.Nn Proofs.Ba Proofs.Su Proofs.Fs
attribute [local go_sem] Oper.semAt_some
def Lm (d n P:Nat) (w0:Z') (s:Nat):ai:=ex fun z:Nat × Hp × aC=>fact (Lq n P 1 (J0 P n) z.2.2 Cl.sQ)*(eX s z.1 d n P (J0 P n)*(aV z.2.1 d z.2.2*(ak z.2.1*whole w0)))
def ru (a d:Nat):ai:=pt a (Y #[az d] 24 (0,0))
section
variable {d n P:Nat} {w0:Z'} {S:Hp} {D:aC} {cd cb:Nat}
theorem TQ {i:Ar} {g:aC} (j:n<=P) (h:TR n P D none g i):Lq n P 1 (J0 P n) g Cl.sQ:=by
 have e:=h.sj;exact ⟨e.jt.inv,e.jt.jn,e.bound,e.jP,e.sq⟩
theorem BN (L:oe w0) (A:D.Ok) (x:D.Calm) (z:D.wait.length<=1000) (i:nY n P=true) (B:D.sec.length=P+1) :
  Rb 63 #[az cd,az cb] ((ru cd d*aD cb (n:Int))*(aV S d D*(ak S*whole w0))) (Lm d n P w0):=by
 intro w H h;refine aH fun Q q=>?_;have t:ag w (aV S d (D.dD none)*(ak S*((ru cd d*aD cb (n:Int))*(whole w0*H)))):=by rw [Bw];exact h.to (by ac_rfl)
 have y:=ae (Eu w S d n P D none _ t A x z i B Jm rfl fun w' J R=>L.qk (R.to (by ac_rfl:_=(J*((ru cd d*aD cb (n:Int))*H))*whole w0)));have U:w.cell? ⟨cd,0,none⟩=Y' (az d):=(h.to (by unfold ru;ac_rfl:_=pt cd (Y #[az d] 24 (0,0))*(aD cb (n:Int)*((aV S d D*(ak S*whole w0))*H)))).cell 0;have V:w.cell? ⟨cb,0,none⟩=Y' (Z .i64 (n:Int)):=(h.to (by unfold aD;ac_rfl:_=pt cb (Y #[Z .i64 (n:Int)] 3 (0,0))*(ru cd d*((aV S d D*(ak S*whole w0))*H)))).cell 0;have v:n<=P:=by have:=eQ.1 i;omega
 have G:=ae v;clear h t A x z i B v
 go_enter func63,ntmps63
 go_wp2_with fail
 refine y.out.mono ?_;rintro e C O;rcases O with ⟨E,M,_⟩|⟨s,j,I,F,o3,W,rfl,g,r,o⟩
 .exact absurd rfl M
 have N:=o.ar.none rfl;subst N;rw [Bw] at g;have u:ag C (Lm d n P w0 s*((ru cd d*aD cb (n:Int))*H)):=ag.aw.2 ⟨(j,I,F),(ag.aq.2 ⟨TQ G.out o,g⟩:ag C (fact _*_)).to (by ac_rfl)⟩;have K:=ae (q.out _ _ ⟨s,rfl,r,(u.to (by ac_rfl:_=(ru cd d*aD cb (n:Int))*(Lm d n P w0 s*H))).right⟩);clear y o g u r q U V
 go_wp2_with fail
 exact K.out
def V7 (d n P:Nat) (e:5*n+240<=2*P) (w0:Z') (s f m:Nat):ai:=ex fun j:Nat=>fu ⟨f,s,j,d,n,P⟩ (V3 n P e) m eU (n-2) 3 []*whole w0
theorem Dg (g:5*n+240<=2*P) (t:4<=n) (y:n<=3840):RO 65 #[] (Lm d n P w0) (V7 d n P g w0):=by
 intro s f m w H h;obtain ⟨⟨j,S,D⟩,o⟩:=ag.aw.1 (h.to (by ac_rfl:_=Lm d n P w0 s*(pt f (Y #[az s,.map (Y' m)] 91 (0,0))*(mp m []*H))));obtain ⟨z,q⟩:=ag.aq.1 (o.to (ax _ _ _));have r:ag w (lL ⟨f,s,j,d,n,P⟩ ⟨J0 P n,D,Cl.sQ,1⟩*(pt f (Y #[az s,.map (Y' m)] 91 (0,0))*(mp m []*(whole w0*H)))):=my (t:=⟨f,s,j,d,n,P⟩) (s:=⟨J0 P n,D,Cl.sQ,1⟩) (S:=S) (q.to (by ac_rfl));refine (Io (t:=⟨f,s,j,d,n,P⟩) (q:=V3 n P g) (J:=J0 P n) (D:=D) (m:=m) (F:=whole w0*H) t y z (r.to (by unfold iD;show _=_*(mp m []*_);ac_rfl))).mono ?_;rintro e B ⟨A,rfl,i,v,x,u⟩;refine ⟨rfl,i,ag.aw.2 ⟨j,?_⟩⟩;exact (et x v u).to (ax _ _ _).symm
def RB (d n:Nat) (v:Nat->Value) (w0:Z') (w:Z') (e:Ending) (g:Z'):Prop:=
 ∃ (t:Pl) (q:Dk t.n) (m:Nat),t.n=n/\t.d=d/\e = .returned (v t.f)/\aj w g/\ag g (fu t q m eU (n-2) 3 []*whole w0)
theorem Dj (w:Z') (H:oe w0) (z:D.Ok) (x:D.Calm) (y:D.wait.length<=1000) (i:nY n P=true) (A:D.sec.length=P+1) (h:ag w (aV S d D*(ak S*whole w0))) :
  Calls X 27 #[az d,Z .i64 (n:Int)] w (RB d n (fun f=>.tuple #[az f,Z .i64 0]) w0 w):=by
 refine aH fun Q q=>?_;have J:=nB X;have F:=eQ.1 i;have v:5*n+240<=2*P:=by omega
 have B:=fun (I:Z') (cd cb:Nat) E=>JQ (dv:=d) (w:=I) (F:=emp) (enters func63 (by kernel_rfl) rfl) (enters func65 (by kernel_rfl) rfl) (BN (d:=d) (n:=n) (P:=P) (cd:=cd) (cb:=cb) (S:=S) H z x y i A) (Dg v (by omega) (by omega)) E;have g:=(h.alloc (Y #[az d] 24 (0,0))).alloc (Y #[Z .i64 (n:Int)] 3 (0,0));have o:=ae (((aj.refl w).alloc (Y #[az d] 24 (0,0))).alloc (Y #[Z .i64 (n:Int)] 3 (0,0)));rw [World.size_alloc] at g;have C:=ae (B _ _ _ ((g.to (by unfold ru aD;ac_rfl:_=(ru w.heap.size d*aD (w.heap.size+1) (n:Int))*(aV S d D*(ak S*whole w0)))).kC));clear B g h z x y i A F
 go_enter func27,ntmps27
 go_wp2_with fail
 refine C.out.mono ?_;rintro e K ⟨s,f,m,rfl,r,t⟩;obtain ⟨j,u⟩:=ag.aw.1 t;have G:=ae (q.out _ _ ⟨⟨f,s,j,d,n,P⟩,V3 n P v,m,rfl,rfl,rfl,o.out.trans r,(u.to (ax _ _ _)).to (by rw [show (whole w0*emp:ai)=whole w0 from gQ _])⟩);clear C r t u q o
 go_wp2_with fail
 exact G.out
end
theorem sm (w:Z') (B:oe w) (n:Nat) (v:4<=n) (J:n<=40) :
  Calls X 8 #[Z .i64 (n:Int)] w fun e O=>∃ d,RB d n (fun f=>.tuple #[az d,az f]) w w e O:=by
 refine aH fun Q i=>?_;obtain ⟨P,x⟩:∃ P:Nat,P=(5*n+241)/2:=⟨_,rfl⟩
 have g:=Ia w n;rw [EO v (by omega),<- x] at g;have y:P<=221:=by omega
 have E:(P:Int)+1=((P+1:Nat):Int):=by omega
 have j:=ae E;have N:IntKind.i64.wrap ((P:Int)+1)=(P:Int)+1:=by rw [IntKind.wrap_i64];omega
 have C:=zU (P+1) (by omega) (by omega) w;have A:nY n P=true:=eQ.2 ⟨by omega,by omega,by omega,by omega,by omega⟩;have H:=ae A;have I:=ae B;have G:=ae y;clear x y A B v J E
 go_enter func8,ntmps8
 go_wp2_with fail
 (with_reducible refine g.mono ?_)
 rintro e F ⟨rfl,rfl⟩
 go_wp2_with fail
 rw [j.out]
 (with_reducible refine C.mono ?_)
 rintro e F ⟨d,rfl,s,o⟩;have z:=ae (Dj (S:=WU) (D:=aC.fresh (P+1)) (d:=d) (n:=n) (P:=P) F I.out (Md (P+1) (by have:=G.out;omega)) ⟨rfl,rfl⟩ (by show (0:Nat)<=_;omega) H.out (by rw [Ui]) (((s WU).zZ).to (by ac_rfl)));have h:=ae o;clear g C s o j N
 go_wp2_with fail
 refine z.out.mono ?_;rintro e R ⟨t,q,m,M,K,rfl,r,u⟩;have L:=ae (i.out _ _ ⟨d,t,q,m,M,K,rfl,h.out.trans r,u⟩);clear z r u i h
 go_wp2_with fail
 exact L.out
end Go.Proofs.Cl
namespace Go.Proofs.Cl
open RowKit SL Proofs.Nn Proofs.Ba Proofs.Su Proofs.Fs
variable {t:Pl} {F:ai} {e:Ending}
theorem oO {n:Nat} {q:Dk t.n} {m k B:Nat} {T:Tr} {p:List UInt8} {f:AF} {w g:Z'} (h:RM t q m T k B [] p F w e g) (r:(bG T p).1=0) (s:T (bG T p).2=Y' (.file f)) :
  e = .returned (.tuple #[Z .i64 0,Z .i64 0])/\aj w g/\ag g (fu t q m T k B [(0,((bG T p).2,0))]*F):=by
 have v:iN T [] p=0:=by unfold iN;rw [r,if_neg (by simp),s];rfl
 obtain ⟨d,⟨o,_⟩|⟨_,i,j,x,rfl,u⟩⟩:=h
 .exact absurd v o
 .have:i=0:=by
   rcases Nat.eq_zero_or_pos i with h|h
   .exact h
   .exact absurd (j 0 h) (by simp [aP])
  subst this;exact ⟨rfl,d,u⟩
theorem ER.ok {q:Dk t.n} {m k B:Nat} {T:Tr} {O:jT} {fd:Int} {o:Nat × Nat} {R:Int->Tr->Nat->Prop} {w j:Z'} (h:ER t q m T k B O fd o R F w e j) (s:∀ c g k',R c g k'->c=0) :
  ∃ g k',R 0 g k'/\e = .returned (Z .i64 0)/\aj w j/\ag j (fu t q m g k' (B+1) (eu O fd o)*F):=by
 obtain ⟨d,c,rfl,⟨u,⟨g,k',i⟩,_⟩|⟨rfl,g,k',i,r⟩⟩:=h
 .exact absurd (s _ _ _ i) u
 .exact ⟨g,k',i,rfl,d,r⟩
theorem jz (w:Z') (v:Value) (l:List UInt8) (h:Rd w v l):(convert 22 9 v).run X w = .ok (.string (str l)) w:=JY w v l h
theorem nI (w:Z') (hh:oe w):Calls X 7 #[] w (TN w):=by
 have N:=sm w hh 20 (by decide) (by decide);rw [show ((20:Nat):Int)=20 from rfl] at N;clear hh
 go_enter func7,ntmps7
 go_wp2_with fail
 refine N.mono ?_;rintro e w1 ⟨d,t,q,m,hn,-,rfl,d1,y⟩;have y:ag w1 (fu t q m eU 18 3 []*whole w):=y;have Hn:=ae hn;have V:=ae d1
 have k1:Calls X 9 #[az t.f,.string ⟨#[47,100]⟩] w1 _:=Gd (p:=pD) (by decide) Rm y;clear N y hn d1
 go_wp2_with fail
 refine k1.mono ?_;rintro e w2 g;obtain ⟨T1,n1,i,rfl,d2,h2⟩:=g.ok fun c G k' r=>r.1.trans Rm;obtain ⟨⟨a,K⟩,rfl⟩:=Sz i rfl;have D2:=ae (V.out.trans d2);have k2:Calls X 11 #[az t.f,.string ⟨#[47,100,47,97]⟩] w2 _:=re (p:=Mg) (by decide) (Ra K) h2;have C:=ae K;clear k1 g i d2 h2 V K
 go_wp2_with fail
 refine k2.mono ?_;rintro e w3 g;obtain ⟨T2,n2,i,rfl,d3,h3⟩:=g.ok fun c G k' r=>r.1.trans (Ra C.out);obtain ⟨⟨b,u0⟩,rfl⟩:=TH C.out i rfl;have D3:=ae (D2.out.trans d3);have k3:Calls X 16 #[az t.f,.string ⟨#[47,100,47,97]⟩] w3 _:=A3 (p:=Mg) (by decide) (by decide) h3;have u:=ae u0;clear k2 g i d3 h3 D2 C u0
 go_wp2_with fail
 refine k3.mono ?_;rintro e j g;obtain ⟨rfl,d4,I⟩:=oO (n:=t.n) g (B8 u.out).1 (B8 u.out).2;rw [y9 u.out] at I;have D4:=ae ((D3.out.trans d4).alloc (Y #[Z .u8 104,Z .u8 101,Z .u8 108,Z .u8 108,Z .u8 111] 5 (5,6)));have m0:ag (j.alloc (Y #[Z .u8 104,Z .u8 101,Z .u8 108,Z .u8 108,Z .u8 111] 5 (5,6))) (pt j.heap.size (Y (eA qW) 5 (5,6))*(fu t q m T2 14 5 [(0,(b,0))]*whole w)):=I.alloc (Y #[Z .u8 104,Z .u8 101,Z .u8 108,Z .u8 108,Z .u8 111] 5 (5,6));have H4:=m0.to (aI _ _ _);have Q:=uN (va:=Y' ⟨j.heap.size,0,none⟩) (vc:=qW.length) (l:=qW) (fd:=0) (id:=b) (at':=0) (f:=fh 1) (D:=pt j.heap.size (Y (eA qW) 5 (5,6))) (F:=whole w) (B:=5) (by decide) Ry rfl u.out.fb (by decide) (by decide) (Nat.le_refl _) (fun G0 P B=>uR B.heap) H4;rw [show qW.length=5 from rfl] at Q;have K5:=ae Q;have H0:(convert 22 22 (.slice (Y' ⟨j.heap.size,0,none⟩) 5 5)).run X (j.alloc (Y #[Z .u8 104,Z .u8 101,Z .u8 108,Z .u8 108,Z .u8 111] 5 (0,0))) = .ok (.slice (Y' ⟨j.heap.size,0,none⟩) 5 5) (j.alloc (Y #[Z .u8 104,Z .u8 101,Z .u8 108,Z .u8 108,Z .u8 111] 5 (5,6))):=Go.Lib.run_convert_bytes_const (P:=X) j 22 5 #[Z .u8 104,Z .u8 101,Z .u8 108,Z .u8 108,Z .u8 111] 5 5 underlying22 underlying5;clear k3 g d4 I D3 Q m0 H4
 go_wp2_with fail
 refine K5.out.mono ?_;rintro e w5 g;obtain ⟨T4,n4,i,rfl,d5,h5⟩:=g.ok fun c G k' r=>r.1.trans Ry;obtain ⟨L,rfl⟩:=RV u.out i rfl;have D5:=ae (D4.out.trans d5);have o0:ag w5 (fu t q m T4 13 6 [(0,(b,5))]*(pt j.heap.size (Y (eA qW) 5 (5,6))*whole w)):=h5;have n0:=(o0.to (aI _ _ _)).right;have k6:Calls X 15 #[az t.f,.string ⟨#[47,100,47,97]⟩,.string ⟨#[47,98]⟩] w5 _:=LW (p1:=Mg) (p2:=pB) (by decide) (Rc L) n0;have E:=ae L;clear H0 K5 g i d5 h5 o0 n0 D4 u L
 go_wp2_with fail
 refine k6.mono ?_;rintro e w6 g;obtain ⟨x,n5,i,rfl,d6,h6⟩:=g.ok fun c G k' r=>r.1.trans (Rc E.out);obtain ⟨z,rfl⟩:=Ug E.out i rfl;have D6:=ae (D5.out.trans d6)
 have k7:Calls X 13 #[az t.f,.string ⟨#[47,98]⟩] w6 (BP (fu t q m x 13 7 [(0,(b,5))]) (.tuple #[.agg #[Z .i64 1,Z .i64 2,Z .i64 5],Z .i64 0]) (whole w) w6):=by
  have:=sI (p:=pB) (by decide) h6;rw [if_pos (wR z).1,(wR z).2,(wR z).1] at this;exact this
 have h:=ae z;clear k6 g i d6 h6 D5 E z
 go_wp2_with fail
 refine k7.mono ?_;rintro e v ⟨rfl,d7,h7⟩;have D7:=ae ((D6.out.trans d7).alloc (Y #[Z .i64 1,Z .i64 2,Z .i64 5] 35 (0,0)));have p0:=(h7.alloc (Y #[Z .i64 1,Z .i64 2,Z .i64 5] 35 (0,0))).to (by ac_rfl:_=fu t q m x 13 7 [(0,(b,5))]*(pt v.heap.size (Y #[Z .i64 1,Z .i64 2,Z .i64 5] 35 (0,0))*whole w))
 have k8:Calls X 19 #[az t.f,.string ⟨#[47,98]⟩,Z .i64 1,Z .i64 3] (v.alloc (Y #[Z .i64 1,Z .i64 2,Z .i64 5] 35 (0,0))) (Ub 0 [101,108,108] (fu t q m x 13 7 [(0,(b,5))]) (fu t q m x 13 7 [(0,(b,5))]) (pt v.heap.size (Y #[Z .i64 1,Z .i64 2,Z .i64 5] 35 (0,0))*whole w) (v.alloc (Y #[Z .i64 1,Z .i64 2,Z .i64 5] 35 (0,0)))):=by
  have:=zA (p:=pB) (a:=1) (c:=3) (by decide) (yO h.out) p0;rw [yO h.out,NS h.out] at this;exact this
 have K8:=ae k8;clear k7 d7 h7 p0 D6 k8
 go_wp2_with fail
 refine K8.out.mono ?_;clear K8;generalize (v.alloc (Y #[Z .i64 1,Z .i64 2,Z .i64 5] 35 (0,0)))=Y0 at *;generalize v.heap.size=U at *;rintro e w8 ⟨d8,⟨H,_⟩|⟨_,V0,rfl,J⟩⟩
 .exact absurd rfl H
 obtain ⟨ua,uc,rfl⟩:=J.me.shape;have D8:=ae (D7.out.trans d8);have q0:=J.to (aI _ _ _);have R:=JA (p:=[47]) (by decide) (uS h.out).1 (by rw [(uS h.out).2];exact (show 2<=Dv by decide)) q0;rw [(uS h.out).1,(uS h.out).2] at R;have K9:=ae R;clear d8 J q0 D7 R y
 go_wp2_with fail
 refine K9.out.mono ?_;clear K9;rintro e w9 ⟨d9,⟨H,_⟩|⟨_,u2,G0,hp,B,rfl,A⟩⟩
 .exact absurd rfl H
 rw [JJ hp B] at A;obtain ⟨lg,lc,rfl,x0,K0,L0⟩:=rD (by simp) A;have D9:=ae (D8.out.trans d9);have r0:=A.to (aI _ _ _);have O:aQ x 1 [[100]]=(0,a):=(dN mB).symm.trans (Vb h.out);have F:=ae O;have d0:=ae (JX (by decide) mB O h.out.da r0);clear d9 A r0 D8 hp B L0 O
 go_wp2_with fail
 refine d0.out.mono ?_;clear d0;rintro e W0 ⟨rfl,g0,k0⟩;have W:=ae (D9.out.trans g0);have e0:=ae (Ju (by decide) mB (by simp) F.out h.out.da (by simp) k0);clear g0 k0 D9
 go_wp2_with fail
 refine e0.out.mono ?_;clear e0;rintro e X0 ⟨rfl,h0,l0⟩;have b0:=ae (W.out.trans h0);have f0:=ae (DN (by decide) mB Nu (by simp) F.out h.out.da (by decide) l0);clear h0 l0 W F
 go_wp2_with fail
 refine f0.out.mono ?_;clear f0;rintro e s ⟨rfl,i0,o⟩;have D0:=ae (b0.out.trans i0);have s0:s.cell? ⟨U,0,none⟩=Y' (Z .i64 1):=o.aA.cell 0;have s1:s.cell? ⟨U,1,none⟩=Y' (Z .i64 2):=o.aA.cell 1;have s2:s.cell? ⟨U,2,none⟩=Y' (Z .i64 5):=o.aA.cell 2;have cx:(convert 22 9 (.slice ua 3 uc)).run X s = .ok (.string ⟨#[101,108,108]⟩) s:=jz _ _ _ o.au.me;obtain ⟨T0,S0,e1,-,-,M⟩:=rD (by simp) o.ah;simp only [Value.slice.injEq,Option.some.injEq,Addr.mk.injEq] at e1;obtain ⟨⟨rfl,-⟩,-,rfl⟩:=e1;have c0:s.cell? ⟨lg,0,none⟩=Y' (.string ⟨#[98]⟩):=M 0 (by simp);have c1:s.cell? ⟨lg,1,none⟩=Y' (.string ⟨#[100]⟩):=M 1 (by simp);have F0:=ae o;have N0:(2:Int)<=(lc:Int):=by simp at x0;omega
 have R0:(lc:Int)<=9223372036854775807:=by omega
 clear i0 o b0 M x0 K0
 go_wp2_with fail
 go_ret
 exact ⟨rfl,F0.out.right.right.right.right,D0.out⟩
end Go.Proofs.Cl
namespace Go.SL
open RowKit Proofs.Nn Proofs.Ba Proofs.Cl
section
variable {T T1:Tr} {a b k k':Nat} {c:Int} {nm p:List UInt8}
structure One (n:Nat) (T:Tr) (b:Nat) (nm:List UInt8) (f:AF):Prop where
 b1:b≠1
 root:T 1=some (.dir [⟨b,nm⟩])
 b:T b=some (.file f)
theorem GN {k:Nat} (e:aU p=Y' [nm]) (g:2<=k):gp eU k p=0:=oJ e (by simp) (d:=1) (L:=[]) rfl rfl rfl (by simp) (by show 1+aJ 1<=k+aJ 0;unfold aJ;simp;omega) (by omega)
theorem MR {n k:Nat} (j:aU p=Y' [nm]) (h:lY n eU k 1 p c T1 k') (g:c=0):(∃ b,One n T1 b nm (fh 1))/\k'=k-2:=by
 obtain ⟨⟨b,m⟩,i⟩:=rY (d:=1) (L:=[]) j rfl rfl h g;have ne:b≠1:=by intro e;have:=m.no;rw [e] at this;cases this
 refine ⟨⟨b,ne,m.dir,m.new⟩,by rw [i];show k-1+aJ 0-aJ 1=_;unfold aJ;simp;omega⟩
theorem nJ {n:Nat} {f:AF} (e:aU p=Y' [nm]) (h:One n T b nm f):bG T p=(0,b):=(dN e).trans (gS h.root (kS b _))
end
end Go.SL
namespace Go.Proofs.Cl
open RowKit SL Proofs.Nn Proofs.Ba Proofs.Su Proofs.Fs
def Uc (w:Z') (e:Ending) (g:Z'):Prop:=e = .returned (.bool true)/\ag g (whole w)/\aj w g
end Go.Proofs.Cl
namespace Go.SL
open RowKit Proofs.Nn Proofs.Ba Proofs.Cl
section
variable {l m:List UInt8} {f:AF}
def sE (f:AF):Prop:=∀ i,f.pr i=true->i<7
theorem vK (h:sE f):bh f.pr<=8:=by
 unfold bh
 have j:jC f.pr<=7:=by
  unfold jC;have g:(List.range 256).countP f.pr<=(List.range 256).countP fun i=>decide (i<7):=List.countP_mono_left fun i _ e=>by simpa using h i e
  have o:((List.range 256).countP fun i=>decide (i<7))=7:=by decide +kernel
  omega
 have g:AL f.pr=false:=by
  unfold AL;rw [List.any_eq_false];intro i _ e;simp only [Bool.and_eq_true,decide_eq_true_eq] at e;have:=h i e.2;omega
 rw [g];simp;omega
theorem yQ:sE (fh 1):=fun i h=>by cases h
theorem CZ {o:Nat} (h:sE f) (j:o+l.length<=3100):sE (f.wr o l):=by
 intro i g;have e:(f.wr o l).pr i=(f.pr i || cK o l.length i):=rfl;rw [e,Bool.or_eq_true] at g;rcases g with g|g
 .exact h i g
 .unfold cK at g
  simp only [Bool.and_eq_true,decide_eq_true_eq] at g;omega
theorem F6 {k o:Nat} (h:sE f) (g:o+l.length<=3100) (j:8<=k):fX k o f l=0:=by
 unfold fX;have i:=vK (CZ (l:=l) h g);rw [if_neg (by omega),if_neg (by omega)]
 by_cases e:l=[]
 .rw [if_pos e]
 .rw [if_neg e,if_neg (by omega)]
structure ic (f:AF) (l:List UInt8):Prop where
 small:sE f
 sz:f.sz=l.length
 pR:∀ p,p<l.length->f.pR p=l.getD p 0
theorem yL:ic (fh 1) []:=⟨yQ,rfl,fun p h=>absurd h (Nat.not_lt_zero _)⟩
theorem B4 (h:ic f l) (g:l.length+m.length<=3100):ic (f.wr l.length m) (l++m):=by
 refine ⟨CZ h.small g,?_,fun p i=>?_⟩
 .show (if m.length=0 then f.sz else max f.sz (l.length+m.length))=_
  rw [h.sz,List.length_append]
  split <;> omega
 .show (if l.length<=p/\p<l.length+m.length then m.getD (p-l.length) 0 else f.pR p)=_
  rw [List.length_append] at i
  by_cases e:l.length<=p
  .rw [if_pos ⟨e,by omega⟩,Z0,Z0,List.getElem?_append_right e]
  .rw [if_neg (by omega),h.pR p (by omega),Z0,Z0,List.getElem?_append_left (by omega)]
theorem te (h:ic f l) (a c:Nat):f.sub a c=(l.drop a).take c:=by
 unfold AF.sub;rw [h.sz];apply List.ext_getElem
 .simp
 .intro i g j
  simp only [List.length_map,List.length_range] at g;have e:a+i<l.length:=by omega
  simp only [List.getElem_map,List.getElem_range,List.getElem_take,List.getElem_drop];rw [h.pR _ e,Z0,List.getElem?_eq_getElem e];rfl
end
end Go.SL

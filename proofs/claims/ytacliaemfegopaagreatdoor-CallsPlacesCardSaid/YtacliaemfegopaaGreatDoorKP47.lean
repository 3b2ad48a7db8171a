/- Steps. -/
import Derived.Test.YtacliaemfegopaaGreatDoorKP41
import Derived.Test.YtacliaemfegopaaGreatDoorKP46
set_option linter.all false
set_option maxRecDepth 99999
set_option maxHeartbeats 0
open Go.SL
open Go.Value renaming int->Z
open Go.Obj renaming cells->Y
open Go renaming World->Z'
open Go.Proofs.Tryz renaming prog->X
open Option renaming some->Y'
open Go.Proofs.Tryz
open List renaming getD->Y0
namespace Go.Proofs.Cl
open Go.RowKit Go.SL Go.Proofs.Nn Go.Proofs.Ba Go.Proofs.Su Go.Proofs.Fs
attribute [local go_sem] Oper.semAt_some
def GD (d n P:Nat) (w0:Z') (s:Nat):ai:=ex fun z:Nat × Hp × az=>fact (Lq n P 1 (J0 P n) z.2.2 Cl.qY)*(et s z.1 d n P (J0 P n)*(aL z.2.1 d z.2.2*(ak z.2.1*whole w0)))
def oz (a d:Nat):ai:=pt a (Y #[ay d] 24 (0,0))
section
variable {d n P:Nat} {w0:Z'} {S:Hp} {D:az} {cd cb:Nat}
theorem OL {i:Ar} {g:az} (j:n<=P) (h:O5 n P D none g i):Lq n P 1 (J0 P n) g Cl.qY:=by
 have e:=h.sj;exact ⟨e.jt.inv,e.jt.jn,e.bound,e.jP,e.sq⟩
theorem yT (L:nZ w0) (A:D.Ok) (x:D.Calm) (z:D.wait.length<=1000) (i:l8 n P=true) (B:D.sec.length=P+1) :
  Nr 60 #[ay cd,ay cb] ((oz cd d*aH cb (n:Int))*(aL S d D*(ak S*whole w0))) (GD d n P w0):=by
 intro w H h;refine aJ fun Q q=>?_;have t:ag w (aL S d (D.cU none)*(ak S*((oz cd d*aH cb (n:Int))*(whole w0*H)))):=by rw [An];exact h.to (by ac_rfl)
 have y:=ae (CA w S d n P D none _ t A x z i B Fa rfl fun w' J R=>L.pL (R.to (by ac_rfl:_=(J*((oz cd d*aH cb (n:Int))*H))*whole w0)));have U:w.cell? ⟨cd,0,none⟩=Y' (ay d):=(h.to (by unfold oz;ac_rfl:_=pt cd (Y #[ay d] 24 (0,0))*(aH cb (n:Int)*((aL S d D*(ak S*whole w0))*H)))).cell 0;have V:w.cell? ⟨cb,0,none⟩=Y' (Z .i64 (n:Int)):=(h.to (by unfold aH;ac_rfl:_=pt cb (Y #[Z .i64 (n:Int)] 3 (0,0))*(oz cd d*((aL S d D*(ak S*whole w0))*H)))).cell 0;have v:n<=P:=by have:=eh.1 i;omega
 have G:=ae v;clear h t A x z i B v
 go_enter func60,ntmps60
 go_wp2_with fail
 refine y.out.mono ?_;rintro e C O;rcases O with ⟨E,M,_⟩|⟨s,j,I,F,o3,W,rfl,g,r,o⟩
 .exact absurd rfl M
 have N:=o.ar.none rfl;subst N;rw [An] at g;have u:ag C (GD d n P w0 s*((oz cd d*aH cb (n:Int))*H)):=ag.aw.2 ⟨(j,I,F),(ag.au.2 ⟨OL G.out o,g⟩:ag C (fact _*_)).to (by ac_rfl)⟩;have K:=ae (q.out _ _ ⟨s,rfl,r,(u.to (by ac_rfl:_=(oz cd d*aH cb (n:Int))*(GD d n P w0 s*H))).right⟩);clear y o g u r q U V
 go_wp2_with fail
 exact K.out
def RT (d n P:Nat) (e:5*n+240<=2*P) (w0:Z') (s f m:Nat):ai:=ex fun j:Nat=>gK ⟨f,s,j,d,n,P⟩ (Ru n P e) m fG (n-2) 3 []*whole w0
theorem yG (g:5*n+240<=2*P) (t:4<=n) (y:n<=3840):NQ 62 #[] (GD d n P w0) (RT d n P g w0):=by
 intro s f m w H h;obtain ⟨⟨j,S,D⟩,o⟩:=ag.aw.1 (h.to (by ac_rfl:_=GD d n P w0 s*(pt f (Y #[ay s,.map (Y' m)] 66 (0,0))*(mp m []*H))));obtain ⟨z,q⟩:=ag.au.1 (o.to (ax _ _ _));have r:ag w (kP ⟨f,s,j,d,n,P⟩ ⟨J0 P n,D,Cl.qY,1⟩*(pt f (Y #[ay s,.map (Y' m)] 66 (0,0))*(mp m []*(whole w0*H)))):=lx (t:=⟨f,s,j,d,n,P⟩) (s:=⟨J0 P n,D,Cl.qY,1⟩) (S:=S) (q.to (by ac_rfl));refine (Gc (t:=⟨f,s,j,d,n,P⟩) (q:=Ru n P g) (J:=J0 P n) (D:=D) (m:=m) (F:=whole w0*H) t y z (r.to (by unfold gO;show _=_*(mp m []*_);ac_rfl))).mono ?_;rintro e B ⟨A,rfl,i,v,x,u⟩;refine ⟨rfl,i,ag.aw.2 ⟨j,?_⟩⟩;exact (dJ x v u).to (ax _ _ _).symm
def NV (d n:Nat) (v:Nat->Value) (w0:Z') (w:Z') (e:Ending) (g:Z'):Prop:=
 ∃ (t:Pl) (q:Dk t.n) (m:Nat),t.n=n/\t.d=d/\e = .returned (v t.f)/\aj w g/\ag g (gK t q m fG (n-2) 3 []*whole w0)
theorem yQ (w:Z') (H:nZ w0) (z:D.Ok) (x:D.Calm) (y:D.wait.length<=1000) (i:l8 n P=true) (A:D.sec.length=P+1) (h:ag w (aL S d D*(ak S*whole w0))) :
  Calls X 26 #[ay d,Z .i64 (n:Int)] w (NV d n (fun f=>.tuple #[ay f,Z .i64 0]) w0 w):=by
 refine aJ fun Q q=>?_;have J:=ot X;have F:=eh.1 i;have v:5*n+240<=2*P:=by omega
 have B:=fun (I:Z') (cd cb:Nat) E=>EA (dv:=d) (w:=I) (F:=emp) (enters func60 (by kernel_rfl) rfl) (enters func62 (by kernel_rfl) rfl) (yT (d:=d) (n:=n) (P:=P) (cd:=cd) (cb:=cb) (S:=S) H z x y i A) (yG v (by omega) (by omega)) E;have g:=(h.alloc (Y #[ay d] 24 (0,0))).alloc (Y #[Z .i64 (n:Int)] 3 (0,0));have o:=ae (((aj.refl w).alloc (Y #[ay d] 24 (0,0))).alloc (Y #[Z .i64 (n:Int)] 3 (0,0)));rw [World.size_alloc] at g;have C:=ae (B _ _ _ ((g.to (by unfold oz aH;ac_rfl:_=(oz w.heap.size d*aH (w.heap.size+1) (n:Int))*(aL S d D*(ak S*whole w0)))).lV));clear B g h z x y i A F
 go_enter func26,ntmps26
 go_wp2_with fail
 refine C.out.mono ?_;rintro e K ⟨s,f,m,rfl,r,t⟩;obtain ⟨j,u⟩:=ag.aw.1 t;have G:=ae (q.out _ _ ⟨⟨f,s,j,d,n,P⟩,Ru n P v,m,rfl,rfl,rfl,o.out.trans r,(u.to (ax _ _ _)).to (by rw [show (whole w0*emp:ai)=whole w0 from ku _])⟩);clear C r t u q o
 go_wp2_with fail
 exact G.out
end
theorem Au (w:Z') (B:nZ w) (n:Nat) (v:4<=n) (J:n<=40) :
  Calls X 8 #[Z .i64 (n:Int)] w fun e O=>∃ d,NV d n (fun f=>.tuple #[ay d,ay f]) w w e O:=by
 refine aJ fun Q i=>?_;obtain ⟨P,x⟩:∃ P:Nat,P=(5*n+241)/2:=⟨_,rfl⟩
 have g:=Ft w n;rw [Bt v (by omega),<- x] at g;have y:P<=221:=by omega
 have E:(P:Int)+1=((P+1:Nat):Int):=by omega
 have j:=ae E;have N:IntKind.i64.wrap ((P:Int)+1)=(P:Int)+1:=by rw [IntKind.wrap_i64];omega
 have C:=xi (P+1) (by omega) (by omega) w;have A:l8 n P=true:=eh.2 ⟨by omega,by omega,by omega,by omega,by omega⟩;have H:=ae A;have I:=ae B;have G:=ae y;clear x y A B v J E
 go_enter func8,ntmps8
 go_wp2_with fail
 (with_reducible refine g.mono ?_)
 rintro e F ⟨rfl,rfl⟩
 go_wp2_with fail
 rw [j.out]
 (with_reducible refine C.mono ?_)
 rintro e F ⟨d,rfl,s,o⟩;have z:=ae (yQ (S:=R7) (D:=az.fresh (P+1)) (d:=d) (n:=n) (P:=P) F I.out (KL (P+1) (by have:=G.out;omega)) ⟨rfl,rfl⟩ (by show (0:Nat)<=_;omega) H.out (by rw [OF]) (((s R7).xY).to (by ac_rfl)));have h:=ae o;clear g C s o j N
 go_wp2_with fail
 refine z.out.mono ?_;rintro e R ⟨t,q,m,M,K,rfl,r,u⟩;have L:=ae (i.out _ _ ⟨d,t,q,m,M,K,rfl,h.out.trans r,u⟩);clear z r u i h
 go_wp2_with fail
 exact L.out
end Go.Proofs.Cl
namespace Go.Proofs.Cl
open Go.RowKit Go.SL Go.Proofs.Nn Go.Proofs.Ba Go.Proofs.Su Go.Proofs.Fs
variable {t:Pl} {F:ai} {e:Ending}
theorem wM {n:Nat} {q:Dk t.n} {m k B:Nat} {T:Tr} {p:List UInt8} {f:AF} {w g:Z'} (h:I2 t q m T k B [] p F w e g) (r:(bX T p).1=0) (s:T (bX T p).2=Y' (.file f)) :
  e = .returned (.tuple #[Z .i64 0,Z .i64 0])/\aj w g/\ag g (gK t q m T k B [(0,((bX T p).2,0))]*F):=by
 have v:fZ T [] p=0:=by unfold fZ;rw [r,if_neg (by simp),s];rfl
 obtain ⟨d,⟨o,_⟩|⟨_,i,j,x,rfl,u⟩⟩:=h
 .exact absurd v o
 .have:i=0:=by
   rcases Nat.eq_zero_or_pos i with h|h
   .exact h
   .exact absurd (j 0 h) (by simp [aG])
  subst this;exact ⟨rfl,d,u⟩
theorem BW.ok {q:Dk t.n} {m k B:Nat} {T:Tr} {O:kg} {fd:Int} {o:Nat × Nat} {R:Int->Tr->Nat->Prop} {w j:Z'} (h:BW t q m T k B O fd o R F w e j) (s:∀ c g k',R c g k'->c=0) :
  ∃ g k',R 0 g k'/\e = .returned (Z .i64 0)/\aj w j/\ag j (gK t q m g k' (B+1) (bq O fd o)*F):=by
 obtain ⟨d,c,rfl,⟨u,⟨g,k',i⟩,_⟩|⟨rfl,g,k',i,r⟩⟩:=h
 .exact absurd (s _ _ _ i) u
 .exact ⟨g,k',i,rfl,d,r⟩
theorem kK (w:Z') (v:Value) (l:List UInt8) (h:Rd w v l):(convert 37 9 v).run X w = .ok (.string (str l)) w:=EE w v l h
theorem Al (w:Z') (hh:nZ w):Calls X 7 #[] w (OG w):=by
 have N:=Au w hh 20 (by decide) (by decide);rw [show ((20:Nat):Int)=20 from rfl] at N;clear hh
 go_enter func7,ntmps7
 go_wp2_with fail
 refine N.mono ?_;rintro e w1 ⟨d,t,q,m,hn,-,rfl,d1,y⟩;have y:ag w1 (gK t q m fG 18 3 []*whole w):=y;have Hn:=ae hn;have V:=ae d1
 -- Mkdir
 have k1:Calls X 16 #[ay t.f,.string ⟨#[47,100]⟩] w1 _:=M3 (p:=pD) (by decide) NP y;clear N y hn d1
 go_wp2_with fail
 refine k1.mono ?_;rintro e w2 g;obtain ⟨T1,n1,i,rfl,d2,h2⟩:=g.ok fun c G k' r=>r.1.trans NP;obtain ⟨⟨a,K⟩,rfl⟩:=O3 i rfl;have D2:=ae (V.out.trans d2);have k2:Calls X 9 #[ay t.f,.string ⟨#[47,100,47,97]⟩] w2 _:=zu (p:=GJ) (by decide) (NI K) h2;have C:=ae K;clear k1 g i d2 h2 V K
 -- Create
 go_wp2_with fail
 refine k2.mono ?_;rintro e w3 g;obtain ⟨T2,n2,i,rfl,d3,h3⟩:=g.ok fun c G k' r=>r.1.trans (NI C.out);obtain ⟨⟨b,u0⟩,rfl⟩:=Pd C.out i rfl;have D3:=ae (D2.out.trans d3);have k3:Calls X 11 #[ay t.f,.string ⟨#[47,100,47,97]⟩] w3 _:=Bo (p:=GJ) (by decide) (by decide) h3;have u:=ae u0;clear k2 g i d3 h3 D2 C u0
 -- Open
 go_wp2_with fail
 refine k3.mono ?_;rintro e j g;obtain ⟨rfl,d4,I⟩:=wM (n:=t.n) g (yY u.out).1 (yY u.out).2;rw [vB u.out] at I;have D4:=ae ((D3.out.trans d4).alloc (Y #[Z .u8 104,Z .u8 101,Z .u8 108,Z .u8 108,Z .u8 111] 5 (5,6)));have m0:ag (j.alloc (Y #[Z .u8 104,Z .u8 101,Z .u8 108,Z .u8 108,Z .u8 111] 5 (5,6))) (pt j.heap.size (Y (dG oL) 5 (5,6))*(gK t q m T2 14 5 [(0,(b,0))]*whole w)):=I.alloc (Y #[Z .u8 104,Z .u8 101,Z .u8 108,Z .u8 108,Z .u8 111] 5 (5,6));have H4:=m0.to (aE _ _ _);have Q:=yh (va:=Y' ⟨j.heap.size,0,none⟩) (vc:=oL.length) (l:=oL) (fd:=0) (id:=b) (at':=0) (f:=iM 1) (D:=pt j.heap.size (Y (dG oL) 5 (5,6))) (F:=whole w) (B:=5) (by decide) NK rfl u.out.fb (by decide) (by decide) (Nat.le_refl _) (fun G0 P B=>sm B.heap) H4;rw [show oL.length=5 from rfl] at Q;have K5:=ae Q;have H0:(convert 37 37 (.slice (Y' ⟨j.heap.size,0,none⟩) 5 5)).run X (j.alloc (Y #[Z .u8 104,Z .u8 101,Z .u8 108,Z .u8 108,Z .u8 111] 5 (0,0))) = .ok (.slice (Y' ⟨j.heap.size,0,none⟩) 5 5) (j.alloc (Y #[Z .u8 104,Z .u8 101,Z .u8 108,Z .u8 108,Z .u8 111] 5 (5,6))):=Go.Lib.run_convert_bytes_const (P:=X) j 37 5 #[Z .u8 104,Z .u8 101,Z .u8 108,Z .u8 108,Z .u8 111] 5 5 underlying37 underlying5;clear k3 g d4 I D3 Q m0 H4
 -- Write
 go_wp2_with fail
 refine K5.out.mono ?_;rintro e w5 g;obtain ⟨T4,n4,i,rfl,d5,h5⟩:=g.ok fun c G k' r=>r.1.trans NK;obtain ⟨L,rfl⟩:=Ph u.out i rfl;have D5:=ae (D4.out.trans d5);have o0:ag w5 (gK t q m T4 13 6 [(0,(b,5))]*(pt j.heap.size (Y (dG oL) 5 (5,6))*whole w)):=h5;have n0:=(o0.to (aE _ _ _)).right;have k6:Calls X 19 #[ay t.f,.string ⟨#[47,100,47,97]⟩,.string ⟨#[47,98]⟩] w5 _:=OB (p1:=GJ) (p2:=pB) (by decide) (Nx L) n0;have E:=ae L;clear H0 K5 g i d5 h5 o0 n0 D4 u L
 -- Link
 go_wp2_with fail
 refine k6.mono ?_;rintro e w6 g;obtain ⟨x,n5,i,rfl,d6,h6⟩:=g.ok fun c G k' r=>r.1.trans (Nx E.out);obtain ⟨z,rfl⟩:=Pe E.out i rfl;have D6:=ae (D5.out.trans d6)
 have k7:Calls X 20 #[ay t.f,.string ⟨#[47,98]⟩] w6 (Bi (gK t q m x 13 7 [(0,(b,5))]) (.tuple #[.agg #[Z .i64 1,Z .i64 2,Z .i64 5],Z .i64 0]) (whole w) w6):=by
  have:=Oe (p:=pB) (by decide) h6;rw [if_pos (s6 z).1,(s6 z).2,(s6 z).1] at this;exact this
 have h:=ae z;clear k6 g i d6 h6 D5 E z
 -- Stat
 go_wp2_with fail
 refine k7.mono ?_;rintro e v ⟨rfl,d7,h7⟩;have D7:=ae ((D6.out.trans d7).alloc (Y #[Z .i64 1,Z .i64 2,Z .i64 5] 48 (0,0)));have p0:=(h7.alloc (Y #[Z .i64 1,Z .i64 2,Z .i64 5] 48 (0,0))).to (by ac_rfl:_=gK t q m x 13 7 [(0,(b,5))]*(pt v.heap.size (Y #[Z .i64 1,Z .i64 2,Z .i64 5] 48 (0,0))*whole w))
 have k8:Calls X 21 #[ay t.f,.string ⟨#[47,98]⟩,Z .i64 1,Z .i64 3] (v.alloc (Y #[Z .i64 1,Z .i64 2,Z .i64 5] 48 (0,0))) (Om 0 [101,108,108] (gK t q m x 13 7 [(0,(b,5))]) (gK t q m x 13 7 [(0,(b,5))]) (pt v.heap.size (Y #[Z .i64 1,Z .i64 2,Z .i64 5] 48 (0,0))*whole w) (v.alloc (Y #[Z .i64 1,Z .i64 2,Z .i64 5] 48 (0,0)))):=by
  have:=OT (p:=pB) (a:=1) (c:=3) (by decide) (vQ h.out) p0;rw [vQ h.out,Ip h.out] at this;exact this
 have K8:=ae k8;clear k7 d7 h7 p0 D6 k8
 go_wp2_with fail
 refine K8.out.mono ?_;clear K8;generalize (v.alloc (Y #[Z .i64 1,Z .i64 2,Z .i64 5] 48 (0,0)))=X0 at *;generalize v.heap.size=U at *;rintro e w8 ⟨d8,⟨H,_⟩|⟨_,U0,rfl,J⟩⟩
 .exact absurd rfl H
 obtain ⟨ua,uc,rfl⟩:=J.lC.shape;have D8:=ae (D7.out.trans d8);have q0:=J.to (aE _ _ _);have R:=F3 (p:=[47]) (by decide) (su h.out).1 (by rw [(su h.out).2];exact (show 2<=yq by decide)) q0;rw [(su h.out).1,(su h.out).2] at R;have K9:=ae R;clear d8 J q0 D7 R y
 go_wp2_with fail
 refine K9.out.mono ?_;clear K9;rintro e w9 ⟨d9,⟨H,_⟩|⟨_,u2,G0,hp,B,rfl,A⟩⟩
 .exact absurd rfl H
 rw [Fz hp B] at A;obtain ⟨lg,lc,rfl,x0,K0,L0⟩:=pO (by simp) A;have D9:=ae (D8.out.trans d9);have r0:=A.to (aE _ _ _);have O:aT x 1 [[100]]=(0,a):=(e7 kT).symm.trans (QN h.out);have F:=ae O;have d0:=ae (Ev (by decide) kT O h.out.da r0);clear d9 A r0 D8 hp B L0 O
 go_wp2_with fail
 refine d0.out.mono ?_;clear d0;rintro e V0 ⟨rfl,g0,k0⟩;have W:=ae (D9.out.trans g0);have e0:=ae (Fo (by decide) kT (by simp) F.out h.out.da (by simp) k0);clear g0 k0 D9
 go_wp2_with fail
 refine e0.out.mono ?_;clear e0;rintro e W0 ⟨rfl,h0,l0⟩;have b0:=ae (W.out.trans h0);have f0:=ae (By (by decide) kT I7 (by simp) F.out h.out.da (by decide) l0);clear h0 l0 W F
 go_wp2_with fail
 refine f0.out.mono ?_;clear f0;rintro e s ⟨rfl,i0,o⟩;have D0:=ae (b0.out.trans i0);have s0:s.cell? ⟨U,0,none⟩=Y' (Z .i64 1):=o.aD.cell 0;have s1:s.cell? ⟨U,1,none⟩=Y' (Z .i64 2):=o.aD.cell 1;have s2:s.cell? ⟨U,2,none⟩=Y' (Z .i64 5):=o.aD.cell 2;have cx:(convert 37 9 (.slice ua 3 uc)).run X s = .ok (.string ⟨#[101,108,108]⟩) s:=kK _ _ _ o.aq.lC;obtain ⟨T0,S0,e1,-,-,M⟩:=pO (by simp) o.ah;simp only [Value.slice.injEq,Option.some.injEq,Addr.mk.injEq] at e1;obtain ⟨⟨rfl,-⟩,-,rfl⟩:=e1;have c0:s.cell? ⟨lg,0,none⟩=Y' (.string ⟨#[98]⟩):=M 0 (by simp);have c1:s.cell? ⟨lg,1,none⟩=Y' (.string ⟨#[100]⟩):=M 1 (by simp);have F0:=ae o;have N0:(2:Int)<=(lc:Int):=by simp at x0;omega
 have R0:(lc:Int)<=9223372036854775807:=by omega
 clear i0 o b0 M x0 K0
 go_wp2_with fail
 go_ret
 exact ⟨rfl,F0.out.right.right.right.right,D0.out⟩
end Go.Proofs.Cl
namespace Go.SL
open Go.RowKit Go.Proofs.Nn Go.Proofs.Ba Go.Proofs.Cl
section
variable {T T1:Tr} {a b k k':Nat} {c:Int} {nm p:List UInt8}
structure One (n:Nat) (T:Tr) (b:Nat) (nm:List UInt8) (f:AF):Prop where
 b1:b≠1
 root:T 1=some (.dir [⟨b,nm⟩])
 b:T b=some (.file f)
theorem NF {k:Nat} (e:aX p=Y' [nm]) (g:2<=k):fS fG k p=0:=tO e (by simp) (d:=1) (L:=[]) rfl rfl rfl (by simp) (by show 1+cD 1<=k+cD 0;unfold cD;simp;omega) (by omega)
theorem O8 {n k:Nat} (j:aX p=Y' [nm]) (h:lT n fG k 1 p c T1 k') (g:c=0):(∃ b,One n T1 b nm (iM 1))/\k'=k-2:=by
 obtain ⟨⟨b,m⟩,i⟩:=xd (d:=1) (L:=[]) j rfl rfl h g;have ne:b≠1:=by intro e;have:=m.no;rw [e] at this;cases this
 refine ⟨⟨b,ne,m.dir,m.new⟩,by rw [i];show k-1+cD 0-cD 1=_;unfold cD;simp;omega⟩
theorem pE {n:Nat} {f:AF} (e:aX p=Y' [nm]) (h:One n T b nm f):bX T p=(0,b):=(e7 e).trans (kr h.root (zZ b _))
end
abbrev pA:List UInt8:=[47,97]
theorem lr:aX pA=Y' [[97]]:=by decide
end Go.SL
namespace Go.Proofs.Cl
open Go.RowKit Go.SL Go.Proofs.Nn Go.Proofs.Ba Go.Proofs.Su Go.Proofs.Fs
def Rv (w:Z') (e:Ending) (g:Z'):Prop:=e = .returned (.bool true)/\ag g (whole w)/\aj w g
end Go.Proofs.Cl
namespace Go.SL
open Go.RowKit Go.Proofs.Nn Go.Proofs.Ba Go.Proofs.Cl
section
variable {l m:List UInt8} {f:AF}
def qi (f:AF):Prop:=∀ i,f.pr i=true->i<7
theorem uK (h:qi f):cm f.pr<=8:=by
 unfold cm
 have j:jo f.pr<=7:=by
  unfold jo;have g:(List.range 256).countP f.pr<=(List.range 256).countP fun i=>decide (i<7):=List.countP_mono_left fun i _ e=>by simpa using h i e
  have o:((List.range 256).countP fun i=>decide (i<7))=7:=by decide +kernel
  omega
 have g:xO f.pr=false:=by
  unfold xO;rw [List.any_eq_false];intro i _ e;simp only [Bool.and_eq_true,decide_eq_true_eq] at e;have:=h i e.2;omega
 rw [g];simp;omega
theorem qW:qi (iM 1):=fun i h=>by cases h
theorem ux {o:Nat} (h:qi f) (j:o+l.length<=3100):qi (f.wr o l):=by
 intro i g;have e:(f.wr o l).pr i=(f.pr i || cI o l.length i):=rfl;rw [e,Bool.or_eq_true] at g;rcases g with g|g
 .exact h i g
 .unfold cI at g
  simp only [Bool.and_eq_true,decide_eq_true_eq] at g;omega
theorem KG:cm f.pr >= 1:=by unfold cm;omega
theorem xq {k o:Nat} (h:qi f) (g:o+l.length<=3100) (j:8<=k):gN k o f l=0:=by
 unfold gN;have i:=uK (ux (l:=l) h g);rw [if_neg (by omega),if_neg (by omega)]
 by_cases e:l=[]
 .rw [if_pos e]
 .rw [if_neg e,if_neg (by omega)]
structure n9 (f:AF) (l:List UInt8):Prop where
 small:qi f
 sz:f.sz=l.length
 p9:∀ p,p<l.length->f.p9 p=l.getD p 0
theorem FP:n9 (iM 1) []:=⟨qW,rfl,fun p h=>absurd h (Nat.not_lt_zero _)⟩
theorem Ii (h:n9 f l) (g:l.length+m.length<=3100):n9 (f.wr l.length m) (l++m):=by
 refine ⟨ux h.small g,?_,fun p i=>?_⟩
 .show (if m.length=0 then f.sz else max f.sz (l.length+m.length))=_
  rw [h.sz,List.length_append]
  split <;> omega
 .show (if l.length<=p/\p<l.length+m.length then m.getD (p-l.length) 0 else f.p9 p)=_
  rw [List.length_append] at i
  by_cases e:l.length<=p
  .rw [if_pos ⟨e,by omega⟩,Y0,Y0,List.getElem?_append_right e]
  .rw [if_neg (by omega),h.p9 p (by omega),Y0,Y0,List.getElem?_append_left (by omega)]
theorem qq (h:n9 f l) (a c:Nat):f.sub a c=(l.drop a).take c:=by
 unfold AF.sub;rw [h.sz];apply List.ext_getElem
 .simp
 .intro i g j
  simp only [List.length_map,List.length_range] at g;have e:a+i<l.length:=by omega
  simp only [List.getElem_map,List.getElem_range,List.getElem_take,List.getElem_drop];rw [h.p9 _ e,Y0,List.getElem?_eq_getElem e];rfl
theorem Iy {T T4:Tr} {b k k' n:Nat} {c:Int} {nm:List UInt8} (g:One n T b nm f) (j:n9 f l) (r:l.length+m.length<=3100) (u:8<=k) (h:fT T k b l.length f m c T4 k') (t:c=0) :
  ∃ q,One n T4 b nm q/\n9 q (l++m)/\k<=k'+8:=by
 obtain ⟨-,s⟩:=h;rcases s t with ⟨e,i,o⟩|⟨_,i,o⟩
 .rw [i,o,e,List.append_nil]
  exact ⟨f,g,j,by omega⟩
 .refine ⟨f.wr l.length m,?_,Ii j r,?_⟩
  .rw [i]
   exact ⟨g.b1,(aS _ _ (Ne.symm g.b1)).trans g.root,bJ _ _ _⟩
  .have:=uK (ux (l:=m) j.small r)
   have:=KG (f:=f);omega
end
end Go.SL

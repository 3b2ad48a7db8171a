/- Steps. -/
import Derived.Test.YtdickhgiahcnaaaGreatDoorNP42
import Derived.Test.YtdickhgiahcnaaaGreatDoorNP47
set_option linter.all false
set_option maxRecDepth 99999
set_option maxHeartbeats 0
open Go.SL
open Go.Value renaming int->Z
open Go.IntKind renaming i64->Y,u8->Z'
open Go.Obj renaming cells->X
open Go renaming World->Y'
open Go.Proofs.Tryz renaming prog->W
namespace Go.Proofs.Cl
open RowKit SL Proofs.Nn Proofs.Ba Proofs.Su Proofs.Fs
attribute [local go_sem] Oper.semAt_some
def Nf (d n P:Nat) (w0:Y') (s:Nat):ai:=ex fun z:Nat × Hp × aB=>fact (Lq n P 1 (J0 P n) z.2.2 Cl.sr)*(eN s z.1 d n P (J0 P n)*(aR z.2.1 d z.2.2*(al z.2.1*whole w0)))
def rQ (a d:Nat):ai:=pt a (X #[az d] 27 (0,0))
section
variable {d n P:Nat} {w0:Y'} {S:Hp} {D:aB} {cd cb:Nat}
def Sg {c:Ar} {b:aB} (e:n<=P) (h:Sc n P D none b c):Lq n P 1 (J0 P n) b Cl.sr:=by
 have a:=h.sj;exact ⟨a.jt.inv,a.jt.jn,a.bound,a.jP,a.sq⟩
def CH (z:pV w0) (p:D.Ok) (l:D.Calm) (o:D.wait.length<=1000) (b:nN n P=true) (q:D.sec.length=P+1) :
  Rg 58 #[az cd,az cb] ((rQ cd d*aE cb (n:Int))*(aR S d D*(al S*whole w0))) (Nf d n P w0):=by
 intro w H h;refine aF fun Q f=>?_;have i:ag w (aR S d (D.dj none)*(al S*((rQ cd d*aE cb (n:Int))*(whole w0*H)))):=by rw [Bk];exact h.u00
 have m:=ae (EK w S d n P D none _ i p l o b q Jp rfl fun L x F=>z.qz (F.t00 ((x*((rQ cd d*aE cb (n:Int))*H))*whole w0)));have G:w.cell? ⟨cd,0,none⟩=some (az d):=(h.to (by unfold rQ;ac_rfl:_=pt cd (X #[az d] 27 (0,0))*(aE cb (n:Int)*((aR S d D*(al S*whole w0))*H)))).cell 0;have I:w.cell? ⟨cb,0,none⟩=some (Z Y (n:Int)):=(h.to (by unfold aE;ac_rfl:_=pt cb (X #[Z Y (n:Int)] 3 (0,0))*(rQ cd d*((aR S d D*(al S*whole w0))*H)))).cell 0;have k:n<=P:=by have:=eI.1 b;omega
 have u:=ae k;clear h i p l o b q k
 go_in
 go_wp2_with fail
 apply m.o.mono;rintro e r C;rcases C with ⟨E,A,_⟩|⟨s,j,v,t,K,J,rfl,a,g,c⟩
 .exact absurd rfl A
 have B:=c.ar.none rfl;subst B;rw [Bk] at a;have h4:ag r (Nf d n P w0 s*((rQ cd d*aE cb (n:Int))*H)):=ag.aw.2 ⟨(j,v,t),(ag.aq.2 ⟨Sg u.o c,a⟩:ag r (fact _*_)).u00⟩;have y:=ae (f.o _ _ ⟨s,rfl,g,(h4.t00 ((rQ cd d*aE cb (n:Int))*(Nf d n P w0 s*H))).right⟩);clear m c a h4 g f G I
 exact Zz y.o
def Wj (d n P:Nat) (a:5*n+240<=2*P) (w0:Y') (s f m:Nat):ai:=ex fun j:Nat=>gm ⟨f,s,j,d,n,P⟩ (Wy n P a) m gJ (n-2) 3 []*whole w0
def A5 (a:5*n+240<=2*P) (h4:4<=n) (o:n<=3840):Ru 60 #[] (Nf d n P w0) (Wj d n P a w0):=by
 intro s f m w H h;obtain ⟨⟨j,S,D⟩,c⟩:=ag.aw.1 (h.t00 (Nf d n P w0 s*(pt f (X #[az s,.map (some m)] 97 (0,0))*(mp m []*H))));obtain ⟨p,g⟩:=ag.aq.1 (c.to (ay _ _ _));have i:ag w (lI ⟨f,s,j,d,n,P⟩ ⟨J0 P n,D,Cl.sr,1⟩*(pt f (X #[az s,.map (some m)] 97 (0,0))*(mp m []*(whole w0*H)))):=mC (t:=⟨f,s,j,d,n,P⟩) (s:=⟨J0 P n,D,Cl.sr,1⟩) (S:=S) (g.u00);refine (Jy (t:=⟨f,s,j,d,n,P⟩) (q:=Wy n P a) (J:=J0 P n) (D:=D) (m:=m) (F:=whole w0*H) h4 o p (i.to (by unfold gS;show _=_*(mp m []*_);ac_rfl))).mono ?_;rintro e r ⟨q,rfl,b,k,l,h5⟩;refine ⟨rfl,b,ag.aw.2 ⟨j,?_⟩⟩;exact (eO l k h5).to (ay _ _ _).symm
def Q7 (d n:Nat) (v:Nat->Value) (w0:Y') (w:Y') (e:Ending) (a:Y'):Prop:=
 ∃ (t:Pl) (q:Dk t.n) (m:Nat),t.n=n/\t.d=d/\e = .returned (v t.f)/\aj w a/\ag a (gm t q m gJ (n-2) 3 []*whole w0)
def By (w:Y') (A:pV w0) (r:D.Ok) (p:D.Calm) (q:D.wait.length<=1000) (b:nN n P=true) (t:D.sec.length=P+1) (h:ag w (aR S d D*(al S*whole w0))) :
  Calls W 23 #[az d,Z Y (n:Int)] w (Q7 d n (fun f=>.tuple #[az f,Z Y 0]) w0 w):=by
 refine aF fun Q g=>?_;have C:=nH W;have y:=eI.1 b;have o:5*n+240<=2*P:=Om0
 have u:=fun (B:Y') (cd cb:Nat) x=>Jx (dv:=d) (w:=B) (F:=emp) (enters Tryz.func58 Kr0 rfl) (enters Tryz.func60 Kr0 rfl) (CH (d:=d) (n:=n) (P:=P) (cd:=cd) (cb:=cb) (S:=S) A r p q b t) (A5 o Om0 Om0) x;have a:=(h.alloc (X #[az d] 27 (0,0))).alloc (X #[Z Y (n:Int)] 3 (0,0));have c:=ae (((aj.refl w).alloc (X #[az d] 27 (0,0))).alloc (X #[Z Y (n:Int)] 3 (0,0)));rw [World.size_alloc] at a;have v:=ae (u _ _ _ ((a.to (by unfold rQ aE;ac_rfl:_=(rQ w.heap.size d*aE (w.heap.size+1) (n:Int))*(aR S d D*(al S*whole w0)))).mu));clear u a h r p q b t y
 go_in
 go_wp2_with fail
 apply v.o.mono;rintro e E ⟨s,f,m,rfl,i,k⟩;obtain ⟨j,l⟩:=ag.aw.1 k;have z:=ae (g.o _ _ ⟨⟨f,s,j,d,n,P⟩,Wy n P o,m,rfl,rfl,rfl,c.o.trans i,(l.to (ay _ _ _)).to (by rw [show (whole w0*emp:ai)=whole w0 from rV _])⟩);clear v i k l g c
 exact Zz z.o
end
def Ck (w:Y') (s:pV w) (n:Nat) (h4:4<=n) (B:n<=40) :
  Calls W 5 #[Z Y (n:Int)] w fun e H=>∃ d,Q7 d n (fun f=>.tuple #[az d,az f]) w w e H:=by
 refine aF fun Q c=>?_;obtain ⟨P,l⟩:∃ P:Nat,P=(5*n+241)/2:=⟨_,rfl⟩
 have a:=GN w n;rw [Fj h4 Om0,<- l] at a;have o:P<=221:=Om0
 have v:(P:Int)+1=((P+1:Nat):Int):=Om0
 have g:=ae v;have G:IntKind.i64.wrap ((P:Int)+1)=(P:Int)+1:=by rw [IntKind.wrap_i64];omega
 have u:=zi (P+1) Om0 Om0 w;have r:nN n P=true:=eI.2 ⟨Om0,Om0,Om0,Om0,Om0⟩;have z:=ae r;have A:=ae s;have y:=ae o;clear l o r s h4 B v
 go_in
 go_wp2_with fail
 (with_reducible apply a.mono)
 rintro e x ⟨rfl,rfl⟩
 go_wp2_with fail
 rw [g.o]
 (with_reducible apply u.mono)
 rintro e x ⟨d,rfl,j,h⟩;have p:=ae (By (S:=WS) (D:=aB.fresh (P+1)) (d:=d) (n:=n) (P:=P) x A.o (Ni (P+1) (by have:=y.o;omega)) ⟨rfl,rfl⟩ (by show (0:Nat)<=_;omega) z.o (by rw [Tk]) (((j WS).zL).u00));have b:=ae h;clear a u j h g G
 go_wp2_with fail
 apply p.o.mono;rintro e I ⟨t,q,m,F,C,rfl,i,k⟩;have E:=ae (c.o _ _ ⟨d,t,q,m,F,C,rfl,b.o.trans i,k⟩);clear p i k c b
 exact Zz E.o
end Go.Proofs.Cl
namespace Go.Proofs.Cl
open RowKit SL Proofs.Nn Proofs.Ba Proofs.Su Proofs.Fs
variable {t:Pl} {T:Tr} {F:ai} {e:Ending}
def I5 {n:Nat} {q:Dk t.n} {m k B:Nat} {p:List UInt8} {f:AF} {w a:Y'} (h:Re t q m T k B [] p F w e a) (i:(bO T p).1=0) (j:T (bO T p).2=some (.file f)) :
  e = .returned (.tuple #[Z Y 0,Z Y 0])/\aj w a/\ag a (gm t q m T k B [(0,((bO T p).2,0))]*F):=by
 have l:iq T [] p=0:=by unfold iq;rw [i,if_neg Si0,j];rfl
 obtain ⟨d,⟨g,_⟩|⟨_,b,c,o,rfl,h4⟩⟩:=h
 .exact absurd l g
 .have:b=0:=by
   rcases Nat.eq_zero_or_pos b with h|h
   .exact h
   .exact absurd (c 0 h) (by simp [aM])
  subst this;exact ⟨rfl,d,h4⟩
def En.ok {q:Dk t.n} {m k B:Nat} {O:jj} {fd:Int} {o:Nat × Nat} {R:Int->Tr->Nat->Prop} {w g:Y'} (h:En t q m T k B O fd o R F w e g) (j:∀ c a b,R c a b->c=0) :
  ∃ a b,R 0 a b/\e = .returned (Z Y 0)/\aj w g/\ag g (gm t q m a b (B+1) (im O fd o)*F):=by
 obtain ⟨d,c,rfl,⟨l,⟨a,b,f⟩,_⟩|⟨rfl,a,b,f,i⟩⟩:=h
 .exact absurd (j _ _ _ f) l
 .exact ⟨a,b,f,rfl,d,i⟩
def wb (w:Y') (v:Value) (l:List UInt8) (h:Rd w v l):(convert 23 9 v).run W w = .ok (.string (str l)) w:=J1 w v l h
def A7 (w:Y') (hh:pV w):Calls W 4 #[] w (Tp w):=by
 have F:=Ck w hh 20 De0 De0;rw [show ((20:Nat):Int)=20 from rfl] at F;clear hh
 go_in
 go_wp2_with fail
 apply F.mono;rintro e w1 ⟨d,t,q,m,hn,-,rfl,d1,r⟩;have r:ag w1 (gm t q m gJ 18 3 []*whole w):=r;have Hn:=ae hn;have L:=ae d1
 have k1:Calls W 13 #[az t.f,.string ⟨#[47,100]⟩] w1 _:=PM (p:=pD) De0 r;clear F r hn d1
 go_wp2_with fail
 apply k1.mono;rintro e w2 a;obtain ⟨T1,n1,f,rfl,d2,h2⟩:=a.ok fun c A H j=>j.1.trans Ud;obtain ⟨⟨H0,q0⟩,rfl⟩:=Tj f rfl;have O:=ae (L.o.trans d2);have k2:Calls W 14 #[az t.f,.string ⟨#[47,100,47,97]⟩] w2 _:=NW (p:=Ml) De0 h2;have x:=ae q0;clear k1 a f d2 h2 L q0
 go_wp2_with fail
 apply k2.mono;rintro e w3 a;obtain ⟨T2,n2,f,rfl,d3,h3⟩:=a.ok fun c A H j=>j.1.trans (VI x.o);obtain ⟨⟨b,r0⟩,rfl⟩:=SY x.o f rfl;have Q:=ae (O.o.trans d3);have k3:Calls W 15 #[az t.f,.string ⟨#[47,100,47,97]⟩] w3 _:=St (p:=Ml) De0 De0 h3;have l:=ae r0;clear k2 a f d3 h3 O x r0
 go_wp2_with fail
 apply k3.mono;rintro e g a;obtain ⟨rfl,d4,h4⟩:=I5 (n:=t.n) a (Cj l.o).1 (Cj l.o).2;rw [yR l.o] at h4;have R:=ae ((Q.o.trans d4).alloc (X #[Z Z' 104,Z Z' 101,Z Z' 108,Z Z' 108,Z Z' 111] 5 (5,6)));have k0:ag (g.alloc (X #[Z Z' 104,Z Z' 101,Z Z' 108,Z Z' 108,Z Z' 111] 5 (5,6))) (pt g.heap.size (X (ed qF) 5 (5,6))*(gm t q m T2 14 5 [(0,(b,0))]*whole w)):=h4.alloc (X #[Z Z' 104,Z Z' 101,Z Z' 108,Z Z' 108,Z Z' 111] 5 (5,6));have H4:=k0.to (aD _ _ _);have I:=OZ (va:=some ⟨g.heap.size,0,none⟩) (vc:=qF.length) (l:=qF) (fd:=0) (id:=b) (at':=0) (f:=lx 1) (D:=pt g.heap.size (X (ed qF) 5 (5,6))) (F:=whole w) (B:=5) De0 rfl l.o.fb De0 De0 (Nat.le_refl _) (fun G0 P v=>zU v.heap) H4;rw [show qF.length=5 from rfl] at I;have K5:=ae I;have K0:(convert 23 23 (.slice (some ⟨g.heap.size,0,none⟩) 5 5)).run W (g.alloc (X #[Z Z' 104,Z Z' 101,Z Z' 108,Z Z' 108,Z Z' 111] 5 (0,0))) = .ok (.slice (some ⟨g.heap.size,0,none⟩) 5 5) (g.alloc (X #[Z Z' 104,Z Z' 101,Z Z' 108,Z Z' 108,Z Z' 111] 5 (5,6))):=Go.Lib.run_convert_bytes_const (P:=W) g 23 5 #[Z Z' 104,Z Z' 101,Z Z' 108,Z Z' 108,Z Z' 111] 5 5 Tryz.underlying23 Tryz.underlying5;clear k3 a d4 h4 Q I k0 H4
 go_wp2_with fail
 apply K5.o.mono;rintro e w5 a;obtain ⟨T4,n4,f,rfl,d5,h5⟩:=a.ok fun c A H j=>j.1.trans Vs;obtain ⟨u0,rfl⟩:=Ti l.o f rfl;have T:=ae (R.o.trans d5);have m0:ag w5 (gm t q m T4 13 6 [(0,(b,5))]*(pt g.heap.size (X (ed qF) 5 (5,6))*whole w)):=h5;have l0:=(m0.to (aD _ _ _)).right;have k6:Calls W 17 #[az t.f,.string ⟨#[47,100,47,97]⟩,.string ⟨#[47,98]⟩] w5 _:=Si (p1:=Ml) (p2:=pB) De0 l0;have y:=ae u0;clear K0 K5 a f d5 h5 m0 l0 R l u0
 go_wp2_with fail
 apply k6.mono;rintro e w6 a;obtain ⟨p,n5,f,rfl,d6,h6⟩:=a.ok fun c A H j=>j.1.trans (Uf y.o);obtain ⟨s,rfl⟩:=Sw y.o f rfl;have U:=ae (T.o.trans d6)
 have k7:Calls W 7 #[az t.f,.string ⟨#[47,98]⟩] w6 (xz (gm t q m p 13 7 [(0,(b,5))]) (.tuple #[.agg #[Z Y 1,Z Y 2,Z Y 5],Z Y 0]) (whole w) w6):=by
  have:=LY (p:=pB) De0 h6;rw [if_pos (vI s).1,(vI s).2,(vI s).1] at this;exact this
 have h:=ae s;clear k6 a f d6 h6 T y s
 go_wp2_with fail
 apply k7.mono;rintro e o ⟨rfl,d7,h7⟩;have V:=ae ((U.o.trans d7).alloc (X #[Z Y 1,Z Y 2,Z Y 5] 34 (0,0)));have n0:=(h7.alloc (X #[Z Y 1,Z Y 2,Z Y 5] 34 (0,0))).t00 (gm t q m p 13 7 [(0,(b,5))]*(pt o.heap.size (X #[Z Y 1,Z Y 2,Z Y 5] 34 (0,0))*whole w))
 have k8:Calls W 9 #[az t.f,.string ⟨#[47,98]⟩,Z Y 1,Z Y 3] (o.alloc (X #[Z Y 1,Z Y 2,Z Y 5] 34 (0,0))) (SH 0 [101,108,108] (gm t q m p 13 7 [(0,(b,5))]) (gm t q m p 13 7 [(0,(b,5))]) (pt o.heap.size (X #[Z Y 1,Z Y 2,Z Y 5] 34 (0,0))*whole w) (o.alloc (X #[Z Y 1,Z Y 2,Z Y 5] 34 (0,0)))):=by
  have:=Mf (p:=pB) (a:=1) (c:=3) De0 n0;rw [J8 h.o,NG h.o] at this;exact this
 have K8:=ae k8;clear k7 d7 h7 n0 U k8
 go_wp2_with fail
 apply K8.o.mono;clear K8;generalize (o.alloc (X #[Z Y 1,Z Y 2,Z Y 5] 34 (0,0)))=Z0 at *;generalize o.heap.size=K at *;rintro e w8 ⟨d8,⟨B,_⟩|⟨_,W0,rfl,C⟩⟩
 .exact absurd rfl B
 obtain ⟨ua,uc,rfl⟩:=C.pA.shape;have D8:=ae (V.o.trans d8);have o0:=C.to (aD _ _ _);have J:=y4 (p:=[47]) De0 (by rw [(zP h.o).2];exact (show 2<=zj by decide)) o0;rw [(zP h.o).1,(zP h.o).2] at J;have K9:=ae J;clear d8 C o0 V J r
 go_wp2_with fail
 apply K9.o.mono;clear K9;rintro e w9 ⟨d9,⟨B,_⟩|⟨_,u2,G0,hp,v,rfl,u⟩⟩
 .exact absurd rfl B
 rw [J6 hp v] at u;obtain ⟨lg,lc,rfl,x0,L0,N0⟩:=rL Si0 u;have D9:=ae (D8.o.trans d9);have p0:=u.to (aD _ _ _);have G:aO p 1 [[100]]=(0,H0):=(gy mL).symm.trans (VD h.o);have z:=ae G;have b0:=ae (I9 De0 mL G h.o.da p0);clear d9 u p0 D8 hp v N0 G
 go_wp2_with fail
 apply b0.o.mono;clear b0;rintro e X0 ⟨rfl,f0,i0⟩;have M:=ae (D9.o.trans f0);have d0:=ae (Il De0 mL Si0 z.o h.o.da Si0 i0);clear f0 i0 D9
 go_wp2_with fail
 apply d0.o.mono;clear d0;rintro e Y0 ⟨rfl,g0,j0⟩;have N:=ae (M.o.trans g0);have e0:=ae (EU De0 mL Ll Si0 z.o h.o.da De0 j0);clear g0 j0 M z
 go_wp2_with fail
 apply e0.o.mono;clear e0;rintro e k ⟨rfl,h0,i⟩;have D0:=ae (N.o.trans h0);have s0:k.cell? ⟨K,0,none⟩=some (Z Y 1):=i.aA.cell 0;have s1:k.cell? ⟨K,1,none⟩=some (Z Y 2):=i.aA.cell 1;have s2:k.cell? ⟨K,2,none⟩=some (Z Y 5):=i.aA.cell 2;have cx:(convert 23 9 (.slice ua 3 uc)).run W k = .ok (.string ⟨#[101,108,108]⟩) k:=wb _ _ _ i.au.pA;obtain ⟨V0,T0,e1,-,-,E⟩:=rL Si0 i.ah;simp only [Value.slice.injEq,Option.some.injEq,Addr.mk.injEq] at e1;obtain ⟨⟨rfl,-⟩,-,rfl⟩:=e1;have c0:k.cell? ⟨lg,0,none⟩=some (.string ⟨#[98]⟩):=E 0 Si0;have c1:k.cell? ⟨lg,1,none⟩=some (.string ⟨#[100]⟩):=E 1 Si0;have F0:=ae i;have R0:(2:Int)<=(lc:Int):=by simp at x0;omega
 have S0:(lc:Int)<=9223372036854775807:=Om0
 clear h0 i N E x0 L0
 go_wp2_with fail
 go_ret
 exact ⟨rfl,F0.o.right.right.right.right,D0.o⟩
def WB (w:Y') (e:Ending) (a:Y'):Prop:=e = .returned (.bool true)/\ag a (whole w)/\aj w a
end Go.Proofs.Cl

/- Steps. -/
import Derived.Test.YtacliaemfegopaaGreatDoorOP41
import Derived.Test.YtacliaemfegopaaGreatDoorOP47
set_option linter.all false
set_option maxRecDepth 99999
set_option maxHeartbeats 0
open Go.SL
open Go.Value renaming int->Z,bool->Y'
open Go.Obj renaming cells->Y
open Go renaming World->V
open Go.Proofs.Tryz renaming prog->X
open Option renaming some->W,none->R
open Bool renaming true->Z',false->U
open Go.Proofs.Tryz
open Prod renaming fst->A1
open List renaming length_cons->E1,getElem?_toArray->K1
open Array renaming ext_getElem?->L1
namespace Go.Proofs.Cl
open Go.RowKit Go.SL Go.Proofs.Nn Go.Proofs.Ba Go.Proofs.Su Go.Proofs.Fs
attribute [local go_sem] Oper.semAt_some
def Mw (d n P:Nat) (w0:V) (s:Nat):ai:=ex fun z:Nat × Hp × aB=>fact (Lq n P 1 (J0 P n) z.2.2 Cl.rW)*(eE s z.1 d n P (J0 P n)*(aT z.2.1 d z.2.2*(ak z.2.1*whole w0)))
def qF (a d:Nat):ai:=pt a (Y #[ay d] 24 (0,0))
section
variable {d n P:Nat} {w0:V} {S:Hp} {D:aB} {cd cb:Nat}
theorem RG {i:Ar} {g:aB} (l:n<=P) (h:Qb n P D R g i):Lq n P 1 (J0 P n) g Cl.rW:=by
 have e:=h.sj;exact ⟨e.jt.inv,e.jt.jn,e.bound,e.jP,e.sq⟩
theorem AZ (J:oL w0) (z:D.Ok) (u:D.Calm) (y:D.wait.length<=1000) (g:nE n P=Z') (A:D.sec.length=P+1) :
  PS 60 #[ay cd,ay cb] ((qF cd d*aP cb (n:Int))*(aT S d D*(ak S*whole w0))) (Mw d n P w0):=by
 intro w H h;refine aH fun c0 l=>?_;have q:ag w (aT S d (D.dm R)*(ak S*((qF cd d*aP cb (n:Int))*(whole w0*H)))):=by rw [BW];exact h.to (by ac_rfl)
 have v:=ae (CX w S d n P D R _ q z u y g A IU rfl fun w' G N=>J.pE (N.to (by ac_rfl:_=(G*((qF cd d*aP cb (n:Int))*H))*whole w0)));have Q:w.cell? ⟨cd,0,R⟩=W (ay d):=(h.to (by unfold qF;ac_rfl:_=pt cd (Y #[ay d] 24 (0,0))*(aP cb (n:Int)*((aT S d D*(ak S*whole w0))*H)))).cell 0;have k1:w.cell? ⟨cb,0,R⟩=W (Z .i64 (n:Int)):=(h.to (by unfold aP;ac_rfl:_=pt cb (Y #[Z .i64 (n:Int)] 3 (0,0))*(qF cd d*((aT S d D*(ak S*whole w0))*H)))).cell 0;have t:n<=P:=by have:=eC.1 g;omega
 have E:=ae t;clear h q z u y g A t
 go_enter func60,ntmps60
 go_wp2_with fail
 refine v.out.mono ?_;rintro d0 B M;rcases M with ⟨b0,K,_⟩|⟨s,j,F,C,o3,e0,rfl,e,m,i⟩
 .exact absurd rfl K
 have L:=i.ar.none rfl;subst L;rw [BW] at e;have r:ag B (Mw d n P w0 s*((qF cd d*aP cb (n:Int))*H)):=ag.aw.2 ⟨(j,F,C),(ag.aq.2 ⟨RG E.out i,e⟩:ag B (fact _*_)).to (by ac_rfl)⟩;have I:=ae (l.out _ _ ⟨s,rfl,m,(r.to (by ac_rfl:_=(qF cd d*aP cb (n:Int))*(Mw d n P w0 s*H))).right⟩);clear v i e r m l Q k1
 go_wp2_with fail
 exact I.out
def Ui (d n P:Nat) (e:5*n+240<=2*P) (w0:V) (s f m:Nat):ai:=ex fun j:Nat=>ig ⟨f,s,j,d,n,P⟩ (Um n P e) m eQ (n-2) 3 []*whole w0
theorem A7 (g:5*n+240<=2*P) (t:4<=n) (z:n<=3840):Pr 62 #[] (Mw d n P w0) (Ui d n P g w0):=by
 intro s f m w H h;obtain ⟨⟨j,S,D⟩,l⟩:=ag.aw.1 (h.to (by ac_rfl:_=Mw d n P w0 s*(pt f (Y #[ay s,.map (W m)] 66 (0,0))*(mp m []*H))));obtain ⟨A,q⟩:=ag.aq.1 (l.to (ax _ _ _));have r:ag w (pV ⟨f,s,j,d,n,P⟩ ⟨J0 P n,D,Cl.rW,1⟩*(pt f (Y #[ay s,.map (W m)] 66 (0,0))*(mp m []*(whole w0*H)))):=lX (t:=⟨f,s,j,d,n,P⟩) (s:=⟨J0 P n,D,Cl.rW,1⟩) (S:=S) (q.to (by ac_rfl));refine (GY (t:=⟨f,s,j,d,n,P⟩) (q:=Um n P g) (J:=J0 P n) (D:=D) (m:=m) (F:=whole w0*H) t z A (r.to (by unfold gU;show _=_*(mp m []*_);ac_rfl))).mono ?_;rintro e C ⟨B,rfl,i,v,y,u⟩;refine ⟨rfl,i,ag.aw.2 ⟨j,?_⟩⟩;exact (eJ y v u).to (ax _ _ _).symm
def PH (d n:Nat) (v:Nat->Value) (w0:V) (w:V) (e:Ending) (g:V):Prop:=
 ∃ (t:Pl) (q:Dk t.n) (m:Nat),t.n=n/\t.d=d/\e = .returned (v t.f)/\aj w g/\ag g (ig t q m eQ (n-2) 3 []*whole w0)
theorem A5 (w:V) (I:oL w0) (A:D.Ok) (y:D.Calm) (z:D.wait.length<=1000) (i:nE n P=Z') (B:D.sec.length=P+1) (h:ag w (aT S d D*(ak S*whole w0))) :
  Calls X 26 #[ay d,Z .i64 (n:Int)] w (PH d n (fun f=>.tuple #[ay f,Z .i64 0]) w0 w):=by
 refine aH fun Q q=>?_;have K:=mK X;have G:=eC.1 i;have v:5*n+240<=2*P:=by omega
 have C:=fun (J:V) (cd cb:Nat) F=>I7 (dv:=d) (w:=J) (F:=emp) (enters func60 (by kernel_rfl) rfl) (enters func62 (by kernel_rfl) rfl) (AZ (d:=d) (n:=n) (P:=P) (cd:=cd) (cb:=cb) (S:=S) I A y z i B) (A7 v (by omega) (by omega)) F;have g:=(h.alloc (Y #[ay d] 24 (0,0))).alloc (Y #[Z .i64 (n:Int)] 3 (0,0));have l:=ae (((aj.refl w).alloc (Y #[ay d] 24 (0,0))).alloc (Y #[Z .i64 (n:Int)] 3 (0,0)));rw [World.size_alloc] at g;have E:=ae (C _ _ _ ((g.to (by unfold qF aP;ac_rfl:_=(qF w.heap.size d*aP (w.heap.size+1) (n:Int))*(aT S d D*(ak S*whole w0)))).kT));clear C g h A y z i B G
 go_enter func26,ntmps26
 go_wp2_with fail
 refine E.out.mono ?_;rintro e L ⟨s,f,m,rfl,r,t⟩;obtain ⟨j,u⟩:=ag.aw.1 t;have H:=ae (q.out _ _ ⟨⟨f,s,j,d,n,P⟩,Um n P v,m,rfl,rfl,rfl,l.out.trans r,(u.to (ax _ _ _)).to (by rw [show (whole w0*emp:ai)=whole w0 from ru _])⟩);clear E r t u q l
 go_wp2_with fail
 exact H.out
end
theorem vW (w:V) (C:oL w) (n:Nat) (v:4<=n) (K:n<=40) :
  Calls X 8 #[Z .i64 (n:Int)] w fun e w'=>∃ d,PH d n (fun f=>.tuple #[ay d,ay f]) w w e w':=by
 refine aH fun c0 i=>?_;obtain ⟨P,y⟩:∃ P:Nat,P=(5*n+241)/2:=⟨_,rfl⟩
 have g:=I1 w n;rw [DI v (by omega),<- y] at g;have z:P<=221:=by omega
 have F:(P:Int)+1=((P+1:Nat):Int):=by omega
 have l:=ae F;have Q:IntKind.i64.wrap ((P:Int)+1)=(P:Int)+1:=by rw [IntKind.wrap_i64];omega
 have E:=yU (P+1) (by omega) (by omega) w;have B:nE n P=Z':=eC.2 ⟨by omega,by omega,by omega,by omega,by omega⟩;have I:=ae B;have J:=ae C;have H:=ae z;clear y z B C v K F
 go_enter func8,ntmps8
 go_wp2_with fail
 (with_reducible refine g.mono ?_)
 rintro e G ⟨rfl,rfl⟩
 go_wp2_with fail
 rw [l.out]
 (with_reducible refine E.mono ?_)
 rintro e G ⟨d,rfl,t,r⟩;have A:=ae (A5 (S:=UM) (D:=aB.fresh (P+1)) (d:=d) (n:=n) (P:=P) G J.out (Ly (P+1) (by have:=H.out;omega)) ⟨rfl,rfl⟩ (by show (0:Nat)<=_;omega) I.out (by rw [QQ]) (((t UM).yx).to (by ac_rfl)));have h:=ae r;clear g E t r l Q
 go_wp2_with fail
 refine A.out.mono ?_;rintro e w2 ⟨b0,q,m,N,L,rfl,s,u⟩;have M:=ae (i.out _ _ ⟨d,b0,q,m,N,L,rfl,h.out.trans s,u⟩);clear A s u i h
 go_wp2_with fail
 exact M.out
end Go.Proofs.Cl
namespace Go.Proofs.Cl
open Go.RowKit Go.SL Go.Proofs.Nn Go.Proofs.Ba Go.Proofs.Su Go.Proofs.Fs
variable {t:Pl} {F:ai} {e:Ending}
theorem I0 {n:Nat} {q:Dk t.n} {m k B:Nat} {T:Tr} {p:List UInt8} {f:AF} {w g:V} (h:PJ t q m T k B [] p F w e g) (s:(cm T p).1=0) (u:T (cm T p).2=W (.file f)) :
  e = .returned (.tuple #[Z .i64 0,Z .i64 0])/\aj w g/\ag g (ig t q m T k B [(0,((cm T p).2,0))]*F):=by
 have y:gw T [] p=0:=by unfold gw;rw [s,if_neg (by simp),u];rfl
 obtain ⟨d,⟨r,_⟩|⟨_,i,l,z,rfl,v⟩⟩:=h
 .exact absurd y r
 .have:i=0:=by
   rcases Nat.eq_zero_or_pos i with h|h
   .exact h
   .exact absurd (l 0 h) (by simp [aM])
  subst this;exact ⟨rfl,d,v⟩
theorem DK.ok {q:Dk t.n} {m k B:Nat} {T:Tr} {O:kY} {fd:Int} {o:Nat × Nat} {i:Int->Tr->Nat->Prop} {w r:V} (h:DK t q m T k B O fd o i F w e r) (u:∀ c g k',i c g k'->c=0) :
  ∃ g k',i 0 g k'/\e = .returned (Z .i64 0)/\aj w r/\ag r (ig t q m g k' (B+1) (iE O fd o)*F):=by
 obtain ⟨d,c,rfl,⟨v,⟨g,k',l⟩,_⟩|⟨rfl,g,k',l,s⟩⟩:=h
 .exact absurd (u _ _ _ l) v
 .exact ⟨g,k',l,rfl,d,s⟩
theorem Lt (w:V) (v:Value) (l:List UInt8) (h:Rd w v l):(convert 37 9 v).run X w = .ok (.string (str l)) w:=Gt w v l h
theorem th (w:V) (hh:oL w):Calls X 7 #[] w (Qj w):=by
 have Q:=vW w hh 20 (by decide) (by decide);rw [show ((20:Nat):Int)=20 from rfl] at Q;clear hh
 go_enter func7,ntmps7
 go_wp2_with fail
 refine Q.mono ?_;rintro e w1 ⟨d,t,q,m,hn,-,rfl,d1,A⟩;have A:ag w1 (ig t q m eQ 18 3 []*whole w):=A;have Hn:=ae hn;have D1:=ae d1
 -- Mkdir
 have k1:Calls X 16 #[ay t.f,.string ⟨#[47,100]⟩] w1 _:=E0 (p:=pD) (by decide) A;clear Q A hn d1
 go_wp2_with fail
 refine k1.mono ?_;rintro e w2 g;obtain ⟨T1,n1,i,rfl,d2,h2⟩:=g.ok fun c I k' s=>s.1.trans St;obtain ⟨⟨a,D0⟩,rfl⟩:=Qh i rfl;have D2:=ae (D1.out.trans d2);have k2:Calls X 9 #[ay t.f,.string ⟨#[47,100,47,97]⟩] w2 _:=BB (p:=LV) (by decide) h2;have F:=ae D0;clear k1 g i d2 h2 D1 D0
 -- Create
 go_wp2_with fail
 refine k2.mono ?_;rintro e w3 g;obtain ⟨T2,n2,i,rfl,d3,h3⟩:=g.ok fun c I k' s=>s.1.trans (Sm F.out);obtain ⟨⟨b,F0⟩,rfl⟩:=RE F.out i rfl;have D3:=ae (D2.out.trans d3);have k3:Calls X 11 #[ay t.f,.string ⟨#[47,100,47,97]⟩] w3 _:=J8 (p:=LV) (by decide) (by decide) h3;have v:=ae F0;clear k2 g i d3 h3 D2 F F0
 -- Open
 go_wp2_with fail
 refine k3.mono ?_;rintro e l g;obtain ⟨rfl,d4,K⟩:=I0 (n:=t.n) g (B0 v.out).1 (B0 v.out).2;rw [yu v.out] at K;have D4:=ae ((D3.out.trans d4).alloc (Y #[Z .u8 104,Z .u8 101,Z .u8 108,Z .u8 108,Z .u8 111] 5 (5,6)));have o0:ag (l.alloc (Y #[Z .u8 104,Z .u8 101,Z .u8 108,Z .u8 108,Z .u8 111] 5 (5,6))) (pt l.heap.size (Y (ea qx) 5 (5,6))*(ig t q m T2 14 5 [(0,(b,0))]*whole w)):=K.alloc (Y #[Z .u8 104,Z .u8 101,Z .u8 108,Z .u8 108,Z .u8 111] 5 (5,6));have H4:=o0.to (aF _ _ _);have k5:=Oo (va:=W ⟨l.heap.size,0,R⟩) (vc:=qx.length) (l:=qx) (fd:=0) (id:=b) (at':=0) (f:=kr 1) (D:=pt l.heap.size (Y (ea qx) 5 (5,6))) (F:=whole w) (B:=5) (by decide) P6 rfl v.out.fb (by decide) (by decide) (Nat.le_refl _) (fun L0 P E=>ze E.heap) H4;rw [show qx.length=5 from rfl] at k5;have K5:=ae k5;have N0:(convert 37 37 (.slice (W ⟨l.heap.size,0,R⟩) 5 5)).run X (l.alloc (Y #[Z .u8 104,Z .u8 101,Z .u8 108,Z .u8 108,Z .u8 111] 5 (0,0))) = .ok (.slice (W ⟨l.heap.size,0,R⟩) 5 5) (l.alloc (Y #[Z .u8 104,Z .u8 101,Z .u8 108,Z .u8 108,Z .u8 111] 5 (5,6))):=Go.Lib.run_convert_bytes_const (P:=X) l 37 5 #[Z .u8 104,Z .u8 101,Z .u8 108,Z .u8 108,Z .u8 111] 5 5 underlying37 underlying5;clear k3 g d4 K D3 k5 o0 H4
 -- Write
 go_wp2_with fail
 refine K5.out.mono ?_;rintro e w5 g;obtain ⟨T4,n4,i,rfl,d5,h5⟩:=g.ok fun c I k' s=>s.1.trans P6;obtain ⟨M,rfl⟩:=QK v.out i rfl;have D5:=ae (D4.out.trans d5);have q0:ag w5 (ig t q m T4 13 6 [(0,(b,5))]*(pt l.heap.size (Y (ea qx) 5 (5,6))*whole w)):=h5;have p0:=(q0.to (aF _ _ _)).right;have k6:Calls X 19 #[ay t.f,.string ⟨#[47,100,47,97]⟩,.string ⟨#[47,98]⟩] w5 _:=Rq (p1:=LV) (p2:=pB) (by decide) (PD M) p0;have G:=ae M;clear N0 K5 g i d5 h5 q0 p0 D4 v M
 -- Link
 go_wp2_with fail
 refine k6.mono ?_;rintro e w6 g;obtain ⟨z,n5,i,rfl,d6,h6⟩:=g.ok fun c I k' s=>s.1.trans (PD G.out);obtain ⟨B,rfl⟩:=Rh G.out i rfl;have D6:=ae (D5.out.trans d6)
 have k7:Calls X 20 #[ay t.f,.string ⟨#[47,98]⟩] w6 (Ab (ig t q m z 13 7 [(0,(b,5))]) (.tuple #[.agg #[Z .i64 1,Z .i64 2,Z .i64 5],Z .i64 0]) (whole w) w6):=by
  have:=RB (p:=pB) (by decide) h6;rw [if_pos (uJ B).1,(uJ B).2,(uJ B).1] at this;exact this
 have h:=ae B;clear k6 g i d6 h6 D5 G B
 -- Stat
 go_wp2_with fail
 refine k7.mono ?_;rintro e y ⟨rfl,d7,h7⟩;have D7:=ae ((D6.out.trans d7).alloc (Y #[Z .i64 1,Z .i64 2,Z .i64 5] 48 (0,0)));have r0:=(h7.alloc (Y #[Z .i64 1,Z .i64 2,Z .i64 5] 48 (0,0))).to (by ac_rfl:_=ig t q m z 13 7 [(0,(b,5))]*(pt y.heap.size (Y #[Z .i64 1,Z .i64 2,Z .i64 5] 48 (0,0))*whole w))
 have k8:Calls X 21 #[ay t.f,.string ⟨#[47,98]⟩,Z .i64 1,Z .i64 3] (y.alloc (Y #[Z .i64 1,Z .i64 2,Z .i64 5] 48 (0,0))) (R4 0 [101,108,108] (ig t q m z 13 7 [(0,(b,5))]) (ig t q m z 13 7 [(0,(b,5))]) (pt y.heap.size (Y #[Z .i64 1,Z .i64 2,Z .i64 5] 48 (0,0))*whole w) (y.alloc (Y #[Z .i64 1,Z .i64 2,Z .i64 5] 48 (0,0)))):=by
  have:=Q3 (p:=pB) (a:=1) (c:=3) (by decide) (xX h.out) r0;rw [xX h.out,Nb h.out] at this;exact this
 have K8:=ae k8;clear k7 d7 h7 r0 D6 k8
 go_wp2_with fail
 refine K8.out.mono ?_;clear K8;generalize (y.alloc (Y #[Z .i64 1,Z .i64 2,Z .i64 5] 48 (0,0)))=f1 at *;generalize y.heap.size=sc at *;rintro e w8 ⟨d8,⟨J,_⟩|⟨_,Y0,rfl,L⟩⟩
 .exact absurd rfl J
 obtain ⟨ua,uc,rfl⟩:=L.rI.shape;have D8:=ae (D7.out.trans d8);have u0:=L.to (aF _ _ _);have k9:=Im (p:=[47]) (by decide) (tZ h.out).1 (by rw [(tZ h.out).2];exact (show 2<=Ay by decide)) u0;rw [(tZ h.out).1,(tZ h.out).2] at k9;have K9:=ae k9;clear d8 L u0 D7 k9 A
 go_wp2_with fail
 refine K9.out.mono ?_;clear K9;rintro e w9 ⟨d9,⟨J,_⟩|⟨_,u2,L0,hp,E,rfl,C⟩⟩
 .exact absurd rfl J
 rw [GU hp E] at C;obtain ⟨lg,lc,rfl,G0,R0,S0⟩:=qy (by simp) C;have D9:=ae (D8.out.trans d9);have x0:=C.to (aF _ _ _);have b0:aN z 1 [[100]]=(0,a):=(eM lR).symm.trans (Tt h.out);have H:=ae b0;have f0:=ae (FN (by decide) lR b0 h.out.da x0);clear d9 C x0 D8 hp E S0 b0
 go_wp2_with fail
 refine f0.out.mono ?_;clear f0;rintro e Z0 ⟨rfl,i0,m0⟩;have d0:=ae (D9.out.trans i0);have g0:=ae (G8 (by decide) lR (by simp) H.out h.out.da (by simp) m0);clear i0 m0 D9
 go_wp2_with fail
 refine g0.out.mono ?_;clear g0;rintro e a1 ⟨rfl,k0,n0⟩;have e0:=ae (d0.out.trans k0);have h0:=ae (Cz (by decide) lR Kd (by simp) H.out h.out.da (by decide) n0);clear k0 n0 d0 H
 go_wp2_with fail
 refine h0.out.mono ?_;clear h0;rintro e u ⟨rfl,l0,r⟩;have H0:=ae (e0.out.trans l0);have s0:u.cell? ⟨sc,0,R⟩=W (Z .i64 1):=r.aC.cell 0;have s1:u.cell? ⟨sc,1,R⟩=W (Z .i64 2):=r.aC.cell 1;have s2:u.cell? ⟨sc,2,R⟩=W (Z .i64 5):=r.aC.cell 2;have cx:(convert 37 9 (.slice ua 3 uc)).run X u = .ok (.string ⟨#[101,108,108]⟩) u:=Lt _ _ _ r.au.rI;obtain ⟨X0,W0,e1,-,-,N⟩:=qy (by simp) r.ah;simp only [Value.slice.injEq,Option.some.injEq,Addr.mk.injEq] at e1;obtain ⟨⟨rfl,-⟩,-,rfl⟩:=e1;have c0:u.cell? ⟨lg,0,R⟩=W (.string ⟨#[98]⟩):=N 0 (by simp);have c1:u.cell? ⟨lg,1,R⟩=W (.string ⟨#[100]⟩):=N 1 (by simp);have K0:=ae r;have T0:(2:Int)<=(lc:Int):=by simp at G0;omega
 have V0:(lc:Int)<=9223372036854775807:=by omega
 clear l0 r e0 N G0 R0
 go_wp2_with fail
 go_ret
 exact ⟨rfl,K0.out.right.right.right.right,H0.out⟩
end Go.Proofs.Cl
namespace Go.SL
open Go.RowKit Go.Proofs.Nn Go.Proofs.Ba Go.Proofs.Cl
def PT (T:Nat->Bool) (k:Nat) (v:Bool):Nat->Bool:=fun j=>if j=k then v else T j
def Cp (n:Nat) (T:Nat->Bool):Array Value:=((List.range n).map fun k=>Value.bool (T k)).toArray
theorem ot {n k:Nat} {T:Nat->Bool} (e:k<n):(Cp n T)[k]?=W (Y' (T k)):=by
 unfold Cp;simp [e]
theorem E4 {n k:Nat} {T:Nat->Bool} (v:Bool):(Cp n T).setIfInBounds k (Y' v)=Cp n (PT T k v):=by
 unfold Cp;apply L1;intro j;rw [List.setIfInBounds_toArray,K1,K1,List.getElem?_set,List.getElem?_map,List.getElem?_map]
 by_cases e:j<n
 .rw [List.getElem?_range e]
  unfold PT
  by_cases h:k=j
  .subst h;simp [e]
  .rw [if_neg h,Option.map_some,Option.map_some,if_neg (Ne.symm h)]
 .simp [e]
  omega
structure Cr (b:Nat) (T:Nat->Bool) (O:List (Int × (Nat × Nat))):Prop where
 nd:(O.map A1).Nodup
 key:∀ x ∈ O.map A1,0<=x/\x<((16:Nat):Int)
 bit:∀ j:Nat,j<16->T j=(aM O (j:Int)).isSome
 node:∀ o ∈ O,o.2.1=b
theorem KP {i:Type} {M:List (Int × i)} {x:Int}:(aM M x).isSome=Z'↔x ∈ M.map A1:=by
 induction M with
 | nil=>simp [aM]
 | cons p M g=>
  rw [gY,List.map_cons,List.mem_cons,<- g]
  by_cases h:p.1=x
  .rw [if_pos h];simp [h]
  .rw [if_neg h]
   constructor
   .exact .inr
   .rintro (e|e)
    .exact absurd e.symm h
    .exact e
theorem Fj {q:Type}:∀ {M:List (Int × q)} {x:Int},(M.map A1).Nodup->(aM M x).isSome=Z'->(del M x).length+1=M.length
 | [],x,_,h=>by simp [aM] at h
 | p :: M,x,i,h=>by
  rw [List.map_cons,List.nodup_cons] at i
  have e:del (p :: M) x=if p.1=x then del M x else p :: del M x:=by
   unfold del;rw [List.filter_cons]
   by_cases h:p.1=x
   .simp [h]
   .have:(p.1 == x)=U:=by simpa using h
    simp [this,h]
  rw [e]
  by_cases g:p.1=x
  .rw [if_pos g,E1]
   have:del M x=M:=by
    unfold del;rw [List.filter_eq_self];intro y m;have l:y.1≠x:=fun h=>i.1 (by rw [g,<- h];exact List.mem_map.2 ⟨y,m,rfl⟩);simpa using l
   rw [this]
  .rw [if_neg g,E1,E1]
   rw [gY,if_neg g] at h;have:=Fj i.2 h;omega
section
variable {b j:Nat} {T:Nat->Bool} {O:List (Int × (Nat × Nat))}
theorem Cr.nil (b:Nat):Cr b (fun _=>U) []:=⟨List.nodup_nil,fun x h=>(by cases h),fun j _=>rfl,fun o h=>(by cases h)⟩
theorem Cr.le (h:Cr b T O):O.length<=16:=by
 have:=nG h.nd h.key
 rwa [List.length_map] at this
theorem Cr.some (h:Cr b T O) (g:j<16) (m:T j=U):O.length<16:=by
 have l:(j:Int) ∉ O.map A1:=fun i=>by
  have:=KP.2 i;rw [<- h.bit j g,m] at this;cases this
 have:=nG (l:=(j:Int) :: O.map A1) (n:=16) (List.nodup_cons.2 ⟨l,h.nd⟩) (fun x e=>by
  rcases List.mem_cons.1 e with rfl|e
  .exact ⟨by omega,by omega⟩
  .exact h.key x e)
 rw [E1,List.length_map] at this;omega
theorem Cr.open (h:Cr b T O) (r:j<16) (s:T j=U):Cr b (PT T j Z') (iE O (j:Int) (b,0))/\(iE O (j:Int) (b,0)).length=O.length+1:=by
 have m:(aM O (j:Int)).isSome=U:=by rw [<- h.bit j r];exact s
 refine ⟨⟨oA h.nd _ _,fun x g=>?_,fun i q=>?_,fun o l=>?_⟩,?_⟩
 .unfold iE at g
  rw [BT,m,if_neg (by decide)] at g;rcases List.mem_append.1 g with g|g
  .exact h.key x g
  .rw [List.mem_singleton.1 g];exact ⟨by omega,by omega⟩
 .unfold PT iE
  rw [mX]
  by_cases e:i=j
  .subst e;rw [if_pos rfl,if_pos rfl];rfl
  .rw [if_neg e,if_neg (by omega),h.bit i q]
 .rcases ud l with rfl|l
  .rfl
  .exact h.node o l
 .unfold iE
  rw [vu,m,if_neg (by decide)]
theorem Cr.close (h:Cr b T O) (m:j<16) (s:T j=Z'):Cr b (PT T j U) (del O (j:Int))/\(del O (j:Int)).length+1=O.length/\(aM O (j:Int)).isSome=Z'/\(aM (del O (j:Int)) (j:Int)).isSome=U:=by
 have g:(aM O (j:Int)).isSome=Z':=by rw [<- h.bit j m];exact s
 refine ⟨⟨?_,fun x t=>?_,fun i l=>?_,fun o q=>h.node o (List.mem_filter.1 q).1⟩,Fj h.nd g,g,by rw [pX,if_pos rfl];rfl⟩
 .exact h.nd.sublist (List.Sublist.map _ List.filter_sublist)
 .obtain ⟨p,r,rfl⟩:=List.mem_map.1 t
  exact h.key _ (List.mem_map.2 ⟨p,(List.mem_filter.1 r).1,rfl⟩)
 .unfold PT
  rw [pX]
  by_cases e:i=j
  .subst e;rw [if_pos rfl,if_pos rfl];rfl
  .rw [if_neg e,if_neg (by omega),h.bit i l]
theorem Cr.is (h:Cr b T O):Gh O b=decide (0<O.length):=by
 unfold Gh
 cases O with
 | nil=>rfl
 | cons o O=>
  have:=h.node o (by simp);simp [this]
end
section
variable {T T1:Tr} {a b k k':Nat} {c:Int} {nm p:List UInt8}
structure One (n:Nat) (T:Tr) (b:Nat) (nm:List UInt8) (f:AF):Prop where
 b1:b≠1
 root:T 1=some (.dir [⟨b,nm⟩])
 b:T b=some (.file f)
theorem TQ {k:Nat} (e:aZ p=W [nm]) (g:2<=k):jh eQ k p=0:=uD e (by simp) (d:=1) (L:=[]) rfl rfl rfl (by simp) (by show 1+aU 1<=k+aU 0;unfold aU;simp;omega) (by omega)
theorem Rz {n k:Nat} (l:aZ p=W [nm]) (h:mF n eQ k 1 p c T1 k') (g:c=0):(∃ b,One n T1 b nm (kr 1))/\k'=k-2:=by
 obtain ⟨⟨b,m⟩,i⟩:=tU (d:=1) (L:=[]) l rfl rfl h g;have ne:b≠1:=by intro e;have:=m.no;rw [e] at this;cases this
 refine ⟨⟨b,ne,m.dir,m.new⟩,by rw [i];show k-1+aU 0-aU 1=_;unfold aU;simp;omega⟩
theorem vM {n:Nat} {f:AF} (e:aZ p=W [nm]) (h:One n T b nm f):cm T p=(0,b):=(eM e).trans (lF h.root (uq b _))
theorem Gg {n:Nat} {f:AF} (e:aZ p=W [nm]) (h:One n T b nm f) (O:List (Int × (Nat × Nat))):Go.Proofs.Cl.gw T O p=if 16<=O.length then 9 else 0:=by
 unfold Go.Proofs.Cl.gw;rw [vM e h,if_neg (by simp),h.b]
theorem AE {n:Nat} {f:AF} (g:aZ p=W [nm]) (h:One n T b nm f) (i:f.lk=1) (O:List (Int × (Nat × Nat))):fS T O p=if Gh O b=Z' then 10 else 0:=by
 have e:aN T 1 [nm]=(0,b):=(eM g).symm.trans (vM g h);unfold fS;rw [g];simp only;rw [e,if_neg (by simp),h.b];simp only;rw [i];simp
end
abbrev pA:List UInt8:=[47,97]
theorem pY:aZ pA=W [[97]]:=by decide
end Go.SL
namespace Go.Proofs.Cl
open Go.RowKit Go.SL Go.Proofs.Nn Go.Proofs.Ba Go.Proofs.Su Go.Proofs.Fs
theorem Ij:(prog.info? 4).map (fun i=>(i.zero,i.size,i.bytes))=W (W (Y' U),1,1):=by kernel_rfl
theorem Cf (n:Nat) (q:n<=1000) (w:V):(Instr.makeSlice 30 (Z .i64 n) (Z .i64 n)).run X w =
  .ok (.slice (W ⟨w.heap.size,0,R⟩) n n) (w.alloc (Y (Cp n fun _=>U) 4 (0,0))):=by
 obtain ⟨i,h,m,l,g⟩:=info_parts Ij;have:=run_make (P:=X) w 30 4 i _ underlying30 h m .i64 .i64 n n (by omega) (by omega) (by rw [g];omega) (by omega);rw [this,l];simp only [Int.toNat_natCast];congr 3;unfold madeCells Cp;apply L1;intro k;simp only [Value.cells,Nat.mul_one,K1]
 by_cases e:k<n
 .simp [e,Nat.mod_one]
 .simp [e]
def Se (w:V) (e:Ending) (g:V):Prop:=e = .returned (Y' Z')/\ag g (whole w)/\aj w g
def QT (t:Pl) (q:Dk t.n) (m b g k:Nat) (T:Tr) (w:V) (u8 u9:Value) (wr:V):Prop:=
 ∃ (i B:Nat) (e:Nat->Bool) (O:kY),i<=60/\B<=10/\u9 = Z .i64 (i:Int)/\u8 = Z .i64 (O.length:Int)/\Cr b e O/\aj w wr/\ag wr (ig t q m T k B O*(pt g (Y (Cp 16 e) 4 (0,0))*whole w))
def P4 (g M:Nat) (w0:V) (F:ai) (e:Nat->Bool) (u15:Value) (wr:V):Prop:=
 ∃ j:Nat,j<=M/\u15 = Z .i64 (j:Int)/\aj w0 wr/\ag wr (F*pt g (Y (Cp 16 e) 4 (0,0)))
theorem AO (w:V) (hh:oL w) (a:Option Addr) (M h0:Nat) (zs:List Int) (hz:rZ w a M h0 zs) :
    Calls X 3 #[.slice a M h0] w (Se w):=by
  refine aH fun k1 HQ=>?_;have Hz:=ae hz;have HH:=ae hh;have Q:=th w hh;clear hz hh
  go_enter func3,ntmps3
  go_wp2_with fail
  refine Q.mono ?_;rintro e w1 ⟨rfl,h1,d1⟩;have o0:=vW w1 (HH.out.pE (h1.to (cW _).symm)) 20 (by decide) (by decide);rw [show ((20:Nat):Int)=20 from rfl] at o0;have H1:=ae h1;have D1:=ae d1;clear Q h1 d1 HH
  go_wp2_with fail
  refine o0.mono ?_;rintro e w2 ⟨d,t,q,m,hn,-,rfl,d2,h2⟩;have h2:ag w2 (ig t q m eQ 18 3 []*whole w1):=h2;have h3:ag w2 (ig t q m eQ 18 3 []*whole w):=h2.under H1.out;have D2:=ae (D1.out.trans d2);have v:Calls X 9 #[ay t.f,.string ⟨#[47,97]⟩] w2 _:=BB (p:=pA) (by decide) h3;clear o0 h2 h3 hn d2 D1 H1
  go_wp2_with fail
  refine v.mono ?_;rintro e w3 u;obtain ⟨T1,n1,hR,rfl,d3,h3⟩:=u.ok fun c L k' hr=>hr.1.trans (TQ pY (by decide));obtain ⟨⟨b,s0⟩,rfl⟩:=Rz pY hR rfl;have D3:=ae ((D2.out.trans d3).alloc (Y (Cp 16 fun _=>U) 4 (0,0)));have H3:=ae ((h3.alloc (Y (Cp 16 fun _=>U) 4 (0,0))).to (by ac_rfl:_=ig t q m T1 16 4 []*(pt w3.heap.size (Y (Cp 16 fun _=>U) 4 (0,0))*whole w)));have f1:(Instr.makeSlice 30 (Z .i64 16) (Z .i64 16)).run X w3 = .ok (.slice (W ⟨w3.heap.size,0,R⟩) 16 16) (w3.alloc (Y (Cp 16 fun _=>U) 4 (0,0))):=Cf 16 (by decide) w3;have HT:=ae s0;clear v u hR d3 h3 D2 s0
  go_wp2_with fail
  generalize (w3.alloc (Y (Cp 16 fun _=>U) 4 (0,0)))=w4 at *;generalize w3.heap.size=r at *
  go_loopw [8,9] (fun u8 u9 wr=>QT t q m b r 16 T1 w u8 u9 wr) (fun _ u9 _=>M-(intOf u9).toNat)
  case atStart=>exact ⟨0,4,_,[],by decide,by decide,rfl,rfl,Cr.nil b,D3.out,H3.out⟩
  case round=>
    clear H3 D3 f1;obtain ⟨i,B,l,O,m0,hB,rfl,rfl,hO,ds,J⟩:=hrel;have C:=ae J;have DS:=ae ds;have A:=ae hO;clear J ds hO
    by_cases H0:i<M/\i<60
    · obtain ⟨hl,l1⟩:=H0
      have t1:(i:Int)<(M:Int):=by omega
      have m1:(i:Int)<60:=by omega
      obtain ⟨ab,ao,rfl,D0,c1,Y0⟩:=Hz.out.cell hl;have cx:wr.cell? ⟨ab,ao+i,R⟩=W (Z .i64 (zs.getD i 0)):=(C.out.to (ax _ _ _).symm).cD D0;have q1:(h0:Int)<=9223372036854775807:=by omega
      have u1:(M:Int)<=(h0:Int):=by omega
      obtain ⟨b0,hz⟩:∃ b0,zs.getD i 0=b0:=⟨_,rfl⟩
      rw [hz] at cx;have p1:=P5 b0;have i1:(b0%65536).tmod 20=b0%65536%20:=Int.tmod_eq_emod_of_nonneg (by omega);obtain ⟨n,u⟩:∃ n:Nat,b0%65536%20=(n:Int):=⟨(b0%65536%20).toNat,by omega⟩
      rw [u] at i1;have Z0:i<=60:=m0;have HI:=ae (show i+1<=60 by omega);have HB:=ae hB;have j1:=ae (show n<20 by omega);clear D0 hz u c1 m0 Z0 hB Y0
      by_cases hA:n<16/\l n=Z'
      · obtain ⟨I,G⟩:=hA
        have K0:(n:Int)<16:=by omega
        have ct:wr.cell? ⟨r,n,R⟩=W (Y' Z'):=by rw [C.out.ah.cell n,ot I,G]
        obtain ⟨o1,o2,o3,o4⟩:=A.out.close I G;have v:=ET (fd:=(n:Int)) C.out;rw [o3,if_pos rfl,if_pos rfl] at v;have K:=ae v;have e0:=ae o1;have f0:=ae o2;have S0:=ae o4;have HN:=ae I;clear v o1 o2 o3 o4 G A C I
        go_wp2_with fail
        refine K.out.mono ?_;rintro e w5 ⟨rfl,s,g⟩;have k2:=ET (fd:=(n:Int)) g;rw [show ug O (n:Int)=Go.SL.del O (n:Int) from rfl,S0.out] at k2;have K2:=ae k2;have y:=ae (DS.out.trans s);clear K k2 s g DS cx ct
        go_wp2_with fail
        refine K2.out.mono ?_;rintro e w6 ⟨rfl,d6,h6⟩;rw [if_neg (by decide)] at h6;have f6:=h6.ah.frozen n;have c6:w6.cell? ⟨r,n,R⟩=W (Y' (l n)):=by rw [h6.ah.cell n,ot HN.out]
        have N:=h6.ah.setCell n (Y' U);rw [E4] at N;have H7:=ae N;have D7:=ae ((y.out.trans d6).setCell ⟨r,n,R⟩ (Y' U));have v1:(1:Int)<=(O.length:Int):=by have:=f0.out;omega
        clear K2 d6 h6 N y
        go_wp2_with fail
        refine ⟨⟨i+1,B,PT l n U,Go.SL.del O (n:Int),HI.out,HB.out,by simp,?_,e0.out,D7.out,H7.out.to (aF _ _ _)⟩,?_⟩
        · have e:wrap64 ((O.length:Int)-1)=((Go.SL.del O (n:Int)).length:Int):=by have:=f0.out;have:=e0.out.le;unfold wrap64;omega
          rw [e]
        · simp [intOf];omega
      · have X0:(n<16/\l n=U)\/¬ n<16:=by
          by_cases h:n<16
          · exact .inl ⟨h,by simpa [h] using hA⟩
          · exact .inr h
        have v:Calls X 11 #[ay t.f,.string ⟨#[47,97]⟩] wr _:=J8 (p:=pA) (by have:=HB.out;omega) (by have:=A.out.le;omega) C.out;have L0:=Gg pY HT.out O;have N0:(cm T1 pA).2=b:=by rw [vM pY HT.out]
        have K:=ae v;have g0:=ae L0;have T0:=ae N0;clear v L0 N0 hA;rcases X0 with ⟨I,G⟩|I
        all_goals
          first
          | (have K0:(n:Int)<16:=by omega
             have ct:wr.cell? ⟨r,n,R⟩=W (Y' U):=by rw [C.out.ah.cell n,ot I,G]
             clear G C I
             go_wp2_with fail)
          | (have K0:¬ (n:Int)<16:=by omega
             clear C I
             go_wp2_with fail)
        all_goals
          refine K.out.mono ?_;clear K;rintro e w5 ⟨s,u⟩;have y:=ae (DS.out.trans s);rcases u with ⟨H,rfl,g⟩|⟨H,z,l0,F0,rfl,g⟩
          · have q0:16<=O.length:=by
              rw [g0.out] at H
              by_cases h:16<=O.length
              · exact h
              · rw [if_neg h] at H;exact absurd rfl H
            rw [g0.out,if_pos q0]
            have x0:∀ j,j<16->l j=Z':=fun j E=>by
              cases hu:l j with
              | true=>rfl
              | false=>have:=A.out.some E hu;omega
            have R0:=ae x0;have F:=ae g;clear H q0 x0 g s g0
            go_wp2_with fail
            go_loopw [15] (fun u15 wr=>P4 r 16 w (ig t q m T1 16 B O*whole w) l u15 wr) (fun u15 _=>16-(intOf u15).toNat)
            case atStart=>exact ⟨0,by decide,rfl,y.out,F.out.to (by ac_rfl)⟩
            case round=>
              clear F y;obtain ⟨j,E,rfl,dj,J⟩:=hrel;have c0:=ae J;clear J
              by_cases n0:j<16
              · have a1:(j:Int)<16:=by omega
                have cj:wr.cell? ⟨r,j,R⟩=W (Y' Z'):=by rw [(c0.out.to (by ac_rfl:_=pt r (Y (Cp 16 l) 4 (0,0))*(ig t q m T1 16 B O*whole w))).cell j,ot n0,R0.out j n0]
                clear E
                go_wp2_with fail
                refine ⟨⟨j+1,by omega,by simp,dj,c0.out⟩,?_⟩;simp [intOf];omega
              · obtain rfl:j=16:=by omega
                clear E n0
                go_wp2_with fail
                refine ⟨⟨i+1,B,l,O,HI.out,HB.out,by simp,rfl,A.out,dj,c0.out.to (by ac_rfl)⟩,?_⟩;simp [intOf];omega
          · have i0:z<16:=by
              rw [g0.out] at H
              by_cases h:z<16
              · exact h
              · have:=rR 16 O fun j E=>l0 j (by omega)
                rw [if_pos this] at H;exact absurd H (by decide)
            have k0:l z=U:=by rw [A.out.bit z i0,F0];rfl
            have u0:∀ j,j<z->l j=Z':=fun j E=>by rw [A.out.bit j (by omega)];exact l0 j E
            rw [T0.out] at g;obtain ⟨o1,o2⟩:=A.out.open i0 k0;obtain ⟨O2,r0⟩:∃ O2,iE O (z:Int) (b,0)=O2:=⟨_,rfl⟩
            rw [r0] at g o1 o2;have V0:=ae k0;have W0:=ae u0;have F:=ae g;have e0:=ae o1;have f0:=ae o2;have p0:=ae i0;have r1:(z:Int)<16:=by omega
            have s1:¬ ((z:Int)=16):=by omega
            clear H l0 F0 i0 k0 u0 g o1 o2 s g0 r0
            go_wp2_with fail
            go_loopw [15] (fun u15 wr=>P4 r z w (ig t q m T1 16 B O2*whole w) l u15 wr) (fun u15 _=>16-(intOf u15).toNat)
            case atStart=>exact ⟨0,by omega,rfl,y.out,F.out.to (by ac_rfl)⟩
            case round=>
              clear F y;obtain ⟨j,E,rfl,dj,J⟩:=hrel;have c0:=ae J;have d0:=J.to (by ac_rfl:_=pt r (Y (Cp 16 l) 4 (0,0))*(ig t q m T1 16 B O2*whole w));clear J
              by_cases G0:j<z
              · have a1:(j:Int)<16:=by omega
                have cj:wr.cell? ⟨r,j,R⟩=W (Y' Z'):=by rw [d0.cell j,ot (by have:=p0.out;omega),W0.out j G0]
                clear E d0
                go_wp2_with fail
                refine ⟨⟨j+1,by omega,by simp,dj,c0.out⟩,?_⟩;simp [intOf];omega
              · obtain rfl:j=z:=by omega
                have cj:wr.cell? ⟨r,j,R⟩=W (Y' U):=by rw [d0.cell j,ot p0.out,V0.out]
                have fj:=d0.frozen j;have N:=d0.setCell j (Y' Z');rw [E4] at N;have H7:=ae N;have D7:=ae (dj.setCell ⟨r,j,R⟩ (Y' Z'));clear E G0 d0 N c0
                go_wp2_with fail
                refine ⟨⟨i+1,B,PT l j Z',O2,HI.out,HB.out,by simp,?_,e0.out,D7.out,H7.out.to (aF _ _ _)⟩,?_⟩
                · have e:wrap64 ((O.length:Int)+1)=(O2.length:Int):=by have:=f0.out;have:=e0.out.le;unfold wrap64;omega
                  first|rw [e]|(rw [f0.out];simp)
                · simp [intOf];omega
    · have g1:(¬ (i:Int)<(M:Int))\/((i:Int)<(M:Int)/\¬ (i:Int)<60):=by omega
      have v:Calls X 12 #[ay t.f,.string ⟨#[47,97]⟩] wr _:=Jv (p:=pA) (by omega) C.out
      have G:∀ c L k',qv T1 16 O pA c L k'->c=if 0<O.length then 10 else 0:=fun c L k' hr=>by
        rw [hr.1,AE pY HT.out rfl O,A.out.is];simp
      have K:=ae v;have HU:=ae G;clear H0 m0 hB v G C A;rcases g1 with ho|⟨x1,y1⟩
      all_goals
        go_wp2_with fail
        refine K.out.mono ?_;clear K;rintro e w5 u
        by_cases Q:0<O.length
        · obtain ⟨rfl,s,g⟩:=u.no (c0:=10) (by decide) fun c L k' hr=>(HU.out c L k' hr).trans (if_pos Q)
          have e1:(0:Int)<(O.length:Int):=by omega
          have F:=ae g;have y:=ae (DS.out.trans s);clear Q u g s HU
          go_wp2_with fail
          exact HQ.out _ _ ⟨rfl,F.out.right.right,y.out⟩
        · obtain ⟨L,k',-,rfl,s,g⟩:=u.ok fun c L k' hr=>(HU.out c L k' hr).trans (if_neg Q)
          have e1:¬ (0:Int)<(O.length:Int):=by omega
          have F:=ae g;have y:=ae (DS.out.trans s);clear Q u g s HU
          go_wp2_with fail
          exact HQ.out _ _ ⟨rfl,F.out.right.right,y.out⟩
end Go.Proofs.Cl

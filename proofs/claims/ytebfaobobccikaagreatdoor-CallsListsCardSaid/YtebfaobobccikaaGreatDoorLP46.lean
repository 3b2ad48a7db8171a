/- Steps. -/
import Derived.Test.YtebfaobobccikaaGreatDoorLP40
import Derived.Test.YtebfaobobccikaaGreatDoorLP45
set_option linter.all false
set_option maxRecDepth 99999
set_option maxHeartbeats 0
open Go.SL
open Go.Value renaming int->Z
open Go.Obj renaming cells->Y
open Go renaming World->V
open Go.Proofs.Tryz renaming prog->X
open Option renaming some->U,none->Z'
open Go.Proofs.Tryz
open UInt8 renaming ofNat->A1,toNat_ofNat'->H1
open List renaming getElem?_toArray->B1,map_cons->E1,pairwise_map->K1,getElem?_eq_getElem->M1,map_append->N1,map_singleton->O1
open List.Pairwise renaming imp_of_mem->L1
open Array renaming ext_getElem?->R1
namespace Go.Proofs.Cl
open RowKit SL Proofs.Nn Proofs.Ba Proofs.Su Proofs.Fs
attribute [local go_sem] Oper.semAt_some
def KG (d n P:Nat) (w0:V) (s:Nat):ai:=ex fun z:Nat × Hp × aC=>fact (Lq n P 1 (J0 P n) z.2.2 Cl.rP)*(eH s z.1 d n P (J0 P n)*(aS z.2.1 d z.2.2*(aq z.2.1*whole w0)))
def qZ (a d:Nat):ai:=pt a (Y #[az d] 24 (0,0))
section
variable {d n P:Nat} {w0:V} {S:Hp} {D:aC} {cd cb:Nat}
theorem QH {p:Ar} {o:aC} (q:n<=P) (h:Q2 n P D Z' o p):Lq n P 1 (J0 P n) o Cl.rP:=by
 have g:=h.sj;exact ⟨g.jt.inv,g.jt.jn,g.bound,g.jP,g.sq⟩
theorem Cp (N:pM w0) (C:D.Ok) (y:D.Calm) (B:D.wait.length<=1000) (o:nO n P=true) (E:D.sec.length=P+1) :
  P4 63 #[az cd,az cb] ((qZ cd d*bd cb (n:Int))*(aS S d D*(aq S*whole w0))) (KG d n P w0):=by
 intro w H h;refine aJ fun c0 q=>?_;have t:ag w (aS S d (D.df Z')*(aq S*((qZ cd d*bd cb (n:Int))*(whole w0*H)))):=by rw [B4];exact h.to (by ac_rfl)
 have A:=ae (CW w S d n P D Z' _ t C y B o E I8 rfl fun w' K hx=>N.pQ (hx.to (by ac_rfl:_=(K*((qZ cd d*bd cb (n:Int))*H))*whole w0)));have k0:w.cell? ⟨cd,0,Z'⟩=U (az d):=(h.to (by unfold qZ;ac_rfl:_=pt cd (Y #[az d] 24 (0,0))*(bd cb (n:Int)*((aS S d D*(aq S*whole w0))*H)))).cell 0;have k1:w.cell? ⟨cb,0,Z'⟩=U (Z .i64 (n:Int)):=(h.to (by unfold bd;ac_rfl:_=pt cb (Y #[Z .i64 (n:Int)] 3 (0,0))*(qZ cd d*((aS S d D*(aq S*whole w0))*H)))).cell 0;have v:n<=P:=by have:=eC.1 o;omega
 have I:=ae v;clear h t C y B o E v
 go_enter func63,ntmps63
 go_wp2_with fail
 refine A.out.mono ?_;rintro e F hq;rcases hq with ⟨b0,O,_⟩|⟨s,j,J,G,o3,d0,rfl,g,r,p⟩
 .exact absurd rfl O
 have Q:=p.ar.none rfl;subst Q;rw [B4] at g;have u:ag F (KG d n P w0 s*((qZ cd d*bd cb (n:Int))*H)):=ag.ax.2 ⟨(j,J,G),(ag.au.2 ⟨QH I.out p,g⟩:ag F (fact _*_)).to (by ac_rfl)⟩;have M:=ae (q.out _ _ ⟨s,rfl,r,(u.to (by ac_rfl:_=(qZ cd d*bd cb (n:Int))*(KG d n P w0 s*H))).right⟩);clear A p g u r q k0 k1
 go_wp2_with fail
 exact M.out
def U7 (d n P:Nat) (g:5*n+240<=2*P) (w0:V) (s f m:Nat):ai:=ex fun j:Nat=>jz ⟨f,s,j,d,n,P⟩ (Uy n P g) m fV (n-2) 3 []*whole w0
theorem AS (g:5*n+240<=2*P) (t:4<=n) (A:n<=3840):Pz 65 #[] (KG d n P w0) (U7 d n P g w0):=by
 intro s f m w H h;obtain ⟨⟨j,S,D⟩,p⟩:=ag.ax.1 (h.to (by ac_rfl:_=KG d n P w0 s*(pt f (Y #[az s,.map (U m)] 91 (0,0))*(mp m []*H))));obtain ⟨B,q⟩:=ag.au.1 (p.to (ay _ _ _));have r:ag w (rC ⟨f,s,j,d,n,P⟩ ⟨J0 P n,D,Cl.rP,1⟩*(pt f (Y #[az s,.map (U m)] 91 (0,0))*(mp m []*(whole w0*H)))):=mx (t:=⟨f,s,j,d,n,P⟩) (s:=⟨J0 P n,D,Cl.rP,1⟩) (S:=S) (q.to (by ac_rfl));refine (IL (t:=⟨f,s,j,d,n,P⟩) (q:=Uy n P g) (J:=J0 P n) (D:=D) (m:=m) (F:=whole w0*H) t A B (r.to (by unfold im;show _=_*(mp m []*_);ac_rfl))).mono ?_;rintro e E ⟨C,rfl,o,v,y,u⟩;refine ⟨rfl,o,ag.ax.2 ⟨j,?_⟩⟩;exact (gp y v u).to (ay _ _ _).symm
def PL (d n:Nat) (v:Nat->Value) (w0:V) (w:V) (e:Ending) (g:V):Prop:=
 ∃ (t:Pl) (q:Dk t.n) (m:Nat),t.n=n/\t.d=d/\e = .returned (v t.f)/\aj w g/\ag g (jz t q m fV (n-2) 3 []*whole w0)
theorem Ci (w:V) (J:pM w0) (B:D.Ok) (y:D.Calm) (A:D.wait.length<=1000) (o:nO n P=true) (C:D.sec.length=P+1) (h:ag w (aS S d D*(aq S*whole w0))) :
  Calls X 27 #[az d,Z .i64 (n:Int)] w (PL d n (fun f=>.tuple #[az f,Z .i64 0]) w0 w):=by
 refine aJ fun Q q=>?_;have M:=nr X;have H:=eC.1 o;have v:5*n+240<=2*P:=by omega
 have E:=fun (K:V) (cd cb:Nat) G=>GS (dv:=d) (w:=K) (F:=emp) (enters func63 (by kernel_rfl) rfl) (enters func65 (by kernel_rfl) rfl) (Cp (d:=d) (n:=n) (P:=P) (cd:=cd) (cb:=cb) (S:=S) J B y A o C) (AS v (by omega) (by omega)) G;have g:=(h.alloc (Y #[az d] 24 (0,0))).alloc (Y #[Z .i64 (n:Int)] 3 (0,0));have p:=ae (((aj.refl w).alloc (Y #[az d] 24 (0,0))).alloc (Y #[Z .i64 (n:Int)] 3 (0,0)));rw [World.size_alloc] at g;have F:=ae (E _ _ _ ((g.to (by unfold qZ bd;ac_rfl:_=(qZ w.heap.size d*bd (w.heap.size+1) (n:Int))*(aS S d D*(aq S*whole w0)))).nD));clear E g h B y A o C H
 go_enter func27,ntmps27
 go_wp2_with fail
 refine F.out.mono ?_;rintro e N ⟨s,f,m,rfl,r,t⟩;obtain ⟨j,u⟩:=ag.ax.1 t;have I:=ae (q.out _ _ ⟨⟨f,s,j,d,n,P⟩,Uy n P v,m,rfl,rfl,rfl,p.out.trans r,(u.to (ay _ _ _)).to (by rw [show (whole w0*emp:ai)=whole w0 from rp _])⟩);clear F r t u q p
 go_wp2_with fail
 exact I.out
end
theorem Ad (w:V) (C:pM w) (n:Nat) (u:4<=n) (K:n<=40) :
  Calls X 8 #[Z .i64 (n:Int)] w fun e w'=>∃ d,PL d n (fun f=>.tuple #[az d,az f]) w w e w':=by
 refine aJ fun d0 o=>?_;obtain ⟨P,v⟩:∃ P:Nat,P=(5*n+241)/2:=⟨_,rfl⟩
 have g:=F3 w n;rw [Et u (by omega),<- v] at g;have y:P<=221:=by omega
 have F:(P:Int)+1=((P+1:Nat):Int):=by omega
 have p:=ae F;have Q:IntKind.i64.wrap ((P:Int)+1)=(P:Int)+1:=by rw [IntKind.wrap_i64];omega
 have E:=zf (P+1) (by omega) (by omega) w;have B:nO n P=true:=eC.2 ⟨by omega,by omega,by omega,by omega,by omega⟩;have I:=ae B;have J:=ae C;have H:=ae y;clear v y B C u K F
 go_enter func8,ntmps8
 go_wp2_with fail
 (with_reducible refine g.mono ?_)
 rintro e G ⟨rfl,rfl⟩
 go_wp2_with fail
 rw [p.out]
 (with_reducible refine E.mono ?_)
 rintro e G ⟨d,rfl,s,q⟩;have A:=ae (Ci (S:=Vg) (D:=aC.fresh (P+1)) (d:=d) (n:=n) (P:=P) G J.out (Nb (P+1) (by have:=H.out;omega)) ⟨rfl,rfl⟩ (by show (0:Nat)<=_;omega) I.out (by rw [Ra]) (((s Vg).zH).to (by ac_rfl)));have h:=ae q;clear g E s q p Q
 go_wp2_with fail
 refine A.out.mono ?_;rintro e w2 ⟨c0,b0,m,O,M,rfl,r,t⟩;have N:=ae (o.out _ _ ⟨d,c0,b0,m,O,M,rfl,h.out.trans r,t⟩);clear A r t o h
 go_wp2_with fail
 exact N.out
end Go.Proofs.Cl
namespace Go.Proofs.Cl
open RowKit SL Proofs.Nn Proofs.Ba Proofs.Su Proofs.Fs
variable {t:Pl} {F:ai}
theorem Ig {n:Nat} {q:Dk t.n} {m k B:Nat} {T:Tr} {p:List UInt8} {f:AF} {w g:V} {e:Ending} (h:PG t q m T k B [] p F w e g) (s:(bV T p).1=0) (u:T (bV T p).2=U (.file f)) :
  e = .returned (.tuple #[Z .i64 0,Z .i64 0])/\aj w g/\ag g (jz t q m T k B [(0,((bV T p).2,0))]*F):=by
 have y:iE T [] p=0:=by unfold iE;rw [s,if_neg (by simp),u];rfl
 obtain ⟨d,⟨r,_⟩|⟨_,o,a1,A,rfl,v⟩⟩:=h
 .exact absurd y r
 .have:o=0:=by
   rcases Nat.eq_zero_or_pos o with h|h
   .exact h
   .exact absurd (a1 0 h) (by simp [aP])
  subst this;exact ⟨rfl,d,v⟩
theorem DR.ok {q:Dk t.n} {m k B:Nat} {T:Tr} {O:mS} {fd:Int} {o:Nat × Nat} {R:Int->Tr->Nat->Prop} {w p:V} {e:Ending} (h:DR t q m T k B O fd o R F w e p) (s:∀ c T' k',R c T' k'->c=0) :
  ∃ T' k',R 0 T' k'/\e = .returned (Z .i64 0)/\aj w p/\ag p (jz t q m T' k' (B+1) (mG O fd o)*F):=by
 obtain ⟨d,c,rfl,⟨u,⟨T',k',g⟩,_⟩|⟨rfl,T',k',g,r⟩⟩:=h
 .exact absurd (s _ _ _ g) u
 .exact ⟨T',k',g,rfl,d,r⟩
theorem ux (w:V) (v:Value) (l:List UInt8) (h:Rd w v l):(convert 22 9 v).run X w = .ok (.string (str l)) w:=Iq w v l h
theorem Av (w:V) (hh:pM w):Calls X 7 #[] w (Se w):=by
 have b0:=Ad w hh 20 (by decide) (by decide);rw [show ((20:Nat):Int)=20 from rfl] at b0;clear hh
 go_enter func7,ntmps7
 go_wp2_with fail
 refine b0.mono ?_;rintro e w1 ⟨d,t,q,m,hn,-,rfl,d1,B⟩;have B:ag w1 (jz t q m fV 18 3 []*whole w):=B;have Hn:=ae hn;have D1:=ae d1
 have k1:Calls X 9 #[az t.f,.string ⟨#[47,100]⟩] w1 _:=Fg (p:=pD) (by decide) PI B;clear b0 B hn d1
 go_wp2_with fail
 refine k1.mono ?_;rintro e w2 g;obtain ⟨T1,n1,o,rfl,d2,h2⟩:=g.ok fun c T' k' s=>s.1.trans PI;obtain ⟨⟨a,N⟩,rfl⟩:=Sc o rfl;have D2:=ae (D1.out.trans d2);have k2:Calls X 11 #[az t.f,.string ⟨#[47,100,47,97]⟩] w2 _:=CE (p:=M6) (by decide) (Qa N) h2;have G:=ae N;clear k1 g o d2 h2 D1 N
 go_wp2_with fail
 refine k2.mono ?_;rintro e w3 g;obtain ⟨T2,n2,o,rfl,d3,h3⟩:=g.ok fun c T' k' s=>s.1.trans (Qa G.out);obtain ⟨⟨b,D0⟩,rfl⟩:=Q9 G.out o rfl;have D3:=ae (D2.out.trans d3);have k3:Calls X 16 #[az t.f,.string ⟨#[47,100,47,97]⟩] w3 _:=Q6 (p:=M6) (by decide) (by decide) h3;have v:=ae D0;clear k2 g o d3 h3 D2 G D0
 go_wp2_with fail
 refine k3.mono ?_;rintro e p g;obtain ⟨rfl,d4,K⟩:=Ig (n:=t.n) g (AL v.out).1 (AL v.out).2;rw [xA v.out] at K;have D4:=ae ((D3.out.trans d4).alloc (Y #[Z .u8 104,Z .u8 101,Z .u8 108,Z .u8 108,Z .u8 111] 5 (5,6)));have o0:ag (p.alloc (Y #[Z .u8 104,Z .u8 101,Z .u8 108,Z .u8 108,Z .u8 111] 5 (5,6))) (pt p.heap.size (Y (dP ry) 5 (5,6))*(jz t q m T2 14 5 [(0,(b,0))]*whole w)):=K.alloc (Y #[Z .u8 104,Z .u8 101,Z .u8 108,Z .u8 108,Z .u8 111] 5 (5,6));have H4:=o0.to (aG _ _ _);have k5:=OC (va:=U ⟨p.heap.size,0,Z'⟩) (vc:=ry.length) (l:=ry) (fd:=0) (id:=b) (at':=0) (f:=jx 1) (D:=pt p.heap.size (Y (dP ry) 5 (5,6))) (F:=whole w) (B:=5) (by decide) Qc rfl v.out.fb (by decide) (by decide) (Nat.le_refl _) (fun W P F=>rn F.heap) H4;rw [show ry.length=5 from rfl] at k5;have K5:=ae k5;have K0:(convert 22 22 (.slice (U ⟨p.heap.size,0,Z'⟩) 5 5)).run X (p.alloc (Y #[Z .u8 104,Z .u8 101,Z .u8 108,Z .u8 108,Z .u8 111] 5 (0,0))) = .ok (.slice (U ⟨p.heap.size,0,Z'⟩) 5 5) (p.alloc (Y #[Z .u8 104,Z .u8 101,Z .u8 108,Z .u8 108,Z .u8 111] 5 (5,6))):=Go.Lib.run_convert_bytes_const (P:=X) p 22 5 #[Z .u8 104,Z .u8 101,Z .u8 108,Z .u8 108,Z .u8 111] 5 5 underlying22 underlying5;clear k3 g d4 K D3 k5 o0 H4
 go_wp2_with fail
 refine K5.out.mono ?_;rintro e w5 g;obtain ⟨T4,n4,o,rfl,d5,h5⟩:=g.ok fun c T' k' s=>s.1.trans Qc;obtain ⟨O,rfl⟩:=QG v.out o rfl;have D5:=ae (D4.out.trans d5);have q0:ag w5 (jz t q m T4 13 6 [(0,(b,5))]*(pt p.heap.size (Y (dP ry) 5 (5,6))*whole w)):=h5;have p0:=(q0.to (aG _ _ _)).right;have k6:Calls X 15 #[az t.f,.string ⟨#[47,100,47,97]⟩,.string ⟨#[47,98]⟩] w5 _:=QY (p1:=M6) (p2:=pB) (by decide) (P0 O) p0;have H:=ae O;clear K0 K5 g o d5 h5 q0 p0 D4 v O
 go_wp2_with fail
 refine k6.mono ?_;rintro e w6 g;obtain ⟨A,n5,o,rfl,d6,h6⟩:=g.ok fun c T' k' s=>s.1.trans (P0 H.out);obtain ⟨C,rfl⟩:=Rx H.out o rfl;have D6:=ae (D5.out.trans d6)
 have k7:Calls X 13 #[az t.f,.string ⟨#[47,98]⟩] w6 (Dj (jz t q m A 13 7 [(0,(b,5))]) (.tuple #[.agg #[Z .i64 1,Z .i64 2,Z .i64 5],Z .i64 0]) (whole w) w6):=by
  have:=KI (p:=pB) (by decide) h6;rw [if_pos (vS C).1,(vS C).2,(vS C).1] at this;exact this
 have h:=ae C;clear k6 g o d6 h6 D5 H C
 go_wp2_with fail
 refine k7.mono ?_;rintro e y ⟨rfl,d7,h7⟩;have D7:=ae ((D6.out.trans d7).alloc (Y #[Z .i64 1,Z .i64 2,Z .i64 5] 35 (0,0)));have r0:=(h7.alloc (Y #[Z .i64 1,Z .i64 2,Z .i64 5] 35 (0,0))).to (by ac_rfl:_=jz t q m A 13 7 [(0,(b,5))]*(pt y.heap.size (Y #[Z .i64 1,Z .i64 2,Z .i64 5] 35 (0,0))*whole w))
 have k8:Calls X 19 #[az t.f,.string ⟨#[47,98]⟩,Z .i64 1,Z .i64 3] (y.alloc (Y #[Z .i64 1,Z .i64 2,Z .i64 5] 35 (0,0))) (Ub 0 [101,108,108] (jz t q m A 13 7 [(0,(b,5))]) (jz t q m A 13 7 [(0,(b,5))]) (pt y.heap.size (Y #[Z .i64 1,Z .i64 2,Z .i64 5] 35 (0,0))*whole w) (y.alloc (Y #[Z .i64 1,Z .i64 2,Z .i64 5] 35 (0,0)))):=by
  have:=Rn (p:=pB) (a:=1) (c:=3) (by decide) (xg h.out) r0;rw [xg h.out,MJ h.out] at this;exact this
 have K8:=ae k8;clear k7 d7 h7 r0 D6 k8
 go_wp2_with fail
 refine K8.out.mono ?_;clear K8;generalize (y.alloc (Y #[Z .i64 1,Z .i64 2,Z .i64 5] 35 (0,0)))=Z0 at *;generalize y.heap.size=sc at *;rintro e w8 ⟨d8,⟨J,_⟩|⟨_,W0,rfl,M⟩⟩
 .exact absurd rfl J
 obtain ⟨ua,uc,rfl⟩:=M.ss.shape;have D8:=ae (D7.out.trans d8);have u0:=M.to (aG _ _ _);have k9:=ya (p:=[47]) (by decide) (tO h.out).1 (by rw [(tO h.out).2];exact (show 2<=BA by decide)) u0;rw [(tO h.out).1,(tO h.out).2] at k9;have K9:=ae k9;clear d8 M u0 D7 k9 B
 go_wp2_with fail
 refine K9.out.mono ?_;clear K9;rintro e w9 ⟨d9,⟨J,_⟩|⟨_,u2,W,hp,F,rfl,E⟩⟩
 .exact absurd rfl J
 rw [GD hp F] at E;obtain ⟨lg,lc,rfl,F0,L0,N0⟩:=nL (by simp) E;have D9:=ae (D8.out.trans d9);have x0:=E.to (aG _ _ _);have d0:aT A 1 [[100]]=(0,a):=(fD jg).symm.trans (TF h.out);have I:=ae d0;have g0:=ae (G6 (by decide) jg d0 h.out.da x0);clear d9 E x0 D8 hp F N0 d0
 go_wp2_with fail
 refine g0.out.mono ?_;clear g0;rintro e X0 ⟨rfl,j0,m0⟩;have e0:=ae (D9.out.trans j0);have h0:=ae (IT (by decide) jg (by simp) I.out h.out.da (by simp) m0);clear j0 m0 D9
 go_wp2_with fail
 refine h0.out.mono ?_;clear h0;rintro e Y0 ⟨rfl,k0,n0⟩;have f0:=ae (e0.out.trans k0);have i0:=ae (EG (by decide) jg LQ (by simp) I.out h.out.da (by decide) n0);clear k0 n0 e0 I
 go_wp2_with fail
 refine i0.out.mono ?_;clear i0;rintro e u ⟨rfl,l0,r⟩;have G0:=ae (f0.out.trans l0);have s0:u.cell? ⟨sc,0,Z'⟩=U (Z .i64 1):=r.aD.cell 0;have s1:u.cell? ⟨sc,1,Z'⟩=U (Z .i64 2):=r.aD.cell 1;have s2:u.cell? ⟨sc,2,Z'⟩=U (Z .i64 5):=r.aD.cell 2;have cx:(convert 22 9 (.slice ua 3 uc)).run X u = .ok (.string ⟨#[101,108,108]⟩) u:=ux _ _ _ r.aw.ss;obtain ⟨V0,T0,e1,-,-,Q⟩:=nL (by simp) r.ah;simp only [Value.slice.injEq,Option.some.injEq,Addr.mk.injEq] at e1;obtain ⟨⟨rfl,-⟩,-,rfl⟩:=e1;have c0:u.cell? ⟨lg,0,Z'⟩=U (.string ⟨#[98]⟩):=Q 0 (by simp);have c1:u.cell? ⟨lg,1,Z'⟩=U (.string ⟨#[100]⟩):=Q 1 (by simp);have H0:=ae r;have R0:(2:Int)<=(lc:Int):=by simp at F0;omega
 have S0:(lc:Int)<=9223372036854775807:=by omega
 clear l0 r f0 Q F0 L0
 go_wp2_with fail
 go_ret
 exact ⟨rfl,H0.out.right.right.right.right,G0.out⟩
end Go.Proofs.Cl
namespace Go.SL
open RowKit Proofs.Nn Proofs.Ba Proofs.Cl
def PE (T:Nat->Bool) (k:Nat) (v:Bool):Nat->Bool:=fun j=>if j=k then v else T j
def zS (n:Nat) (T:Nat->Bool):Array Value:=((List.range n).map fun k=>Value.bool (T k)).toArray
theorem zD {n k:Nat} {T:Nat->Bool} (g:k<n):(zS n T)[k]?=U (.bool (T k)):=by
 unfold zS;simp [g]
theorem Pw {n k:Nat} {T:Nat->Bool} (v:Bool):(zS n T).setIfInBounds k (.bool v)=zS n (PE T k v):=by
 unfold zS;apply R1;intro j;rw [List.setIfInBounds_toArray,B1,B1,List.getElem?_set,List.getElem?_map,List.getElem?_map]
 by_cases g:j<n
 .rw [List.getElem?_range g]
  unfold PE
  by_cases h:k=j
  .subst h;simp [g]
  .rw [if_neg h,Option.map_some,Option.map_some,if_neg (Ne.symm h)]
 .simp [g]
  omega
end Go.SL
namespace Go.Proofs.Cl
open RowKit SL Proofs.Nn Proofs.Ba Proofs.Su Proofs.Fs
theorem GZ:(prog.info? 4).map (fun i=>(i.zero,i.size,i.bytes))=U (U (.bool false),1,1):=by kernel_rfl
theorem A9 (n:Nat) (r:n<=1000) (w:V):(Instr.makeSlice 30 (Z .i64 n) (Z .i64 n)).run X w =
  .ok (.slice (U ⟨w.heap.size,0,Z'⟩) n n) (w.alloc (Y (zS n fun _=>false) 4 (0,0))):=by
 obtain ⟨i,o,q,p,h⟩:=info_parts GZ;have:=run_make (P:=X) w 30 4 i _ underlying30 o q .i64 .i64 n n (by omega) (by omega) (by rw [h];omega) (by omega);rw [this,p];simp only [Int.toNat_natCast];congr 3;unfold madeCells zS;apply R1;intro k;simp only [Value.cells,Nat.mul_one,B1]
 by_cases g:k<n
 .simp [g,Nat.mod_one]
 .simp [g]
def UJ (w:V) (e:Ending) (g:V):Prop:=e = .returned (.bool true)/\ag g (whole w)/\aj w g
end Go.Proofs.Cl
namespace Go.SL
open RowKit
def lU (u:Nat):List UInt8:=[A1 u]
theorem Bf {z:Int} {v:Nat} (h:v<256) (g:z=(v:Int)):(#[Z .u8 z]:Array Value)=dP (lU v):=by
 unfold dP lU u8;simp only [E1,List.map_nil,H1];rw [show v%2 ^ 8=v by omega,g]
end Go.SL
namespace Go.Proofs.Cl
open RowKit SL Proofs.Nn Proofs.Ba Proofs.Su Proofs.Fs
theorem Ox {w:V} {F:ai} {v:Nat} {z:Int} (g:v<256) (o:z=(v:Int)) (h:ag w F) :
  (convert 22 9 (.slice (U ⟨w.heap.size,0,Z'⟩) 1 1)).run X (w.alloc (Y #[Z .u8 z] 5 (0,0))) = .ok (.string (str (lU v))) (w.alloc (Y #[Z .u8 z] 5 (0,0))):=by
 rw [Bf g o];exact ux _ _ _ (rn (h.alloc (Y (dP (lU v)) 5 (0,0))).heap)
end Go.Proofs.Cl
namespace Go.SL
open RowKit Proofs.Nn Proofs.Ba Proofs.Cl
def rA (k:Nat):List UInt8:=[A1 (97+k)]
theorem E0 {j k:Nat} (o:j<26) (p:k<26) (h:rA j=rA k):j=k:=by
 unfold rA at h;simp only [List.cons.injEq,and_true] at h;have g:=congrArg UInt8.toNat h;simp only [H1] at g;omega
section
variable {T T':Tr} {b c i j k k' n:Nat} {R:List aH} {f:AF} {nm x:List UInt8} {l:List UInt8} {z:Int}
theorem vX {g:Type}:∀ {L:List g} {i:Nat} (h:i<L.length),(L[i] :: L.eraseIdx i).Perm L
 | a :: L,0,_=>List.Perm.refl _
 | a :: L,i+1,h=>(List.Perm.swap a (L[i]'(by simpa using h)) (L.eraseIdx i)).trans ((vX (by simpa using h)).cons a)
theorem ER (g:i<R.length):(R[i] :: kZ R i).Perm R:=((JW g).cons _).trans (vX g)
theorem Kj (s:(R.map aH.nm).Nodup) (r:i<R.length) :
  ((kZ R i).map aH.nm).Nodup/\R[i].nm ∉ (kZ R i).map aH.nm/\(∀ x ∈ R.map aH.nm,x≠R[i].nm->x ∈ (kZ R i).map aH.nm)/\∀ e ∈ kZ R i,e ∈ R:=by
 have o:=ER r;have p:=o.map aH.nm;rw [E1] at p;have h:=p.nodup_iff.2 s;rw [List.nodup_cons] at h;refine ⟨h.2,h.1,fun x u t=>?_,fun e q=>o.mem_iff.1 (List.mem_cons_of_mem _ q)⟩;rcases List.mem_cons.1 (p.mem_iff.2 u) with g|g
 .exact absurd g t
 .exact g
end
def NF (k:Nat):List UInt8:=[47,100,47,A1 (97+k)]
theorem Ii:∀ k:Fin 26,bA (NF k)=U [[100],rA k]:=by decide +kernel
theorem pS {k:Nat} (g:k<26):bA (NF k)=U [[100],rA k]:=Ii ⟨k,g⟩
section
variable {T T':Tr} {a i j k k' m n:Nat} {S:Nat->Bool} {L W:List aH} {nm x:List UInt8} {z:Int}
structure kx (T:Tr) (a:Nat) (S:Nat->Bool) (L:List aH):Prop where
 a1:a≠1
 root:T 1=some (.dir [⟨a,[100]⟩])
 da:T a=some (.dir L)
 nm:(L.map aH.nm).Nodup
 nd:(L.map aH.nd).Nodup
 file:∀ e ∈ L,T e.nd=some (.file (jx 1))
 has:∀ k,k<26->(S k=true↔rA k ∈ L.map aH.nm)
 only:∀ e ∈ L,∃ k,k<26/\e.nm=rA k
def Iy (x:List UInt8):Nat:=(x.getD 0 0).toNat
theorem iF (g:k<26):Iy (rA k)=97+k:=by
 show (A1 (97+k)).toNat=_
 rw [H1];omega
theorem kx.le (h:kx T a S L):L.length<=26:=by
 have q:∀ x ∈ L.map aH.nm,∃ k,k<26/\x=rA k:=fun x g=>by
  obtain ⟨e,o,rfl⟩:=List.mem_map.1 g;exact h.only e o
 have s:((L.map aH.nm).map fun x=>(Iy x:Int)-97).Nodup:=by
  rw [List.nodup_iff_pairwise_ne,K1];refine L1 (fun {x y} g r v o=>v ?_) (List.nodup_iff_pairwise_ne.1 h.nm);obtain ⟨j,u,rfl⟩:=q x g;obtain ⟨k,p,rfl⟩:=q y r;rw [iF u,iF p] at o;rw [show j=k by omega]
 have t:=sX (n:=26) s fun x g=>by
  obtain ⟨y,r,rfl⟩:=List.mem_map.1 g;obtain ⟨k,p,rfl⟩:=q y r;rw [iF p];omega
 simpa using t
theorem kx.walk (h:kx T a S L):aT T 1 [[100]]=(0,a):=lr h.root (vm a _)
theorem kx.no (h:kx T a S L) (p:k<26) (q:S k=false):iz L (rA k)=Z':=QJ fun e o g=>by
 have:=(h.has k p).2 (g▸List.mem_map.2 ⟨e,o,rfl⟩);rw [q] at this;cases this
theorem kx.at (h:kx T a S L) (s:k<26) (t:S k=true):∃ i,iz L (rA k)=U i/\∃ o:i<L.length,L[i].nm=rA k:=by
 obtain ⟨e,r,p⟩:=List.mem_map.1 ((h.has k s).1 t);obtain ⟨i,q,g⟩:=RQ h.nm r;rw [p] at q
 have o:i<L.length:=by
  rcases Nat.lt_or_ge i L.length with h|h
  .exact h
  .rw [List.getElem?_eq_none h] at g;cases g
 rw [M1 o] at g;exact ⟨i,q,o,by rw [Option.some.inj g];exact p⟩
theorem Ez (h:kx T a S L) (g:k<26) (o:S k=false) (q:8<=n):fZ T n (NF k)=0:=by
 have p:=h.le;refine qt (pS g) (by simp) (h.walk) h.da (h.no g o) (by omega) ?_ (by omega);unfold aY;rw [if_neg (by omega),if_neg (by omega)];omega
theorem GJ (h:kx T a S L) (q:k<26) (F:S k=false) (J:8<=n) (E:mH m T n 1 (NF k) z T' k') (G:z=0) :
  ∃ p,kx T' a (PE S k true) p/\p.length=L.length+1/\k'+aY p.length+p.length=n+aY L.length+L.length:=by
 have I:=h.le;obtain ⟨⟨r,m⟩,rfl⟩:=tY (pS q) h.walk h.da E G;have C:cG [[100],rA k]=rA k:=rfl;rw [C] at m;have B:r≠1:=by intro e;have:=m.no;rw [e,h.root] at this;cases this
 have H:r≠a:=by intro e;have:=m.no;rw [e,h.da] at this;cases this
 have v:∀ e ∈ L,e.nd≠r:=fun e o s=>by have:=h.file e o;rw [s,m.no] at this;cases this
 have A:∀ e ∈ L,e.nd≠a:=fun e o s=>by have:=h.file e o;rw [s,h.da] at this;cases this
 refine ⟨L++[⟨r,rA k⟩],⟨h.a1,by rw [m.pQ 1 (Ne.symm h.a1) (Ne.symm B)];exact h.root,m.dir,?_,?_,fun e o=>?_,fun j w=>?_,fun e o=>?_⟩,by simp,?_⟩
 .rw [N1,O1,List.nodup_append]
  refine ⟨h.nm,by simp,fun x t y u=>?_⟩;rw [List.mem_singleton.1 u];rintro rfl;have:=(h.has k q).2 t;rw [F] at this;cases this
 .rw [N1,O1,List.nodup_append]
  refine ⟨h.nd,by simp,fun x t y u=>?_⟩;rw [List.mem_singleton.1 u];obtain ⟨e,o,rfl⟩:=List.mem_map.1 t;exact v e o
 .rcases List.mem_append.1 o with g|g
  .rw [m.pQ _ (A e g) (v e g)];exact h.file e g
  .rw [List.mem_singleton.1 g];exact m.new
 .unfold PE
  rw [N1,O1,List.mem_append,List.mem_singleton]
  by_cases e:j=k
  .subst e;simp
  .rw [if_neg e,h.has j w]
   constructor
   .exact .inl
   .rintro (g|g)
    .exact g
    .exact absurd (E0 w q g) e
 .rcases List.mem_append.1 o with g|g
  .exact h.only e g
  .rw [List.mem_singleton.1 g];exact ⟨k,q,rfl⟩
 .rw [List.length_append,List.length_singleton]
  show n-1+aY L.length-aY (L.length+1)+aY (L.length+1)+(L.length+1)=_
  unfold aY;rw [if_neg (by omega),if_neg (by omega)];omega
theorem zP (h:kx T a S L) (o:k<26) (q:S k=true):fN T [] (NF k)=0:=by
 obtain ⟨i,p,g,s⟩:=h.at o q;have r:aT T 1 [[100],rA k]=(0,(L.getD i aH.no).nd):=vr h.root (vm a _) h.da p;unfold fN;rw [pS o];simp only;rw [r,if_neg (by simp),List.getD,M1 g];show (match T (L[i]).nd with|some (.file f)=>if f.lk=1/\Jl [] (L[i]).nd=true then (10:Int) else 0|_=>8)=0
 rw [h.file _ (List.getElem_mem g)];simp [Jl]
theorem Cj (h:kx T a S L) (y:k<26) (hs:S k=true) (hq:qg T n [] (NF k) z T' k') (hz:z=0) :
  ∃ s,kx T' a (PE S k false) s/\s.length+1=L.length/\k'+aY s.length+s.length=n+aY L.length+L.length:=by
 obtain ⟨i,o,v,Q⟩:=h.at y hs;have I:aT T 1 [[100],rA k]=(0,(L.getD i aH.no).nd):=vr h.root (vm a _) h.da o;rw [List.getD,M1 v] at I;have hl:=h.le;obtain ⟨-,F⟩:=hq;obtain ⟨ps,id,f,J,i0,K,e2,C,t,p,E,G⟩:=F hz;obtain rfl:=Option.some.inj ((pS y).symm.trans K);rw [I] at C;obtain rfl:(L[i]).nd=id:=(Prod.mk.inj C).2;have f0:dw T [[100],rA k]=a:=oz h.walk;rw [f0] at G p;rw [h.da] at p;obtain rfl:L=J:=by injection p with p;injection p
 obtain rfl:i=i0:=by rw [show cG [[100],rA k]=rA k from rfl,o] at E;exact Option.some.inj E
 have r:=h.file _ (List.getElem_mem v);obtain rfl:jx 1=f:=by rw [r] at t;injection t with t;injection t
 clear F;obtain ⟨u,-,-⟩|⟨-,N,w⟩:=G
 .have g:(jx 1).lk=1:=rfl
  rw [g] at u;exact absurd u (Int.lt_irrefl 1)
 have O:bK (jx 1).pr=1:=by decide +kernel
 rw [O] at w;subst N;have p0:(L[i] :: kZ L i).Perm L:=ER v;obtain ⟨a1,B,a3,a4⟩:=Kj h.nm v;rw [Q] at B a3;have A:=(p0.map aH.nd).nodup_iff.2 h.nd;rw [E1,List.nodup_cons] at A;have c0:(L[i]).nd≠1:=fun e=>by rw [e,h.root] at r;cases r
 have d0:(L[i]).nd≠a:=fun e=>by rw [e,h.da] at r;cases r
 refine ⟨kZ L i,⟨h.a1,?_,?_,a1,A.2,fun e q=>?_,fun j H=>?_,fun e q=>h.only e (a4 e q)⟩,by rw [gT];omega,?_⟩
 .exact (aK _ _ (Ne.symm c0)).trans ((aK _ _ (Ne.symm h.a1)).trans h.root)
 .exact (aK _ _ (Ne.symm d0)).trans (bC _ _ _)
 .have e0:e.nd≠(L[i]).nd:=fun g=>A.1 (g▸List.mem_map.2 ⟨e,q,rfl⟩)
  have b0:e.nd≠a:=fun g=>by have:=h.file e (a4 e q);rw [g,h.da] at this;cases this
  exact (aK _ _ e0).trans ((aK _ _ b0).trans (h.file e (a4 e q)))
 .unfold PE
  by_cases e:j=k
  .subst e
   rw [if_pos rfl];exact ⟨fun h=>(by cases h),fun h=>absurd h B⟩
  .rw [if_neg e,h.has j H]
   constructor
   .exact fun o=>a3 _ o fun g=>e (E0 H y g)
   .intro o
    obtain ⟨M,u,h6⟩:=List.mem_map.1 o;exact List.mem_map.2 ⟨M,a4 _ u,h6⟩
 .rw [gT]
  have:0<L.length:=by omega
  unfold aY at w ⊢;rw [if_neg (by omega),if_neg (by omega)] at w ⊢;omega
def rB (S:Nat->Bool) (c:Nat):List (List UInt8):=((List.range c).filter S).map rA
theorem OJ:∀ i j:Fin 26,i<j->Lib.compareBytes (rA i) (rA j)=-1:=by decide +kernel
theorem EP:x ∈ rB S 26↔∃ k,k<26/\S k=true/\x=rA k:=by
 unfold rB;rw [List.mem_map];constructor
 .rintro ⟨k,g,rfl⟩
  rw [List.mem_filter,List.mem_range] at g;exact ⟨k,g.1,g.2,rfl⟩
 .rintro ⟨k,h,o,rfl⟩
  exact ⟨k,List.mem_filter.2 ⟨List.mem_range.2 h,o⟩,rfl⟩
theorem uL (h:kx T a S L) (t:W.Perm L) (F:eG jB W):W.map aH.nm=rB S 26:=by
 have u:∀ e ∈ W,∃ k,k<26/\e.nm=rA k:=fun e p=>h.only e (t.mem_iff.1 p)
 have E:(rB S 26).Pairwise fun x y=>Iy x<Iy y:=by
  unfold rB;rw [K1];refine L1 (R:=fun i j:Nat=>i<j) (fun {i j} G q I=>?_) (List.pairwise_lt_range.filter _);have v:=List.mem_range.1 (List.mem_filter.1 G).1;have r:=List.mem_range.1 (List.mem_filter.1 q).1;rw [iF v,iF r];omega
 refine List.Perm.eq_of_pairwise (le:=fun x y=>Iy x<=Iy y) (fun x y s A v r=>?_) ?_ (E.imp fun h=>Nat.le_of_lt h) ?_
 .obtain ⟨e,p,rfl⟩:=List.mem_map.1 s
  obtain ⟨j,q,o⟩:=u e p;obtain ⟨k,g,_,rfl⟩:=EP.1 A;rw [o,iF q,iF g] at v r;rw [o,show j=k by omega]
 .rw [K1]
  refine L1 (fun {x y} s A w=>?_) F;obtain ⟨j,q,o⟩:=u x s;obtain ⟨k,g,B⟩:=u y A;rw [o,B,iF q,iF g];rcases Nat.lt_or_ge k j with C|C
  .have:=OJ ⟨k,g⟩ ⟨j,q⟩ C
   unfold jB at w;rw [o,B,this] at w;exact absurd w (by decide)
  .omega
 .refine (List.perm_ext_iff_of_nodup ((t.map aH.nm).nodup_iff.2 h.nm) (E.imp fun h e=>?_)).2 fun x=>?_
  .subst e;omega
  .rw [EP]
   constructor
   .intro s
    obtain ⟨e,p,rfl⟩:=List.mem_map.1 s;obtain ⟨k,g,o⟩:=u e p;exact ⟨k,g,(h.has k g).2 (o▸List.mem_map.2 ⟨e,t.mem_iff.1 p,rfl⟩),o⟩
   .rintro ⟨k,g,H,rfl⟩
    obtain ⟨e,p,r⟩:=List.mem_map.1 ((h.has k g).1 H);exact List.mem_map.2 ⟨e,t.mem_iff.2 p,r⟩
theorem yO {c:Nat} (h:S c=true):rB S (c+1)=rB S c++[rA c]:=by unfold rB;rw [List.range_succ,List.filter_append];simp [h]
theorem Mr {c:Nat} (h:S c=false):rB S (c+1)=rB S c:=by unfold rB;rw [List.range_succ,List.filter_append];simp [h]
theorem Fw {c:Nat}:∀ d,rB S c <+: rB S (c+d)
 | 0=>List.prefix_refl _
 | d+1=>by
  refine (Fw d).trans ?_;cases h:S (c+d)
  .rw [show c+(d+1)=c+d+1 by omega,Mr h];exact List.prefix_refl _
  .rw [show c+(d+1)=c+d+1 by omega,yO h];exact List.prefix_append _ _
theorem Qk {c:Nat} (o:c<26) (h:S c=true):(rB S 26)[(rB S c).length]?=U (rA c):=by
 obtain ⟨t,g⟩:=Fw (S:=S) (c:=c+1) (26-(c+1));rw [show c+1+(26-(c+1))=26 by omega,yO h] at g;rw [<- g,List.append_assoc,List.getElem?_append_right (Nat.le_refl _),Nat.sub_self];rfl
theorem P9:fZ fV 38 pD=0:=qt jg (by simp) (d:=1) (L:=[]) rfl rfl rfl (by simp) (by decide) (by decide)
theorem RU (h:mH n fV 38 2 pD z T' k') (p:z=0):(∃ a,kx T' a (fun _=>false) [])/\k'=36:=by
 obtain ⟨⟨a,m⟩,o⟩:=tY (d:=1) (L:=[]) jg rfl rfl h p;have ne:a≠1:=by intro e;have:=m.no;rw [e] at this;cases this
 exact ⟨⟨a,ne,m.dir,m.new,by simp,by simp,fun e g=>(by cases g),fun k _=>by simp,fun e g=>(by cases g)⟩,by rw [o];decide⟩
theorem xB (h:kx T a S L):bV T pD=(0,a):=(fD jg).trans h.walk
theorem LC (h:kx T a S L):lE T pD=0/\eP (T (bV T pD).2)=L:=by
 unfold lE;rw [xB h];dsimp only;rw [if_neg (by simp),h.da];exact ⟨rfl,rfl⟩
theorem F9 (h:kx T a S L):(bV T pD).1=0/\tp (T (bV T pD).2)=(2,1,((32*L.length:Nat):Int)):=by
 rw [xB h];dsimp only;rw [h.da];exact ⟨rfl,rfl⟩
theorem JM (h:kx T a S L) (g:W.Perm L) (o:eG jB W):(rB S 26).length=L.length:=by
 rw [<- uL h g o,List.length_map,g.length_eq]
end
end Go.SL

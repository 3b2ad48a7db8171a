/- Steps. -/
import Derived.Test.YtebfaobobccikaaGreatDoorSP53
import Derived.Test.YtebfaobobccikaaGreatDoorSP50
set_option linter.all false
set_option maxRecDepth 99999
set_option maxHeartbeats 0
open Go.SL
open Go.Value renaming int->Z,string->Z'
open Go.Obj renaming cells->Y
open Go.Proofs.Tryz renaming prog->X
open Int renaming tmod_eq_emod_of_nonneg->J2
namespace Go.Proofs.Cl
open RowKit SL Proofs.Nn Proofs.Ba Proofs.Su Proofs.Fs
def Ww (t:Pl) (q:Dk t.n) (m b n:Nat) (w:World) (u14:Value) (wr:World):Prop:=
 ∃ (c k:Nat) (T:Tr),0<c/\c<=n/\u14 = Z .i64 (c:Int)/\yk T b (nE b c) (pQ (c:Int))/\k+aJ c=28/\aj w wr/\ag wr (fu t q m T k (4+c) []*whole w)
def U0 (t:Pl) (q:Dk t.n) (m b n v:Nat) (l:List UInt8) (w:World) (u20:Value) (wr:World):Prop:=
 ∃ (i k:Nat) (T:Tr),i<=n/\u20 = Z .i64 (i:Int)/\aj w wr/\ag wr (fu t q m T k (40+i) []*whole w) /\
  ((i<n/\∃ R f,yk T b R f/\ic f l/\f.kd=1/\f.lk=(n:Int)-(i:Int)/\R.length+i=n/\(∀ j,i<=j->j<n->wX (Qy n v j) ∈ R.map aN.nm)/\k+aJ R.length+bh f.pr=29)\/(i=n/\k=28))
theorem FI (w:World) (hh:oe w) (z0:Int) (a0:Option Addr) (V x:Nat) (l0:List UInt8) (N:Int) (m0:Su.gV w a0 V x l0) :
    Calls X 4 #[Z .i64 z0,.slice a0 V x,Z .i64 N] w (Uc w):=by
  refine aH fun e2 HQ=>?_;have i1:=Q8 z0;have i2:=Q8 N;obtain ⟨n,hn⟩:∃ n:Nat,1+z0%65536%20=(n:Int):=⟨(1+z0%65536%20).toNat,by omega⟩
  have t1:(z0%65536).tmod 20=z0%65536%20:=J2 (by omega);have n1:1<=n:=by omega
  have E2:n<=20:=by omega
  have z2:(1:Int)<=(n:Int):=by omega
  have H2:(n:Int)<=20:=by omega
  have v0:0<=N%65536%(n:Int):=Int.emod_nonneg _ (by omega);have v1:N%65536%(n:Int)<(n:Int):=Int.emod_lt_of_pos _ (by omega);obtain ⟨v,hv⟩:∃ v:Nat,N%65536%(n:Int)=(v:Int):=⟨(N%65536%(n:Int)).toNat,by omega⟩
  have t2:(N%65536).tmod (n:Int)=(v:Int):=by rw [J2 (by omega),hv]
  have U:v<n:=by omega
  obtain ⟨W1,q2,j2⟩:=Ap m0;obtain ⟨a,X1⟩:∃ m,m=min V 3000:=⟨_,rfl⟩
  have n0:=AM m0 (show a<=V by omega);obtain ⟨l,hl⟩:∃ l,l=l0.take a:=⟨_,rfl⟩
  have g1:l.length=a:=by rw [hl,List.length_take];omega
  rw [<- hl] at n0;have HH:=ae hh;have HR:=ae n0;have r:=ae g1;have Y1:a<=3000:=by omega
  have u2:min (V:Int) 3000=(a:Int):=by omega
  have v2:(a:Int)<=(x:Int):=by omega
  have r2:(V:Int)<=(x:Int):=by omega
  have k2:(x:Int)<=9223372036854775807:=by omega
  have I:=nI w hh;have HC:=ae (show a<=x by omega);clear hh m0 n0 hl g1 X1 v0 v1 hv W1
  go_enter Tryz.func4,Tryz.ntmps4
  go_wp2_with fail
  refine I.mono ?_;rintro e w1 ⟨rfl,h1,d1⟩;have r0:=sm w1 (HH.out.qk (h1.to (cW _).symm)) 30 (by decide) (by decide);rw [show ((30:Nat):Int)=30 from rfl] at r0;have H1:=ae h1;have D1:=ae d1;clear I h1 d1 HH
  go_wp2_with fail
  refine r0.mono ?_;rintro e w2 ⟨g2,t,q,m,ht,-,rfl,d2,h2⟩;have h2:ag w2 (fu t q m eU 28 3 []*whole w1):=h2;have k0:=l8 (by decide) (h2.under H1.out:ag w2 (fu t q m eU 28 3 []*whole w));have K0:=ae k0;have D2:=ae (D1.out.trans d2);clear r0 h2 ht d2 D1 H1 k0
  go_wp2_with fail
  refine K0.out.mono ?_;clear K0;rintro e w3 ⟨rfl,d3,h3⟩;have D3:=ae (D2.out.trans d3);have k1:Calls X 11 #[az t.f,.string ⟨#[47,97]⟩] w3 _:=re (p:=wj 0) (by decide) (GN (iM (by decide)) (by decide)) h3;have K1:=ae k1;clear h3 d3 D2 k1
  go_wp2_with fail
  refine K1.out.mono ?_;clear K1;rintro e w4 d;obtain ⟨T1,k4,p,rfl,d4,h4⟩:=d.ok fun c T' k' J=>J.1.trans (GN (iM (by decide)) (by decide));obtain ⟨⟨b,W0⟩,rfl⟩:=MR (iM (by decide)) p rfl;have E:=ae (O3 W0);have D4:=ae (D3.out.trans d4);have H4:=ae h4;clear d p d4 h4 D3 W0
  go_wp2_with fail
  go_loopw [14] (fun u14 wr=>Ww t q m b n w u14 wr) (fun u14 _=>n-(intOf u14).toNat)
  case atStart=>exact ⟨1,26,T1,by decide,n1,rfl,E.out,by decide,D4.out,As (B':=4+1) (by decide) H4.out⟩
  case round=>
    clear H4 D4 E;obtain ⟨c,k,f0,Z0,l2,rfl,s,B,ds,K⟩:=hrel;have g:=ae K;have O:=ae ds;have h:=ae s;have D:=ae B;clear K ds s B
    by_cases b0:c<n
    · have q0:(c:Int)<(n:Int):=by omega
      have a1:c<26:=by omega
      have A:=g.out.alloc (Y #[Z .u8 (97+(c:Int))] 5 (0,0));have z:=ae (O.out.alloc (Y #[Z .u8 (97+(c:Int))] 5 (0,0)));have s:=uJ (v:=97+c) (z:=97+(c:Int)) (by omega) (by omega) g.out;have c1:=zE (v:=97+c);have q1:=uO (v:=97+c);have p0:=ED (k:=k) h.out Z0 a1 (by have:=D.out;rw [zX (by omega)] at this;rw [zX (by omega),zX (by omega)];omega);have k5:Calls X 15 #[az t.f,.string ⟨#[47,97]⟩,Z' (str (pU (97+c)))] _ _:=LW (p1:=wj 0) (p2:=wj c) (by omega) p0 A.right;have K5:=ae k5;have E1:=ae p0;clear A k5 p0 g
      go_wp2_with fail
      refine K5.out.mono ?_;clear K5;rintro e w5 d;obtain ⟨T5,n5,p,rfl,d5,h5⟩:=d.ok fun c T' k' J=>J.1.trans E1.out;obtain ⟨X0,rfl⟩:=IZ h.out Z0 a1 p rfl;have D5:=ae (z.out.trans d5);have H5:=ae h5;have O1:=ae X0;clear d p d5 h5 X0 z s
      go_wp2_with fail
      refine ⟨⟨c+1,_,T5,by omega,by omega,by simp,O1.out,?_,D5.out,H5.out⟩,?_⟩
      · have:=D.out
        have:aJ (c+1)<=4:=by unfold aJ;split <;> omega
        omega
      · simp [intOf];omega
    · obtain rfl:c=n:=by omega
      have q0:¬ (c:Int)<(c:Int):=by omega
      have A:=g.out.alloc (Y #[Z .u8 (97+(v:Int))] 5 (0,0));have z:=ae (O.out.alloc (Y #[Z .u8 (97+(v:Int))] 5 (0,0)));have s:=uJ (v:=97+v) (z:=97+(v:Int)) (by omega) (by omega) g.out;have c1:=zE (v:=97+v);have q1:=uO (v:=97+v);have o1:bG f0 (wj v)=(0,b):=h.out.path (by omega) (A2 U);have L:Calls X 16 #[az t.f,Z' (str (pU (97+v)))] _ _:=A3 (p:=wj v) (by omega) (by decide) A.right;have u:=ae L;have d0:=ae o1;have y2:(v:Int)<26:=by omega
      clear A L o1 g
      go_wp2_with fail
      refine u.out.mono ?_;clear u;rintro e w6 d;obtain ⟨rfl,y,o⟩:=oO (n:=t.n) d (by rw [d0.out]) (by rw [d0.out];exact h.out.fb);rw [d0.out] at o;have C:=ae (z.out.trans y);have o:ag w6 (fu t q m f0 k (4+c) [(0,(b,0))]*whole w):=o
      have o0 : 8 <= k := by have := D.out; have : aJ c <= 4 := by unfold aJ; split <;> omega
                             omega
      have G:fX k 0 (pQ (c:Int)) l=0:=F6 qq.small (by rw [r.out];omega) o0;have k7:=uN (B:=4+c) (va:=a0) (vc:=x) (l:=l) (fd:=0) (id:=b) (at':=0) (f:=pQ (c:Int)) (D:=whole w) (F:=emp) (by omega) G rfl h.out.fb (by decide) (by rw [r.out];omega) (by rw [r.out];exact HC.out) (fun f2 c2 K=>by rw [r.out];exact (yW HR.out).carry fun S1 u1 hu=>(K.to (ew _ _)).bJ hu) (o.to (by rw [gQ]));rw [r.out] at k7;have K7:=ae k7;have D0:=ae G;have G0:=ae o0;clear d y o z s k7 G o0 d0
      go_wp2_with fail
      refine K7.out.mono ?_;clear K7;rintro e w7 d;obtain ⟨T7,n7,p,rfl,d7,R⟩:=d.ok fun c T' k' J=>J.1.trans D0.out;obtain ⟨f,Y0,T0,S,T,V1,Z1⟩:=Fc h.out (by rw [r.out];exact Y1) G0.out p rfl;have D7:=ae (C.out.trans d7);rw [gQ] at R;have M:=PD (fd:=0) R;have e7:aP (eu [((0:Int),(b,0))] 0 (b,0+a)) 0=some (b,0+a):=by unfold eu;rw [jI,if_pos rfl]
      have e8:vY (eu [((0:Int),(b,0))] 0 (b,0+a)) 0=[]:=by rfl
      rw [e7,e8] at M;have K8:=ae M;have H0:=ae Y0;have x0:=ae T0;have P:=ae T;have c0:=ae S;have F0:=ae (show n7+aJ c+bh f.pr=29 by have:=D.out;omega);clear d p d7 R C D0 Y0 T0 T S V1 Z1 e7 e8 M h D G0
      go_wp2_with fail
      refine K8.out.mono ?_;clear K8;rintro e w8 ⟨rfl,d8,F⟩;have D8:=ae (D7.out.trans d8);have H8:=ae (As (B':=40) (by omega) (show ag w8 (fu t q m T7 n7 (4+c+1) []*whole w) from F));clear d8 F D7
      go_wp2_with fail
      go_loopw [20] (fun u20 wr=>U0 t q m b c v l w u20 wr) (fun u20 _=>c-(intOf u20).toNat)
      case atStart=>
        exact ⟨0,n7,T7,Nat.zero_le _,rfl,D8.out,H8.out,.inl ⟨n1,nE b c,f,H0.out,x0.out,c0.out,by rw [P.out];simp,mm,fun j _ H=>A2 (DR U H),by rw [mm];exact F0.out⟩⟩
      case round=>
        clear H8 D8 H0 x0 P c0 F0;obtain ⟨i,k,f0,hi,rfl,ds,K,b1⟩:=hrel;have g:=ae K;have O:=ae ds;clear K ds
        by_cases b0:i<c
        · have q0:(i:Int)<(c:Int):=by omega
          obtain ⟨_,N0,f,s,hB,S,T,V0,s0,B⟩|⟨h9,_⟩:=b1
          rotate_left
          · omega
          obtain ⟨j,H⟩:∃ j,Qy c v i=j:=⟨_,rfl⟩
          have o2:j<c:=by rw [<- H];exact DR U b0
          have x2:((v:Int)+(i:Int)).tmod (c:Int)=(j:Int):=by
            rw [J2 (by omega),<- H,<- PL U b0,Int.natCast_emod,Int.natCast_add]
          have I:=s0 i (Nat.le_refl _) b0;rw [H] at I;have h:=ae s;have HB:=ae hB;have E:=ae I;have L1:=ae s0;have N1:=ae V0;have D:=ae B;have P:=ae T;have HJ:=ae H;have c0:=ae S;have n2:(j:Int)<26:=by omega
          have A:=g.out.alloc (Y #[Z .u8 (97+(j:Int))] 5 (0,0));have z:=ae (O.out.alloc (Y #[Z .u8 (97+(j:Int))] 5 (0,0)));have U1:=uJ (v:=97+j) (z:=97+(j:Int)) (by omega) (by omega) g.out;have c1:=zE (v:=97+j);have q1:=uO (v:=97+j);have g0:=Hu s hB (by omega) I;have L:Calls X 13 #[az t.f,Z' (str (pU (97+j)))] _ _:=sI (p:=wj j) (by omega) A.right;rw [if_pos g0.1,g0.2,g0.1,S,T,r.out] at L;unfold Ql at L;have u:=ae L;clear A L g0 g s hB I s0 V0 B T S H
          go_wp2_with fail
          refine u.out.mono ?_;clear u;rintro e w6 ⟨rfl,y,o⟩;have C:=ae ((z.out.trans y).alloc (Y #[Z .i64 1,Z .i64 ((c:Int)-(i:Int)),Z .i64 (a:Int)] 35 (0,0)));have R:=(o.alloc (Y #[Z .i64 1,Z .i64 ((c:Int)-(i:Int)),Z .i64 (a:Int)] 35 (0,0))).to (by ac_rfl:_=fu t q m f0 k (40+i) []*(pt w6.heap.size (Y #[Z .i64 1,Z .i64 ((c:Int)-(i:Int)),Z .i64 (a:Int)] 35 (0,0))*whole w));have G:=Et h.out (by omega) E.out;have M:Calls X 19 #[az t.f,Z' (str (pU (97+j))),Z .i64 0,Z .i64 4096] _ _:=zA (p:=wj j) (a:=0) (c:=4096) (by omega) G R;rw [G,Ko h.out HB.out (by rw [r.out];omega) (by omega) E.out] at M;have K8:=ae M;clear y o R z M G U1
          go_wp2_with fail
          refine K8.out.mono ?_;clear K8;generalize (w6.alloc (Y #[Z .i64 1,Z .i64 ((c:Int)-(i:Int)),Z .i64 (a:Int)] 35 (0,0)))=w7 at *;generalize w6.heap.size=sc at *;rintro e w8 ⟨d8,⟨h0,_⟩|⟨_,u1,rfl,F⟩⟩
          · exact absurd rfl h0
          obtain ⟨ua,uc,rfl⟩:=F.me.shape;have D8:=ae (C.out.trans d8);have r1:=zy h.out (by omega) E.out;have k9:Calls X 10 #[az t.f,Z' (str (pU (97+j)))] _ _:=Ma (p:=wj j) (by omega) (F.to (aI _ _ _));have K9:=ae k9;have R1:=ae r1;rw [r.out];clear d8 F C k9 r1
          go_wp2_with fail
          refine K9.out.mono ?_;clear K9;rintro e w9 d;obtain ⟨T9,n9,p,rfl,d9,h9⟩:=d.ok fun c T' k' J=>J.1.trans R1.out;obtain ⟨R',f1,j1,m1,e1,p1,l1⟩:=B7 h.out (by omega) E.out p rfl;have i0:Calls X 13 #[az t.f,Z' (str (pU (97+j)))] _ _:=sI (p:=wj j) (by omega) h9;rw [I5 p1 (by omega) m1,if_neg (by decide)] at i0;unfold Ql at i0;have L0:=ae i0;have D9:=ae (D8.out.trans d9);have A1:=ae f1;have b2:=ae j1;have z1:=ae e1;have M1:=ae l1;clear d p d9 h9 D8 i0 f1 j1 m1 e1 p1 l1
          go_wp2_with fail
          refine L0.out.mono ?_;clear L0;rintro e W ⟨rfl,R0,S0⟩;have x1:=ae ((D9.out.trans R0).alloc (Y #[Z .i64 0,Z .i64 0,Z .i64 0] 35 (0,0)));have Q:=(S0.alloc (Y #[Z .i64 0,Z .i64 0,Z .i64 0] 35 (0,0))).right;have s1:(W.alloc (Y #[Z .i64 0,Z .i64 0,Z .i64 0] 35 (0,0))).cell? ⟨sc,1,none⟩=some (Z .i64 ((c:Int)-(i:Int))):=Q.au.cell 1;have s2:(W.alloc (Y #[Z .i64 0,Z .i64 0,Z .i64 0] 35 (0,0))).cell? ⟨sc,2,none⟩=some (Z .i64 (a:Int)):=Q.au.cell 2;have cx:(convert 22 9 (.slice ua a uc)).run X (W.alloc (Y #[Z .i64 0,Z .i64 0,Z .i64 0] 35 (0,0))) = .ok (Z' (str l)) (W.alloc (Y #[Z .i64 0,Z .i64 0,Z .i64 0] 35 (0,0))):=jz _ _ _ (r.out▸Q.ah.me);have cy:(convert 22 9 (.slice a0 a x)).run X (W.alloc (Y #[Z .i64 0,Z .i64 0,Z .i64 0] 35 (0,0))) = .ok (Z' (str l)) (W.alloc (Y #[Z .i64 0,Z .i64 0,Z .i64 0] 35 (0,0))):=jz _ _ _ ((yW HR.out).carry fun S1 u1 hu=>(Q.to (by ac_rfl:_=(fu t q m T9 n9 (40+i+1) []*(bs 5 (.slice ua l.length uc) l*pt sc (Y #[Z .i64 1,Z .i64 ((c:Int)-(i:Int)),Z .i64 (a:Int)] 35 (0,0))))*whole w)).bJ hu);have y1:=ae (Q.to (by ac_rfl:_=(bs 5 (.slice ua l.length uc) l*pt sc (Y #[Z .i64 1,Z .i64 ((c:Int)-(i:Int)),Z .i64 (a:Int)] 35 (0,0)))*(fu t q m T9 n9 (40+i+1) []*whole w))).right;clear R0 S0 Q D9
          go_wp2_with fail
          refine ⟨⟨i+1,n9,T9,by omega,by simp,x1.out,y1.out,?_⟩,?_⟩
          · have p2:=D.out
            have h1:=A1.out;have h2:=N1.out;have m2:aJ R'.length<=aJ N0.length:=by unfold aJ;split <;> split <;> omega
            rcases M1.out with ⟨hg,hM,B⟩|⟨hg,B⟩
            · rw [P.out] at hg
              refine .inl ⟨by omega,R',{ f with lk:=f.lk-1 },hM,Cp HB.out,c0.out,?_,by omega,fun a2 hp u0=>z1.out _ (L1.out a2 (by omega) u0) fun e=>?_,?_⟩
              · show f.lk-1=_
                rw [P.out];omega
              · have h3:=zH (by have:=DR U u0;omega) (by omega) e
                rw [<- HJ.out] at h3;have:=Pr U u0 b0 h3;omega
              · show n9+aJ R'.length+bh f.pr=29
                omega
            · rw [P.out] at hg
              have h0:R'.length=0:=by omega
              have e0:aJ 0=1:=by decide
              rw [h0,e0] at B;have F:1<=aJ N0.length:=by unfold aJ;omega
              exact .inr ⟨by omega,by omega⟩
          · simp [intOf];omega
        · obtain rfl:i=c:=by omega
          obtain ⟨h9,_⟩|⟨_,rfl⟩:=b1
          · omega
          have q0:¬ (i:Int)<(i:Int):=by omega
          have u:=ae (l8 (by omega) g.out);clear g
          go_wp2_with fail
          refine u.out.mono ?_;clear u;rintro e w6 ⟨rfl,y,o⟩;have C:=ae (O.out.trans y);have H6:=ae o;clear y o O
          go_wp2_with fail
          exact HQ.out _ _ ⟨rfl,H6.out.right,C.out⟩
end Go.Proofs.Cl

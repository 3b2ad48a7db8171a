/- Steps. -/
import Derived.Test.YtebfaobobccikaaGreatDoorSP55
import Derived.Test.YtebfaobobccikaaGreatDoorSP34
import Derived.Test.YtebfaobobccikaaGreatDoorSP50
set_option linter.all false
set_option maxRecDepth 99999
set_option maxHeartbeats 0
open Go.SL
open Go.Value renaming int->Z,string->W
open Go.Obj renaming cells->X
open Go.Proofs.Tryz renaming prog->Y
namespace Go.Proofs.Cl
open RowKit SL Proofs.Nn Proofs.Ba Proofs.Su Proofs.Fs
variable {u v:Nat}
def UZ (t:Pl) (q:Dk t.n) (m a b k x:Nat) (f:AF) (w:World) (u16 u17 u18:Value) (wr:World):Prop:=
 ∃ (i u v:Nat) (T:Tr),i<=10/\u<=i/\(v=23\/(1<=v/\v<=i))/\u18 = Z .i64 (i:Int)/\u16 = W (str (pU (97+u)))/\u17 = W (str (pU (97+v)))/\uA T a b (lU (97+u)) (lU (97+v)) f/\aj w wr/\ag wr (fu t q m T k (6+i) [(0,(b,x))]*whole w)
def Vl (t:Pl) (q:Dk t.n) (m a b k x i u v:Nat) (f:AF) (w:World) (u16 u17:Value) (wr:World):Prop:=
 ∃ (d c:Nat) (T:Tr),u16 = W (str (pU (97+d)))/\u17 = W (str (pU (97+c)))/\d<=i+1/\(c=23\/(1<=c/\c<=i+1))/\uA T a b (lU (97+d)) (lU (97+c)) f/\bG T (uG (97+u) (97+v))=(5,0)/\aj w wr/\ag wr (fu t q m T k (6+(i+1)) [(0,(b,x))]*whole w)
theorem EW:str (pU u)++str (pU v)=str (uG u v):=F8 _ _
theorem zM:¬ 9223372036854775807<(str (pU u)).size+(str (pU v)).size:=by show ¬ 9223372036854775807<2+2;decide
theorem C8 (w:World) (hh:oe w) (a0:Option Addr) (M A:Nat) (l0:List UInt8) (a1:Option Addr) (E g0:Nat) (tr:Nat->Bool) (D0:Su.gV w a0 M A l0) (r1:sw w a1 E g0 tr) :
  Calls Y 5 #[.slice a0 M A,.slice a1 E g0] w (Uc w):=by
 refine aH fun Y1 HQ=>?_;obtain ⟨j2,l2,c2⟩:=Ap D0;obtain ⟨n,hn⟩:∃ n,n=min M 3000:=⟨_,rfl⟩
 have F0:=AM D0 (show n<=M by omega);obtain ⟨l,hl⟩:∃ l,l=l0.take n:=⟨_,rfl⟩
 have o1:l.length=n:=by rw [hl,List.length_take];omega
 rw [<- hl] at F0;have E1:=ae r1;have HH:=ae hh;have HR:=ae F0;have f:=ae o1;have O1:n<=3000:=by omega
 have q2:min (M:Int) 3000=(n:Int):=by omega
 have r2:(n:Int)<=(A:Int):=by omega
 have m2:(M:Int)<=(A:Int):=by omega
 have e2:(A:Int)<=9223372036854775807:=by omega
 have hm:=nI w hh;clear r1 hh D0 F0 hl hn o1
 go_enter Tryz.func5,Tryz.ntmps5
 go_wp2_with fail
 refine hm.mono ?_;rintro e w1 ⟨rfl,h1,d1⟩;have H0:=sm w1 (HH.out.qk (h1.to (cW _).symm)) 30 (by decide) (by decide);rw [show ((30:Nat):Int)=30 from rfl] at H0;have H1:=ae h1;have D1:=ae d1;clear hm h1 d1 HH
 go_wp2_with fail
 refine H0.mono ?_;rintro e w2 ⟨a2,t,q,m,ht,-,rfl,d2,h2⟩;have h2:ag w2 (fu t q m eU 28 3 []*whole w1):=h2;have h3:ag w2 (fu t q m eU 28 3 []*whole w):=h2.under H1.out;have D2:=ae (D1.out.trans d2);have D:Calls Y 9 #[az t.f,.string ⟨#[47,97]⟩] w2 _:=Gd (p:=pU 97) (by decide) RD h3;have x:=ae D;clear H0 h2 h3 ht d2 D1 H1 D
 go_wp2_with fail
 refine x.out.mono ?_;clear x;rintro e w3 c;obtain ⟨T1,n1,d,rfl,d3,h3⟩:=c.ok fun f0 g Q s=>s.1.trans RD;obtain ⟨⟨a,j1,K0,xA⟩,rfl⟩:=SA d rfl;have D3:=ae (D2.out.trans d3);have K:Calls Y 11 #[az t.f,.string ⟨#[47,97,47,120]⟩] w3 _:=re (p:=uG 97 120) (by decide) (RH K0 xA) h3;have y:=ae K;have q0:=ae K0;have n0:=ae xA;have V0:=ae j1;clear c d d3 h3 D2 K0 xA j1 K
 go_wp2_with fail
 refine y.out.mono ?_;clear y;rintro e w4 c;obtain ⟨T2,n2,d,rfl,d4,h4⟩:=c.ok fun f0 g Q s=>s.1.trans (RH q0.out n0.out);obtain ⟨⟨b,u0⟩,rfl⟩:=R6 V0.out q0.out n0.out d rfl;have D4:=ae (D3.out.trans d4);have q1:bG T2 (uG 97 120)=(0,b):=rV (u:=0) (v:=23) u0 (by decide) (by decide);have k3:Calls Y 16 #[az t.f,.string ⟨#[47,97,47,120]⟩] w4 _:=A3 (p:=uG 97 120) (by decide) (by decide) h4;have z:=ae k3;have e0:=ae u0;have p0:=ae q1;clear c d d4 h4 D3 u0 q0 n0 V0 k3 q1
 go_wp2_with fail
 refine z.out.mono ?_;clear z;rintro e w5 c;obtain ⟨rfl,d5,h5⟩:=oO (n:=t.n) c (by rw [p0.out]) (by rw [p0.out];exact e0.out.fb);rw [p0.out] at h5;have D5:=ae (D4.out.trans d5);have h5:ag w5 (fu t q m T2 24 5 [(0,(b,0))]*whole w):=h5;have I:fX 24 0 (fh 1) l=0:=F6 yQ (by rw [f.out];omega) (by decide);have L:=uN (k:=24) (B:=5) (va:=a0) (vc:=A) (l:=l) (fd:=0) (id:=b) (at':=0) (f:=fh 1) (D:=whole w) (F:=emp) (by decide) I rfl e0.out.fb (by decide) (by rw [f.out];omega) (by rw [f.out];omega) (fun Z1 X1 hs=>by rw [f.out];exact (yW HR.out).carry fun a u P=>(hs.to (ew _ _)).bJ P) (h5.to (by rw [gQ]));rw [f.out] at L;have U:=ae L;have W0:=ae I;clear c d5 h5 D4 L I
 go_wp2_with fail
 refine U.out.mono ?_;clear U;rintro e w6 c;obtain ⟨T3,k,d,rfl,d6,h6⟩:=c.ok fun f0 g Q s=>s.1.trans W0.out;obtain ⟨b0,i1,g1,l1,m1⟩:=TI e0.out yL (by rw [f.out];exact O1) (by decide) d rfl;have D6:=ae (D5.out.trans d6);rw [gQ] at h6;have h6:ag w6 (fu t q m T3 k 6 [(0,(b,0+n))]*whole w):=h6;have k5:=l8 (by decide) h6;have V:=ae k5;have X0:=ae i1;have m0:=ae g1;have z1:=ae (show b0.kd=1 from l1);have A1:=ae (show b0.lk=1 from m1);clear c d d6 h6 D5 e0 i1 g1 l1 m1 W0 k5
 go_wp2_with fail
 refine V.out.mono ?_;clear V;rintro e w7 ⟨rfl,d7,h7⟩;have D7:=ae (D6.out.trans d7);have H7:=ae h7;clear d7 h7 D6
 go_wp2_with fail
 go_loopw [16,17,18] (fun u16 u17 u18 wr=>UZ t q m a b k (0+n) b0 w u16 u17 u18 wr) (fun _ _ u18 _=>E-(intOf u18).toNat)
 case atStart=>exact ⟨0,0,23,T3,by decide,by decide,.inl rfl,rfl,rfl,rfl,X0.out,D7.out,H7.out⟩
 case round=>
  clear H7 D7 X0;obtain ⟨i,u,v,K1,hi,P,hv,rfl,rfl,rfl,hT,ds,hs⟩:=hrel;have T:=ae hs;have DS:=ae ds;have H:=ae hT;clear hs ds hT
  by_cases p1:i<E/\i<10
  .obtain ⟨N1,r⟩:=p1
   have k2:(i:Int)<(E:Int):=by omega
   have b2:(i:Int)<10:=by omega
   have C:u<26:=by omega
   have k0:v<26:=by omega
   have O:i+1<26:=by omega
   obtain ⟨tb,oo,rfl,G0,o2,f2⟩:=E1.out.cell N1;have g2:(g0:Int)<=9223372036854775807:=by omega
   have p2:(E:Int)<=(g0:Int):=by omega
   have hA:=T.out.alloc (X #[Z .u8 (98+(i:Int))] 5 (0,0));have dA:=ae (DS.out.alloc (X #[Z .u8 (98+(i:Int))] 5 (0,0)));have x0:=uJ (v:=97+(i+1)) (z:=98+(i:Int)) (by omega) (by omega) T.out;have i2:=zE (v:=97+(i+1));have x2:=uO (v:=97+(i+1));have z2:=EW (u:=97+u) (v:=97+v);have y2:=zM (u:=97+u) (v:=97+v);obtain ⟨bt,L1⟩:∃ bt,tr i=bt:=⟨_,rfl⟩
   rw [L1] at G0;have cT:(wr.alloc (X #[Z .u8 (98+(i:Int))] 5 (0,0))).cell? ⟨tb,oo+i,none⟩=some (.bool bt):=(hA.to (by ac_rfl:_=(pt wr.heap.size (X #[Z .u8 (98+(i:Int))] 5 (0,0))*fu t q m K1 k (6+i) [(0,(b,0+n))])*whole w)).bJ G0;have S:=ae hA.right;clear hA G0 T
   go_upto_if 107 with (fail)
   generalize (wr.alloc (X #[Z .u8 (98+(i:Int))] 5 (0,0)))=w8 at *
   go_cut [16,17] from 108 to 123 (fun u16 u17 wx=>Vl t q m a b k (0+n) i u v b0 w u16 u17 wx)
   case first=>
    cases bt with
    | true=>
     have J:lU (97+u)≠lU (97+(i+1)):=fun e=>by have:=Ae (by omega) (by omega) e;omega
     have c0:=TF (k:=k) H.out (uQ C) (uQ O) J;have D:=Di (p1:=pU (97+u)) (p2:=pU (97+(i+1))) (by omega) S.out;have x:=ae D;have r0:=ae c0;have o0:=ae J;clear D c0 J S x0
     go_wp2_with fail
     refine x.out.mono ?_;clear x;rintro e w9 c;obtain ⟨g,Q,d,rfl,h,j⟩:=c.ok fun f0 g Q s=>s.1.trans r0.out;obtain ⟨B,rfl⟩:=Q0 H.out (uQ C) (uQ O) o0.out d rfl;have p:=ae (dA.out.trans h);have H9:=ae j;have o:=ae B;clear c d h j B
     go_wp2_with fail
     go_meet
     exact ⟨i+1,v,g,rfl,rfl,Nat.le_refl _,by omega,o.out,IH o.out C k0 O (by omega),p.out,H9.out⟩
    | false=>
     have J:lU (97+v)≠lU (97+(i+1)):=fun e=>by have:=Ae (by omega) (by omega) e;omega
     have c0:=SE (k:=k) H.out (kB C k0) (kB C O) J;have D:=Di (p1:=uG (97+u) (97+v)) (p2:=uG (97+u) (97+(i+1))) (by omega) S.out;have M1:=EW (u:=97+u) (v:=97+(i+1));have S1:=zM (u:=97+u) (v:=97+(i+1));have x:=ae D;have r0:=ae c0;have o0:=ae J;clear D c0 J S x0
     go_wp2_with fail
     refine x.out.mono ?_;clear x;rintro e w9 c;obtain ⟨g,Q,d,rfl,h,j⟩:=c.ok fun f0 g Q s=>s.1.trans r0.out;obtain ⟨B,rfl⟩:=Pd H.out (kB C k0) (kB C O) o0.out d rfl;have p:=ae (dA.out.trans h);have H9:=ae j;have o:=ae B;clear c d h j B
     go_wp2_with fail
     go_meet
     exact ⟨u,i+1,g,rfl,rfl,by omega,.inr ⟨by omega,Nat.le_refl _⟩,o.out,Jl o.out C k0 O (by omega),p.out,H9.out⟩
   case rest=>
    obtain ⟨F,G,g,rfl,rfl,U1,V1,B,k1,dc,hc⟩:=hcut;have L0:F<26:=by omega
    have N0:G<26:=by omega
    have K:Calls Y 13 #[az t.f,W (str (uG (97+u) (97+v)))] wc _:=sI (p:=uG (97+u) (97+v)) (by omega) hc;rw [k1,if_neg (by decide)] at K;unfold Ql at K;have y:=ae K;have DC:=ae dc;have o:=ae B;have M1:=EW (u:=97+F) (v:=97+G);have S1:=zM (u:=97+F) (v:=97+G);clear K dc hc k1 B S H dA x0 cT
    go_wp2_with fail
    refine y.out.mono ?_;clear y;rintro e w9 ⟨rfl,h,j⟩;have p:=ae ((DC.out.trans h).alloc (X #[Z .i64 0,Z .i64 0,Z .i64 0] 35 (0,0)));have r:=(j.alloc (X #[Z .i64 0,Z .i64 0,Z .i64 0] 35 (0,0))).right;have i0:=MK o.out m0.out L0 N0;have k3:Calls Y 13 #[az t.f,W (str (uG (97+F) (97+G)))] _ _:=sI (p:=uG (97+F) (97+G)) (by omega) r;rw [if_pos i0.1,i0.2,i0.1,z1.out,A1.out,f.out] at k3;unfold Ql at k3;have z:=ae k3;clear h j DC r i0 k3
    go_wp2_with fail
    refine z.out.mono ?_;clear z;generalize (w9.alloc (X #[Z .i64 0,Z .i64 0,Z .i64 0] 35 (0,0)))=d0 at *;rintro e R0 ⟨rfl,Z0,e1⟩;have S0:=ae ((p.out.trans Z0).alloc (X #[Z .i64 1,Z .i64 1,Z .i64 (n:Int)] 35 (0,0)));have f1:=(e1.alloc (X #[Z .i64 1,Z .i64 1,Z .i64 (n:Int)] 35 (0,0))).to (by ac_rfl:_=fu t q m g k (6+(i+1)) [(0,(b,0+n))]*(pt R0.heap.size (X #[Z .i64 1,Z .i64 1,Z .i64 (n:Int)] 35 (0,0))*whole w));have I:=I8 o.out L0 N0;have L:Calls Y 19 #[az t.f,W (str (uG (97+F) (97+G))),Z .i64 0,Z .i64 4096] _ _:=zA (p:=uG (97+F) (97+G)) (a:=0) (c:=4096) (by omega) I f1;rw [I,M8 o.out m0.out (by rw [f.out];omega) L0 N0] at L;have U:=ae L;clear Z0 e1 p f1 I L
    go_wp2_with fail
    refine U.out.mono ?_;clear U;generalize (R0.alloc (X #[Z .i64 1,Z .i64 1,Z .i64 (n:Int)] 35 (0,0)))=E2 at *;generalize R0.heap.size=sc at *;rintro e H2 ⟨b1,⟨h0,_⟩|⟨_,W1,rfl,s0⟩⟩
    .exact absurd rfl h0
    obtain ⟨ua,uc,rfl⟩:=s0.me.shape;have T0:=ae (S0.out.trans b1);have V:=ae (l8 (by omega) (s0.to (aI _ _ _)));rw [f.out];clear b1 s0 S0
    go_wp2_with fail
    refine V.out.mono ?_;clear V;rintro e R ⟨rfl,c1,N⟩;have u1:=ae (T0.out.trans c1);have s1:R.cell? ⟨sc,1,none⟩=some (Z .i64 1):=N.au.cell 1;have s2:R.cell? ⟨sc,2,none⟩=some (Z .i64 (n:Int)):=N.au.cell 2;have cx:(convert 22 9 (.slice ua n uc)).run Y R = .ok (W (str l)) R:=jz _ _ _ (f.out▸N.ah.me);have cy:(convert 22 9 (.slice a0 n A)).run Y R = .ok (W (str l)) R:=jz _ _ _ ((yW HR.out).carry fun a u P=>(N.to (by ac_rfl:_=(fu t q m g k (6+(i+1)) [(0,(b,0+n))]*(bs 5 (.slice ua l.length uc) l*pt sc (X #[Z .i64 1,Z .i64 1,Z .i64 (n:Int)] 35 (0,0))))*whole w)).bJ P);have x1:=ae (N.to (by ac_rfl:_=(bs 5 (.slice ua l.length uc) l*pt sc (X #[Z .i64 1,Z .i64 1,Z .i64 (n:Int)] 35 (0,0)))*(fu t q m g k (6+(i+1)) [(0,(b,0+n))]*whole w))).right;clear c1 N T0
    go_wp2_with fail
    refine ⟨⟨i+1,F,G,g,by omega,U1,V1,by simp,rfl,rfl,o.out,u1.out,x1.out⟩,?_⟩;simp [intOf];omega
  .have R1:(¬ (i:Int)<(E:Int))\/((i:Int)<(E:Int)/\¬ (i:Int)<10):=by omega
   have y:=ae (Ox (fd:=0) (o:=0) (wh:=0) (by omega) (show aP [((0:Int),(b,0+n))] 0=some (b,0+n) from rfl) H.out.fb (by omega) (by decide) T.out);have y1:=ae (show gJ b0.sz (0+n) 0 0=0 by simp [gJ,eG]);clear p1 T;rcases R1 with ho|⟨u2,v2⟩
   all_goals
    go_wp2_with fail
    refine y.out.mono ?_;clear y;rintro e w9 c;obtain ⟨rfl,h,j⟩:=Rl (a2:=0) c y1.out (by simp [eG]);have p:=ae (DS.out.trans h);have k3:=R9 (fd:=0) (c:=4096) (by omega) (show aP (eu [((0:Int),(b,0+n))] 0 (b,0)) 0=some (b,0) by unfold eu;rw [jI,if_pos rfl]) H.out.fb (by omega) j;rw [te m0.out,show (l.drop 0).take (4096:Int).toNat=l by rw [List.drop_zero];exact List.take_of_length_le (by rw [f.out];show n<=4096;omega)] at k3;have z:=ae k3;clear c h j DS k3
    go_wp2_with fail
    refine z.out.mono ?_;clear z;rintro e d0 ⟨Y0,⟨h0,_⟩|⟨_,W1,rfl,r⟩⟩
    .exact absurd (show nk 4096=0 by decide) h0
    obtain ⟨ua,uc,rfl⟩:=r.me.shape;rw [f.out];have t1:=ae (p.out.trans Y0);have cx:(convert 22 9 (.slice ua n uc)).run Y d0 = .ok (W (str l)) d0:=jz _ _ _ (f.out▸r.me);have cy:(convert 22 9 (.slice a0 n A)).run Y d0 = .ok (W (str l)) d0:=jz _ _ _ ((yW HR.out).carry fun a u P=>(r.to (ax _ _ _).symm).bJ P);have v1:=ae r.right.right;clear Y0 r p
    go_wp2_with fail
    exact HQ.out _ _ ⟨rfl,v1.out,t1.out⟩
end Go.Proofs.Cl
